/- Texts of this claim, joined (the program, its functions in plain words, and what they compute). -/
import Derived.Test.YtoknknbmfmddbaaGreatDoorGC3
set_option autoImplicit false
set_option linter.unusedVariables false
set_option linter.unusedSectionVars false
set_option linter.unusedSimpArgs false
set_option maxRecDepth 1000000
set_option maxHeartbeats 0
noncomputable section
namespace Go.Proofs.YtoknknbmfmddbaaGreatDoor
open Go Go.Ab
open Go.Proofs.Tryz
def zRk:=zbG base 9 []
def zTX (n_:Int):Wy0 (yB):=.i (decide (n_<1)) (.k []) (.k [TO.mk (if 1152921504606846976<n_ then 1152921504606846976 else n_) []])
def zyY (n_:Int):=(zTX n_).fin default
def zzl:=zh zUr λx=>((zyY x.1).1,zZa (zyY x.1).2)
theorem zK5:SdP 197 zzl:=
 sT (cx':=zRk) (zk trivial) call197 func197 (lOK aN) (sg:=⟨[.own 107],[]⟩)
def zv2:=zbG base 27 []
def zwj (n_:Int):Wy0 (yC):=.i (decide (n_<0)) .d (.i (decide (IntKind.i64.wrap (n_ - IntKind.i64.wrap (0 - 0))>0)) (.i (decide (0<IntKind.i64.wrap (n_ - IntKind.i64.wrap (0 - 0)))&&(decide (IntKind.i64.wrap (n_ - IntKind.i64.wrap (0 - 0))*Int.ofNat 128<=Int.ofNat zbm)&&(decide (IntKind.i64.wrap (n_ - IntKind.i64.wrap (0 - 0))<=Int.ofNat zbm)&& !Nat.beq 11 0))) (.k (List.take (Int.toNat 0 - Int.toNat 0) (List.replicate (IntKind.i64.wrap (n_ - IntKind.i64.wrap (0 - 0))).toNat (FO.mk (At.mk 0 (RowID.mk 0 0) [] 0 [] 0 (Value.mk 0 0 (ByteArray.mk #[]))) 0)))) .d) (.k []))
def zhT (n_:Int):=(zwj n_).fin default
def zuZ (r:yC):ARes ty:=⟨[.own 145 r],[]⟩
def zka:=zh zvY λx=>((zhT x.2.1).1,zuZ (zhT x.2.1).2)
theorem ztx:SdP 303 zka:=
 sT (cx':=zv2) (zk trivial) call303 func303 (lOK aN) (sg:=⟨[.own 145],[]⟩)
abbrev zer:=List (yC)×Int×List (yC)×Int×Int×Unit
abbrev zml:=List (yC)×Int
abbrev zen:=Unit×List (yC)×Int×Int×Unit
abbrev zeo:=yC×Unit
def zuq (slices:List (yC)) (size:Int) (t9:List (yC)) (t10:Int) (t11:Int):Wy zer Unit zml:=.i (decide (t11<t10)) (.i (decide (0<=t11)&&decide (t11<Int.ofNat t9.length)) (.i (decide (IntKind.i64.wrap (size+Int.ofNat (List.length (t9.getD t11.toNat default)))<0)) .d (.h (slices,(IntKind.i64.wrap (size+Int.ofNat (List.length (t9.getD t11.toNat default)))),t9,t10,(IntKind.i64.wrap (t11+1)),()) ())) .d) (.k (slices,size))
def zkb (x:zer) (y:Unit):=zuq x.1 x.2.1 x.2.2.1 x.2.2.2.1 x.2.2.2.2.1
def zt6 (n:Nat) (slices:List (yC)) (size:Int) (t9:List (yC)) (t10:Int) (t11:Int):=zD (zkb) default n (slices,size,t9,t10,t11,()) ()
def zt2 (r:zml):LTree ty:=.done (.exit 0) [.sl 105 r.1,.lit (.int .i64 r.2)] []
def zuy:LL ty zer:=za (lSl 105) (za zj (za (lSl 105) (za zj (za zj zn))))
def ztz (t25:List (yC)) (t26:Int) (t27:Int) (newslice:yC):Wy zen zeo (yC):=.i (decide (t27<t26)) (.i (decide (0<=t27)&&decide (t27<Int.ofNat t25.length)) (.i (decide ((newslice.length+List.length (t25.getD t27.toNat default))*128<=zbm)) (.h ((),t25,t26,(IntKind.i64.wrap (t27+1)),()) ((newslice++t25.getD t27.toNat default),())) .d) .d) (.k newslice)
def zjW (x:zen) (y:zeo):=ztz x.2.1 x.2.2.1 x.2.2.2.1 y.1
def ztV (n:Nat) (t25:List (yC)) (t26:Int) (t27:Int) (newslice:yC):=zD (zjW) default n ((),t25,t26,t27,()) (newslice,())
def zsI (r:yC):LTree ty:=.done (.exit 2) [.own 144] [.arr 145 r false]
def ztK:LL ty zen:=za (zcG 144) (za (lSl 105) (za zj (za zj zn)))
def ztI:BL ty zeo:=zcV 145 false (zbd)
def zti (x:zer) (y:Unit):Nat:=(x.1.length+Int.toNat x.2.1+x.2.2.1.length+Int.toNat x.2.2.2.1+Int.toNat x.2.2.2.2.1+1)
def zsO (x:zen) (y:zeo):Nat:=(x.2.1.length+Int.toNat x.2.2.1+Int.toNat x.2.2.2.1+y.1.length+1)
def zfw:=zb4 base 36 [(303,zka)] [] [(3,(kpL [0,3,9,10,11])),(11,(kpL [6,25,26,27]))] [(3,1,(kpL [0,3])),(11,3,(kpL [6]))] [(3,spW zuy z0j (zkb) default zt2 zti),(11,spW ztK ztI (zjW) default zsI zsO)] [303]
theorem zto:zM zfw (lp (body f282) 0):=zu (id:=3) (hl:=rfl)
theorem zsJ:zM zfw (lp (body f282) 1):=zu (id:=11) (hl:=rfl)
def zvg (slices:List (yC)):Wy0 (yC):=.bn (zt6 (slices.length+Int.toNat 0+slices.length+(Int.ofNat slices.length).toNat +Int.toNat 0+1) slices 0 slices (Int.ofNat slices.length) 0) λr2=>.bn (zhT r2.2) λr1=>.bn (ztV (r2.1.length+(Int.ofNat r2.1.length).toNat +Int.toNat 0+r1.length+1) r2.1 (Int.ofNat r2.1.length) 0 r1) λr0=>.k r0
def zgT (slices:List (yC)):=(zvg slices).fin default
def zu9:AL base (List (yC)×Unit):=zd (zg (vSl 105)) zw
def zjk:=zh zu9 λx=>((zgT x.1).1,zuZ (zgT x.1).2)
theorem zsr:SdP 282 zjk:=
 sT (cx':=zfw) (zk ⟨ztx,trivial⟩) call282 func282 (lOK (aC zto (aC zsJ aN))) (sg:=⟨[.own 145],[]⟩)
abbrev zrf:=yC×yC×Unit×Unit
abbrev zqx:=yC×Unit
abbrev zEo:=yC×yC×yC
def zSC (a:yC) (b:yC) (out_:yC):Wy zrf zqx zEo:=.i (decide (Int.ofNat a.length>0)) (.i (decide (Int.ofNat b.length>0)) (.i (decide ((0:Int)<=(0:Int))&&decide (0<Int.ofNat a.length)) (.i (decide ((0:Int)<=(0:Int))&&decide (0<Int.ofNat b.length)) (.bn (zhC (At.mk (a.getD (Int.toNat 0) default).At.Kind (a.getD (Int.toNat 0) default).At.Row (a.getD (Int.toNat 0) default).At.Ag (a.getD (Int.toNat 0) default).At.Func (a.getD (Int.toNat 0) default).At.Items (a.getD (Int.toNat 0) default).At.Op (a.getD (Int.toNat 0) default).At.Bd) (At.mk (b.getD (Int.toNat 0) default).At.Kind (b.getD (Int.toNat 0) default).At.Row (b.getD (Int.toNat 0) default).At.Ag (b.getD (Int.toNat 0) default).At.Func (b.getD (Int.toNat 0) default).At.Items (b.getD (Int.toNat 0) default).At.Op (b.getD (Int.toNat 0) default).At.Bd)) λr1=>.i (decide (r1<0)) (.i (decide ((0:Int)<=(0:Int))&&decide (0<Int.ofNat a.length)) (.i (decide ((out_.length+[FO.mk (At.mk (a.getD (Int.toNat 0) default).At.Kind (a.getD (Int.toNat 0) default).At.Row (a.getD (Int.toNat 0) default).At.Ag (a.getD (Int.toNat 0) default).At.Func (a.getD (Int.toNat 0) default).At.Items (a.getD (Int.toNat 0) default).At.Op (a.getD (Int.toNat 0) default).At.Bd) (a.getD (Int.toNat 0) default).Exp].length)*128<=zbm)) (.i (decide ((0:Int)<=(1:Int))&&decide (1<=Int.ofNat a.length)&&decide (Int.ofNat a.length<=Int.ofNat a.length)) (.h ((List.take ((Int.ofNat a.length).toNat - Int.toNat 1) (List.drop (Int.toNat 1) a)),b,(),()) ((out_++[FO.mk (At.mk (a.getD (Int.toNat 0) default).At.Kind (a.getD (Int.toNat 0) default).At.Row (a.getD (Int.toNat 0) default).At.Ag (a.getD (Int.toNat 0) default).At.Func (a.getD (Int.toNat 0) default).At.Items (a.getD (Int.toNat 0) default).At.Op (a.getD (Int.toNat 0) default).At.Bd) (a.getD (Int.toNat 0) default).Exp]),())) .d) .d) .d) (.i (decide (r1>0)) (.i (decide ((0:Int)<=(0:Int))&&decide (0<Int.ofNat b.length)) (.i (decide ((out_.length+[FO.mk (At.mk (b.getD (Int.toNat 0) default).At.Kind (b.getD (Int.toNat 0) default).At.Row (b.getD (Int.toNat 0) default).At.Ag (b.getD (Int.toNat 0) default).At.Func (b.getD (Int.toNat 0) default).At.Items (b.getD (Int.toNat 0) default).At.Op (b.getD (Int.toNat 0) default).At.Bd) (b.getD (Int.toNat 0) default).Exp].length)*128<=zbm)) (.i (decide ((0:Int)<=(1:Int))&&decide (1<=Int.ofNat b.length)&&decide (Int.ofNat b.length<=Int.ofNat b.length)) (.h (a,(List.take ((Int.ofNat b.length).toNat - Int.toNat 1) (List.drop (Int.toNat 1) b)),(),()) ((out_++[FO.mk (At.mk (b.getD (Int.toNat 0) default).At.Kind (b.getD (Int.toNat 0) default).At.Row (b.getD (Int.toNat 0) default).At.Ag (b.getD (Int.toNat 0) default).At.Func (b.getD (Int.toNat 0) default).At.Items (b.getD (Int.toNat 0) default).At.Op (b.getD (Int.toNat 0) default).At.Bd) (b.getD (Int.toNat 0) default).Exp]),())) .d) .d) .d) (.i (decide ((0:Int)<=(0:Int))&&decide (0<Int.ofNat a.length)) (.bn (zeR (At.mk (a.getD (Int.toNat 0) default).At.Kind (a.getD (Int.toNat 0) default).At.Row (a.getD (Int.toNat 0) default).At.Ag (a.getD (Int.toNat 0) default).At.Func (a.getD (Int.toNat 0) default).At.Items (a.getD (Int.toNat 0) default).At.Op (a.getD (Int.toNat 0) default).At.Bd)) λr0=>.i (!r0) (.i (decide ((0:Int)<=(0:Int))&&decide (0<Int.ofNat b.length)) (.i (decide ((out_.length+[FO.mk (At.mk (a.getD (Int.toNat 0) default).At.Kind (a.getD (Int.toNat 0) default).At.Row (a.getD (Int.toNat 0) default).At.Ag (a.getD (Int.toNat 0) default).At.Func (a.getD (Int.toNat 0) default).At.Items (a.getD (Int.toNat 0) default).At.Op (a.getD (Int.toNat 0) default).At.Bd) (IntKind.i64.wrap ((a.getD (Int.toNat 0) default).Exp+(b.getD (Int.toNat 0) default).Exp))].length)*128<=zbm)) (.i (decide ((0:Int)<=(1:Int))&&decide (1<=Int.ofNat a.length)&&decide (Int.ofNat a.length<=Int.ofNat a.length)) (.i (decide ((0:Int)<=(1:Int))&&decide (1<=Int.ofNat b.length)&&decide (Int.ofNat b.length<=Int.ofNat b.length)) (.h ((List.take ((Int.ofNat a.length).toNat - Int.toNat 1) (List.drop (Int.toNat 1) a)),(List.take ((Int.ofNat b.length).toNat - Int.toNat 1) (List.drop (Int.toNat 1) b)),(),()) ((out_++[FO.mk (At.mk (a.getD (Int.toNat 0) default).At.Kind (a.getD (Int.toNat 0) default).At.Row (a.getD (Int.toNat 0) default).At.Ag (a.getD (Int.toNat 0) default).At.Func (a.getD (Int.toNat 0) default).At.Items (a.getD (Int.toNat 0) default).At.Op (a.getD (Int.toNat 0) default).At.Bd) (IntKind.i64.wrap ((a.getD (Int.toNat 0) default).Exp+(b.getD (Int.toNat 0) default).Exp))]),())) .d) .d) .d) .d) (.i (decide ((out_.length+[FO.mk (At.mk (a.getD (Int.toNat 0) default).At.Kind (a.getD (Int.toNat 0) default).At.Row (a.getD (Int.toNat 0) default).At.Ag (a.getD (Int.toNat 0) default).At.Func (a.getD (Int.toNat 0) default).At.Items (a.getD (Int.toNat 0) default).At.Op (a.getD (Int.toNat 0) default).At.Bd) (a.getD (Int.toNat 0) default).Exp].length)*128<=zbm)) (.i (decide ((0:Int)<=(1:Int))&&decide (1<=Int.ofNat a.length)&&decide (Int.ofNat a.length<=Int.ofNat a.length)) (.i (decide ((0:Int)<=(1:Int))&&decide (1<=Int.ofNat b.length)&&decide (Int.ofNat b.length<=Int.ofNat b.length)) (.h ((List.take ((Int.ofNat a.length).toNat - Int.toNat 1) (List.drop (Int.toNat 1) a)),(List.take ((Int.ofNat b.length).toNat - Int.toNat 1) (List.drop (Int.toNat 1) b)),(),()) ((out_++[FO.mk (At.mk (a.getD (Int.toNat 0) default).At.Kind (a.getD (Int.toNat 0) default).At.Row (a.getD (Int.toNat 0) default).At.Ag (a.getD (Int.toNat 0) default).At.Func (a.getD (Int.toNat 0) default).At.Items (a.getD (Int.toNat 0) default).At.Op (a.getD (Int.toNat 0) default).At.Bd) (a.getD (Int.toNat 0) default).Exp]),())) .d) .d) .d)) .d))) .d) .d) (.k (a,b,out_))) (.k (a,b,out_))
def zEl (x:zrf) (y:zqx):=zSC x.1 x.2.1 y.1
def zTd (n:Nat) (a:yC) (b:yC) (out_:yC):=zD (zEl) default n (a,b,(),()) (out_,())
def zQr (r:zEo):LTree ty:=.done (.exit 0) [.sl 145 r.1,.sl 145 r.2.1,.own 300] [.arr 145 r.2.2 false]
def zSv:LL ty zrf:=za (lSl 145) (za (lSl 145) (za (zcG 300) zn))
def zRV:BL ty zqx:=zcV 145 false (zbd)
def zQ3 (x:zrf) (y:zqx):Nat:=(x.1.length+x.2.1.length+y.1.length+1)
def zEe:=zb4 base 75 [(105,ziq),(106,zkS),(282,zjk)] [] [(2,[(0,.keep),(1,.keep),(5,.own 145)])] [(2,1,(kpL [0,1,5]))] [(2,spW zSv zRV (zEl) default zQr zQ3)] []
theorem zQi:zM zEe (lp (body f239) 0):=zu (id:=2) (hl:=rfl)
def zUq (a:yC) (b:yC):Wy0 (yC):=.bn (zTd (a.length+b.length+0+1) a b []) λr5=>.bn (zgT [r5.2.2,r5.1,r5.2.1]) λr4=>.k r4
def zAp (a:yC) (b:yC):=(zUq a b).fin default
def zUB:AL base (yC×yC×Unit):=zd (zg (vSl 145)) (zd (zg (vSl 145)) zw)
def zAw:=zh zUB λx=>((zAp x.1 x.2.1).1,zuZ (zAp x.1 x.2.1).2)
theorem zMU:SdP 239 zAw:=
 sT (cx':=zEe) (zk ⟨zlv,zrF,zsr,trivial⟩) call239 func239 (lOK (aC zQi aN)) (sg:=⟨[.own 145],[]⟩)
def zQw:=zbG base 12 []
def zS3 (a:Int) (b:Int):Wy0 (Int):=.i (!decide (b=0)) (.i (decide (a>IntKind.i64.wrap (Int.tdiv 1152921504606846976 b))) (.k 1152921504606846976) (.k (IntKind.i64.wrap (a*b)))) .d
def zy1 (a:Int) (b:Int):=(zS3 a b).fin default
def zzu:=zh zQ2 λx=>((zy1 x.1 x.2.1).1,zLf (zy1 x.1 x.2.1).2)
theorem zKL:SdP 238 zzu:=
 sT (cx':=zQw) (zk trivial) call238 func238 (lOK aN)
abbrev zrJ:=yB×Unit×Unit×yB×Int×Int×yB×Int×Int×Unit
abbrev zrT:=yB×Term×Unit
abbrev zFx:=yB×yB×Int×Int×yB
abbrev zrX:=yB×Unit×yB×Int×Int×Unit
abbrev zrL:=yB×Unit
def zUs (b:yB) (t19:yB) (t20:Int) (t21:Int) (t25:yB) (t26:Int) (t27:Int) (terms:yB) (x_:Term):Wy zrJ zrT zFx:=.i (decide (t27<t26)) (.i (decide (0<=t27)&&decide (t27<Int.ofNat t25.length)) (.bn (zy1 x_.Cf (t25.getD t27.toNat default).Cf) λr5=>.bn (zAp x_.Fs (t25.getD t27.toNat default).Fs) λr4=>.i (decide ((terms.length+[TO.mk r5 r4].length)*32<=zbm)) (.h (b,(),(),t19,t20,t21,t25,t26,(IntKind.i64.wrap (t27+1)),()) ((terms++[TO.mk r5 r4]),x_,())) .d) .d) (.k (b,t19,t20,t21,terms))
def zFG (x:zrJ) (y:zrT):=zUs x.1 x.2.2.2.1 x.2.2.2.2.1 x.2.2.2.2.2.1 x.2.2.2.2.2.2.1 x.2.2.2.2.2.2.2.1 x.2.2.2.2.2.2.2.2.1 y.1 y.2.1
def zUm (n:Nat) (b:yB) (t19:yB) (t20:Int) (t21:Int) (t25:yB) (t26:Int) (t27:Int) (terms:yB) (x_:Term):=zD (zFG) default n (b,(),(),t19,t20,t21,t25,t26,t27,()) (terms,x_,())
def zTV (r:zFx):LTree ty:=.done (.exit 2) [.sl 107 r.1,.own 208,.sl 107 r.2.1,.lit (.int .i64 r.2.2.1),.lit (.int .i64 r.2.2.2.1)] [.arr 107 r.2.2.2.2 false]
def zUY:LL ty zrJ:=za (lSl 107) (za (zcG 208) (za (zde 209 0) (za (lSl 107) (za zj (za zj (za (lSl 107) (za zj (za zj zn))))))))
def zUv:BL ty zrT:=zcV 107 false (zev (zgF (λx=>(⟨x.1,x.2.1⟩:Term)) (λx=>(x.Cf,x.Fs,())) (λ_=>rfl) (za (zN .i64) (za (lSl 145) zn))) false (zbd))
def zUx (b:yB) (t19:yB) (t20:Int) (t21:Int) (terms:yB):Wy zrX zrL (yB):=.i (decide (t21<t20)) (.i (decide (0<=t21)&&decide (t21<Int.ofNat t19.length)) (.bn (zUm (b.length+t19.length+t20.toNat +t21.toNat +b.length+(Int.ofNat b.length).toNat +Int.toNat 0+terms.length+(t19.getD t21.toNat default).Fs.length+1) b t19 t20 t21 b (Int.ofNat b.length) 0 terms (t19.getD t21.toNat default)) λr8=>.h ((r8.1),(),(r8.2.1),(r8.2.2.1),(IntKind.i64.wrap (r8.2.2.2.1+1)),()) ((r8.2.2.2.2),())) .d) (.k terms)
def zFw (x:zrX) (y:zrL):=zUx x.1 x.2.2.1 x.2.2.2.1 x.2.2.2.2.1 y.1
def zUK (n:Nat) (b:yB) (t19:yB) (t20:Int) (t21:Int) (terms:yB):=zD (zFw) default n (b,(),t19,t20,t21,()) (terms,())
def zUw:LL ty zrX:=za (lSl 107) (za (zcG 208) (za (lSl 107) (za zj (za zj zn))))
def zUk:BL ty zrL:=zcV 107 false (zbd)
def zTg (x:zrJ) (y:zrT):Nat:=(x.1.length+x.2.2.2.1.length+Int.toNat x.2.2.2.2.1+Int.toNat x.2.2.2.2.2.1+x.2.2.2.2.2.2.1.length+Int.toNat x.2.2.2.2.2.2.2.1+Int.toNat x.2.2.2.2.2.2.2.2.1+y.1.length+y.2.1.Fs.length+1)
def zSQ (x:zrX) (y:zrL):Nat:=(x.1.length+x.2.2.1.length+Int.toNat x.2.2.2.1+Int.toNat x.2.2.2.2.1+y.1.length+1)
def zxF:=zb4 zby 52 [(52,zce),(124,zdX),(125,zpF),(238,zzu),(239,zAw)] [] [(5,[(1,.keep),(6,.own 107),(19,.keep),(20,.keep),(21,.keep)]),(8,[(1,.keep),(6,.own 107),(8,.keep),(19,.keep),(20,.keep),(21,.keep),(25,.keep),(26,.keep),(27,.keep)])] [(5,1,(kpL [6])),(8,3,(kpL [1,6,19,20,21]))] [(8,spW zUY zUv (zFG) default zTV zTg),(5,spW zUw zUk (zFw) default zKA zSQ)] []
theorem zTj:zM zxF (lp (body f199) 1):=zu (id:=8) (hl:=rfl)
theorem zSY:zM zxF (lp (body f199) 0):=zu (id:=5) (hl:=rfl)
def zWy (a:yB) (b:yB):Wy0 (yB×Int):=.bn (zcs a) λr14=>.i (!r14) (.k ([],1)) (.bn (zcs b) λr13=>.i (!r13) (.k ([],1)) (.bn (zUK (b.length+a.length+(Int.ofNat a.length).toNat +Int.toNat 0+0+1) b a (Int.ofNat a.length) 0 []) λr12=>.bn (zrg r12) λr11=>.bn (ze5 r11) λr10=>.k (r10.1,r10.2)))
def zCN (a:yB) (b:yB):=(zWy a b).fin default
def zBU:=zh zWJ λx=>((zCN x.1 x.2.1).1,zKh (zCN x.1 x.2.1).2)
theorem zOY:Sound Tryz.prog zby 199 zBU:=
 sU (cx':=zxF) (zk ⟨zck.nodr,zeQ.nodr,zwJ,zKL.nodr,zMU.nodr,trivial⟩) call199 func199 (lOK (aC zSY (aC zTj aN))) (sg:=⟨[.own 107,.pure],[]⟩)
def zBt:=zbG base 8 []
def zBD (b:Bg) (p1:RowID):Wy0 (Bool):=.k (b.Row.Table==p1.Table&&(b.Row.Seq==p1.Seq&&true))
def zlT (b:Bg) (p1:RowID):=(zBD b p1).fin default
def zBB:AL base (Bg×RowID×Unit):=zd (zg (zcj 65)) (zd (zg (zYt 63)) zw)
def ziA:=zh zBB λx=>((zlT x.1 x.2.1).1,zQZ (zlT x.1 x.2.1).2)
theorem zoe:SdP 140 ziA:=
 sT (cx':=zBt) (zk trivial) call140 func140 (lOK aN)
def zOz:=zbG base 8 []
def zQv (x_:At):Wy0 (yB):=.k [TO.mk 1 [FO.mk (At.mk x_.Kind x_.Row x_.Ag x_.Func x_.Items x_.Op x_.Bd) 1]]
def zhU (x_:At):=(zQv x_).fin default
def zfJ:=zh z1X λx=>((zhU x.1).1,zZa (zhU x.1).2)
theorem zhw:SdP 117 zfJ:=
 sT (cx':=zOz) (zk trivial) call117 func117 (lOK aN) (sg:=⟨[.own 107],[]⟩)
def zUR:=zbG base 9 [(116,zrW),(117,zfJ)]
def zVV (id:RowID):Wy0 (yB):=.bn (zoJ id) λr0=>.i (!r0) (.k []) (.k ((zhU (At.mk 0 id [] 0 [] 0 (Value.mk 0 0 (ByteArray.mk #[])))).2))
def zCV (id:RowID):=(zVV id).fin default
def zBS:=zh z3p λx=>((zCV x.1).1,zZa (zCV x.1).2)
theorem zOg:SdP 63 zBS:=
 sT (cx':=zUR) (zk ⟨zv9,zhw,trivial⟩) call63 func63 (lOK aN) (sg:=⟨[.own 107],[]⟩)
abbrev zdm:=yF×(RowID×Unit)×Int×Int×Unit
def zpz (s:yF) (f:RowID) (t7:Int) (t8:Int):Wy zdm Unit (Int⊕Unit):=.i (decide (t8<t7)) (.i (decide (0<=t8)&&decide (t8<Int.ofNat s.length)) (.i ((zlT (s.getD t8.toNat default) f).2) (.k (.inl t8)) (.h (s,(f,()),t7,(IntKind.i64.wrap (t8+1)),()) ())) .d) (.k (.inr ()))
def zhb (x:zdm) (y:Unit):=zpz x.1 x.2.1.1 x.2.2.1 x.2.2.2.1
def zpj (n:Nat) (s:yF) (f:RowID) (t7:Int) (t8:Int):=zD (zhb) (.inl default) n (s,(f,()),t7,t8,()) ()
def zpk:LL ty zdm:=za (lSl 65) (za (lFn 140 (za (zDo (zgF (λx=>(⟨x.1,x.2.1⟩:RowID)) (λx=>(x.Table,x.Seq,())) (λ_=>rfl) (za zj (za zj zn))) 0) zn)) (za zj (za zj zn)))
def zoR (x:zdm) (y:Unit):Nat:=(x.1.length+Int.toNat x.2.2.1+Int.toNat x.2.2.2.1+1)
def zhc:=zb4 base 19 [(140,ziA)] [] [(2,(kpL [0,1,7,8]))] [(2,1,[]),(2,0,(kpL [4]))] [(2,spW zpk z0j (zhb) (.inl default) zpL zoR)] []
theorem zo1:zM zhc (lp (body f139) 0):=zu (id:=2) (hl:=rfl)
def zp0 (s:yF) (f:RowID):Wy0 (Int):=.bn (zpj (s.length+(Int.ofNat s.length).toNat +Int.toNat 0+1) s f (Int.ofNat s.length) 0) λr0=>.i (isL r0) (.k (getL r0)) (.k (-1:Int))
def zel (s:yF) (f:RowID):=(zp0 s f).fin default
def zpU:AL base (yF×(RowID×Unit)×Unit):=zd (zg (vSl 65)) (zd (zg (vFn 140 (zrP (zYt 63) zcr))) zw)
def zgy:=zh zpU λx=>((zel x.1 x.2.1.1).1,zLf (zel x.1 x.2.1.1).2)
theorem zn5:SdP 139 zgy:=
 sT (cx':=zhc) (zk ⟨zoe,trivial⟩) call139 func139 (lOK (aC zo1 aN))
def zDK:=zbG base 18 [(63,zBS),(139,zgy),(140,ziA),(141,zfH)]
def zEZ (id:RowID) (p1:yF):Wy0 (yB):=.bn (zel p1 id) λr2=>.i (decide (r2≥0)) (.i (decide (0<=r2)&&decide (r2<Int.ofNat p1.length)) (.bn (zhP (p1.getD r2.toNat default).To) λr0=>.k r0) .d) (.bn (zCV id) λr1=>.k r1)
def zo2 (id:RowID) (p1:yF):=(zEZ id p1).fin default
def zFa:AL base (RowID×(yF×Unit)×Unit):=zd (zg (zcj 63)) (zd (zg (zYw (zrP (vSl 65) zcr))) zw)
def zgE:=zh zFa λx=>((zo2 x.1 x.2.1.1).1,zZa (zo2 x.1 x.2.1.1).2)
theorem zjv:SdP 138 zgE:=
 sT (cx':=zDK) (zk ⟨zOg,zn5,zoe,zhz,trivial⟩) call138 func138 (lOK aN) (sg:=⟨[.own 107],[]⟩)
abbrev zmk:=((yF×Unit)×Unit)×Unit×Unit×yB×Int×yB×Int×Int×yC×Int×Int×Int×Int×Unit
abbrev zdS:=yB×yB×Unit
abbrev zzG:=yF×Int×yB×Int×Int×yC×Int×Int×yB×yB
abbrev zmg:=((yF×Unit)×Unit)×Unit×Unit×yB×Int×Int×yC×Int×Int×Unit
abbrev zzw:=Int⊕(yF×yB×Int×Int×yB×yB)
abbrev zmt:=((yF×Unit)×Unit)×Unit×yB×Int×Int×Unit
abbrev zmv:=yB×Unit
abbrev zzd:=Int⊕yB
def zHP (zm:At->yF->Bool×(yB×Int)) (to:yF) (b:yB) (e:Int) (t16:yB) (t17:Int) (t18:Int) (t26:yC) (t27:Int) (t28:Int) (t40:Int) (t41:Int) (sum:yB) (product:yB):Wy zmk zdS zzG:=.i (decide (t41<t40)) (.i (e==0) (.bn (zCN product b) λr6=>.h (((to,()),()),(),(),b,(r6.2),t16,t17,t18,t26,t27,t28,t40,(IntKind.i64.wrap (t41+1)),()) (sum,(r6.1),())) (.h (((to,()),()),(),(),b,e,t16,t17,t18,t26,t27,t28,t40,(IntKind.i64.wrap (t41+1)),()) (sum,product,()))) (.k (to,e,t16,t17,t18,t26,t27,t28,sum,product))
def zwO (zm:At->yF->Bool×(yB×Int)) (x:zmk) (y:zdS):=zHP zm x.1.1.1 x.2.2.2.1 x.2.2.2.2.1 x.2.2.2.2.2.1 x.2.2.2.2.2.2.1 x.2.2.2.2.2.2.2.1 x.2.2.2.2.2.2.2.2.1 x.2.2.2.2.2.2.2.2.2.1 x.2.2.2.2.2.2.2.2.2.2.1 x.2.2.2.2.2.2.2.2.2.2.2.1 x.2.2.2.2.2.2.2.2.2.2.2.2.1 y.1 y.2.1
def zGL (zm:At->yF->Bool×(yB×Int)) (n:Nat) (to:yF) (b:yB) (e:Int) (t16:yB) (t17:Int) (t18:Int) (t26:yC) (t27:Int) (t28:Int) (t40:Int) (t41:Int) (sum:yB) (product:yB):=zD (zwO zm) default n (((to,()),()),(),(),b,e,t16,t17,t18,t26,t27,t28,t40,t41,()) (sum,product,())
def zF2 (r:zzG):LTree ty:=.done (.exit 4) [.fn 138 ([.bptr ([.sl 65 r.1]) 0]),.own 272,.own 273,.lit (.int .i64 r.2.1),.sl 107 r.2.2.1,.lit (.int .i64 r.2.2.2.1),.lit (.int .i64 r.2.2.2.2.1),.sl 145 r.2.2.2.2.2.1,.lit (.int .i64 r.2.2.2.2.2.2.1),.lit (.int .i64 r.2.2.2.2.2.2.2.1)] [.arr 107 r.2.2.2.2.2.2.2.2.1 false,.arr 107 r.2.2.2.2.2.2.2.2.2 false]
def zG9:LL ty zmk:=za (lFn 138 (za (zDo (za (lSl 65) zn) 0) zn)) (za (zcG 272) (za (zcG 273) (za (lSl 107) (za zj (za (lSl 107) (za zj (za zj (za (lSl 145) (za zj (za zj (za zj (za zj zn))))))))))))
def zHg:BL ty zdS:=zcV 107 false (zcV 107 false (zbd))
def zIN (zm:At->yF->Bool×(yB×Int)) (to:yF) (t16:yB) (t17:Int) (t18:Int) (t26:yC) (t27:Int) (t28:Int) (sum:yB) (product:yB):Wy zmg zdS zzw:=.i (decide (t28<t27)) (.i (decide (0<=t28)&&decide (t28<Int.ofNat t26.length)) (.bn (zm (At.mk (t26.getD t28.toNat default).At.Kind (t26.getD t28.toNat default).At.Row (t26.getD t28.toNat default).At.Ag (t26.getD t28.toNat default).At.Func (t26.getD t28.toNat default).At.Items (t26.getD t28.toNat default).At.Op (t26.getD t28.toNat default).At.Bd) to) λr9=>.bn (zGL zm (to.length+r9.1.length+r9.2.toNat +t16.length+t17.toNat +t18.toNat +t26.length+t27.toNat +t28.toNat +(t26.getD t28.toNat default).Exp.toNat +Int.toNat 0+sum.length+product.length+1) to r9.1 r9.2 t16 t17 t18 t26 t27 t28 (t26.getD t28.toNat default).Exp 0 sum product) λr8=>.i (r8.2.1 != 0) (.k (.inl (r8.2.1))) (.h ((((r8.1),()),()),(),(),(r8.2.2.1),(r8.2.2.2.1),(r8.2.2.2.2.1),(r8.2.2.2.2.2.1),(r8.2.2.2.2.2.2.1),(IntKind.i64.wrap (r8.2.2.2.2.2.2.2.1+1)),()) ((r8.2.2.2.2.2.2.2.2.1),(r8.2.2.2.2.2.2.2.2.2),()))) .d) (.k (.inr (to,t16,t17,t18,sum,product)))
def zxm (zm:At->yF->Bool×(yB×Int)) (x:zmg) (y:zdS):=zIN zm x.1.1.1 x.2.2.2.1 x.2.2.2.2.1 x.2.2.2.2.2.1 x.2.2.2.2.2.2.1 x.2.2.2.2.2.2.2.1 x.2.2.2.2.2.2.2.2.1 y.1 y.2.1
def zIG (zm:At->yF->Bool×(yB×Int)) (n:Nat) (to:yF) (t16:yB) (t17:Int) (t18:Int) (t26:yC) (t27:Int) (t28:Int) (sum:yB) (product:yB):=zD (zxm zm) (.inl default) n (((to,()),()),(),(),t16,t17,t18,t26,t27,t28,()) (sum,product,())
def zIe (r:zzw):LTree ty:=.ite (isL r) (.done .ret [.lit (.slice none 0 0),.lit (.int .i64 (getL r))] []) (.done (.exit 2) [.fn 138 ([.bptr ([.sl 65 (getR r).1]) 0]),.own 272,.own 273,.sl 107 (getR r).2.1,.lit (.int .i64 (getR r).2.2.1),.lit (.int .i64 (getR r).2.2.2.1)] [.arr 107 (getR r).2.2.2.2.1 false,.arr 107 (getR r).2.2.2.2.2 false])
def zJj:LL ty zmg:=za (lFn 138 (za (zDo (za (lSl 65) zn) 0) zn)) (za (zcG 272) (za (zcG 273) (za (lSl 107) (za zj (za zj (za (lSl 145) (za zj (za zj zn))))))))
def zJv (zm:At->yF->Bool×(yB×Int)) (to:yF) (t16:yB) (t17:Int) (t18:Int) (sum:yB):Wy zmt zmv zzd:=.i (decide (t18<t17)) (.i (decide (0<=t18)&&decide (t18<Int.ofNat t16.length)) (.bn (zyY (t16.getD t18.toNat default).Cf) λr14=>.bn (zIG zm (to.length+t16.length+t17.toNat +t18.toNat +(t16.getD t18.toNat default).Fs.length+(Int.ofNat (t16.getD t18.toNat default).Fs.length).toNat +Int.toNat 0+sum.length+r14.length+1) to t16 t17 t18 (t16.getD t18.toNat default).Fs (Int.ofNat (t16.getD t18.toNat default).Fs.length) 0 sum r14) λr13=>.i (isL r13) (.k (.inl (getL r13))) (.bn (zwR (getR r13).2.2.2.2.1 (getR r13).2.2.2.2.2) λr12=>.i (r12.2 != 0) (.k (.inl (r12.2))) (.h ((((getR r13).1,()),()),(),(getR r13).2.1,(getR r13).2.2.1,(IntKind.i64.wrap ((getR r13).2.2.2.1+1)),()) ((r12.1),())))) .d) (.k (.inr sum))
def zxu (zm:At->yF->Bool×(yB×Int)) (x:zmt) (y:zmv):=zJv zm x.1.1.1 x.2.2.1 x.2.2.2.1 x.2.2.2.2.1 y.1
def zJd (zm:At->yF->Bool×(yB×Int)) (n:Nat) (to:yF) (t16:yB) (t17:Int) (t18:Int) (sum:yB):=zD (zxu zm) (.inl default) n (((to,()),()),(),t16,t17,t18,()) (sum,())
def zG1 (r:zzd):LTree ty:=.ite (isL r) (.done .ret [.lit (.slice none 0 0),.lit (.int .i64 (getL r))] []) (.done (.exit 0) [.own 272] [.arr 107 (getR r) false])
def zJa:LL ty zmt:=za (lFn 138 (za (zDo (za (lSl 65) zn) 0) zn)) (za (zcG 272) (za (lSl 107) (za zj (za zj zn))))
def zJc:BL ty zmv:=zcV 107 false (zbd)
def zGk (x:zmk) (y:zdS):Nat:=(x.1.1.1.length+x.2.2.2.1.length+Int.toNat x.2.2.2.2.1+x.2.2.2.2.2.1.length+Int.toNat x.2.2.2.2.2.2.1+Int.toNat x.2.2.2.2.2.2.2.1+x.2.2.2.2.2.2.2.2.1.length+Int.toNat x.2.2.2.2.2.2.2.2.2.1+Int.toNat x.2.2.2.2.2.2.2.2.2.2.1+Int.toNat x.2.2.2.2.2.2.2.2.2.2.2.1+Int.toNat x.2.2.2.2.2.2.2.2.2.2.2.2.1+y.1.length+y.2.1.length+1)
def zGY (x:zmg) (y:zdS):Nat:=(x.1.1.1.length+x.2.2.2.1.length+Int.toNat x.2.2.2.2.1+Int.toNat x.2.2.2.2.2.1+x.2.2.2.2.2.2.1.length+Int.toNat x.2.2.2.2.2.2.2.1+Int.toNat x.2.2.2.2.2.2.2.2.1+y.1.length+y.2.1.length+1)
def zIj (x:zmt) (y:zmv):Nat:=(x.1.1.1.length+x.2.2.1.length+Int.toNat x.2.2.2.1+Int.toNat x.2.2.2.2.1+y.1.length+1)
def zkn (zm:At->yF->Bool×(yB×Int)):=zb4 zby 68 [(72,zuX),(138,zgE),(197,zzl),(198,(zjD zm)),(199,zBU)] [] [(3,[(1,.keep),(6,.own 107),(16,.keep),(17,.keep),(18,.keep)]),(7,(kpL [1,6,9,16,17,18,26,27,28])),(11,[(1,.keep),(6,.keep),(9,.keep),(12,.sl 107),(13,.keep),(16,.keep),(17,.keep),(18,.keep),(26,.keep),(27,.keep),(28,.keep),(40,.keep),(41,.keep)])] [(3,1,(kpL [6])),(3,0,(kpL [4,5])),(7,3,(kpL [1,6,9,16,17,18])),(7,0,(kpL [4,5])),(11,5,(kpL [1,6,9,13,16,17,18,26,27,28]))] [(11,spW zG9 zHg (zwO zm) default zF2 zGk),(7,spW zJj zHg (zxm zm) (.inl default) zIe zGY),(3,spW zJa zJc (zxu zm) (.inl default) zG1 zIj)] []
theorem zGv (zm:At->yF->Bool×(yB×Int)):zM (zkn zm) (lp (body f137) 2):=zu (id:=11) (hl:=rfl)
theorem zH2 (zm:At->yF->Bool×(yB×Int)):zM (zkn zm) (lp (body f137) 1):=zu (id:=7) (hl:=rfl)
theorem zHO (zm:At->yF->Bool×(yB×Int)):zM (zkn zm) (lp (body f137) 0):=zu (id:=3) (hl:=rfl)
def zKl (zm:At->yF->Bool×(yB×Int)) (a:yB) (to:yF):Wy0 (yB×Int):=.bn (zJd zm (to.length+a.length+(Int.ofNat a.length).toNat +Int.toNat 0+0+1) to a (Int.ofNat a.length) 0 []) λr18=>.i (isL r18) (.k ([],getL r18)) (.k (getR r18,0))
def zBp (zm:At->yF->Bool×(yB×Int)) (a:yB) (to:yF):=(zKl zm a to).fin default
theorem zES (zm:At->yF->Bool×(yB×Int)) (zEH:Sound Tryz.prog zby 198 (zjD zm)):Sound Tryz.prog zby 137 (zjF (zBp zm)):=
 sU (cx':=(zkn zm)) (zk ⟨zBo,zjv.nodr,zK5.nodr,zEH,zOY,trivial⟩) call137 func137 (lOK (aC (zHO zm) (aC (zH2 zm) (aC (zGv zm) aN)))) (sg:=⟨[.own 107,.pure],[]⟩)
def zUn:=zbG base 3 []
def zWM:Wy0 (yB):=.k [TO.mk 1 []]
def zr3:Bool×yB:=(zWM).fin default
def zpa:=zh zYH λx=>((zr3 ).1,zZa (zr3 ).2)
theorem ztX:SdP 278 zpa:=
 sT (cx':=zUn) (zk trivial) call278 func278 (lOK aN) (sg:=⟨[.own 107],[]⟩)
def zOC:=zbG base 23 [(52,zce),(117,zfJ),(124,zdX),(177,zlO),(278,zpa)]
def zQ9 (a:yB):Wy0 (yB×Int):=.bn (zcs a) λr2=>.i (!r2) (.k ([],1)) (.i (Int.ofNat a.length==0) (.k (zr3.2,0)) (.bn (zek a) λr1=>.i (r1) (.k ([],0)) (.bn (ze5 (zhU (At.mk 3 (RowID.mk 0 0) [a] 0 [] 0 (Value.mk 0 0 (ByteArray.mk #[])))).2) λr0=>.k (r0.1,r0.2))))
def zxG (a:yB):=(zQ9 a).fin default
def zyk:=zh zTC λx=>((zxG x.1).1,zKh (zxG x.1).2)
theorem zJq:SdP 236 zyk:=
 sT (cx':=zOC) (zk ⟨zck,zhw,zeQ,zsx,ztX,trivial⟩) call236 func236 (lOK aN) (sg:=⟨[.own 107,.pure],[]⟩)
def zQY:=zbG base 29 [(52,zce),(117,zfJ),(124,zdX),(141,zfH),(175,zmQ),(176,zro),(278,zpa)]
def zSk (a:yB):Wy0 (yB×Int):=.bn (zcs a) λr5=>.i (!r5) (.k ([],1)) (.i (Int.ofNat a.length==0) (.bn (zhP a) λr0=>.k (r0,0)) (.bn (zj4 a) λr4=>.i (r4) (.bn (zhP a) λr1=>.k (r1,0)) (.bn (zgu a) λr3=>.i (r3) (.k (zr3.2,0)) (.bn (ze5 (zhU (At.mk 2 (RowID.mk 0 0) [a] 0 [] 0 (Value.mk 0 0 (ByteArray.mk #[])))).2) λr2=>.k (r2.1,r2.2)))))
def zyS (a:yB):=(zSk a).fin default
def zze:=zh zTC λx=>((zyS x.1).1,zKh (zyS x.1).2)
theorem zK0:SdP 235 zze:=
 sT (cx':=zQY) (zk ⟨zck,zhw,zeQ,zhz,zs4,zxs,ztX,trivial⟩) call235 func235 (lOK aN) (sg:=⟨[.own 107,.pure],[]⟩)
def zQO:=zbG base 38 [(52,zce),(115,zmo),(117,zfJ),(124,zdX),(141,zfH)]
def zRG (a:yB) (b:yB):Wy0 (yB×Int):=.bn (zcs a) λr4=>.i (!r4) (.k ([],1)) (.bn (zcs b) λr3=>.i (!r3) (.k ([],1)) (.i (Int.ofNat b.length==0) (.bn (zhP a) λr0=>.k (r0,0)) (.i (Int.ofNat a.length==0) (.k ([],0)) (.bn (zgP a b) λr2=>.i (r2) (.k ([],0)) (.bn (ze5 (zhU (At.mk 1 (RowID.mk 0 0) [a,b] 0 [] 0 (Value.mk 0 0 (ByteArray.mk #[])))).2) λr1=>.k (r1.1,r1.2))))))
def zyP (a:yB) (b:yB):=(zRG a b).fin default
def zzA:=zh zOq λx=>((zyP x.1 x.2.1).1,zKh (zyP x.1 x.2.1).2)
theorem zK3:SdP 234 zzA:=
 sT (cx':=zQO) (zk ⟨zck,zrt,zhw,zeQ,zhz,trivial⟩) call234 func234 (lOK aN) (sg:=⟨[.own 107,.pure],[]⟩)
def zfm (x:yD) (a b:Int):Bool×yD:=zZf zbo x a b
def zqo:Ab.Spec ty:=zh (cx:=base) (zd (zkO 169) (zd (zg (zfx .i64)) (zd (zg (zfx .i64)) (zd (zg (vFn 172 zcr)) zw)))) λx=>((zfm x.1 x.2.1 x.2.2.1).1,⟨[],[some ⟨169,(zfm x.1 x.2.1 x.2.2.1).2⟩]⟩)
theorem zry (c:Unit) (x y:Wd) (h:(zbo x y).1=true):zeN ((AV.agg (base.enc 169 x)::AV.agg (base.enc 169 y)::(zcr:VL base Unit).enc c).map Arg.pure)=some (true,⟨[.pure (.lit (.int .i64 (zbo x y).2))],[]⟩):=by
 rw [<- h]; kernel_rfl
theorem zp2:SdP 309 zqo:=by
 letI:DecidableEq (ty 169):=inferInstanceAs (DecidableEq Wd)
 exact z5p (T:=169) zdj rfl Go.Proofs.Tryz.insW Tryz.isAgg169 (by unfold zo; exact Tryz.sizeOf169) call309 zgG zcr (λc=>zbo) zry
open Go.Proofs Go.RowKit
def zcl (x:yD) (m:Int):Bool×yD:=(decide (SortOK zbo x)&&(decide (m=x.length)&&decide (m<20)),zgz zbo x)
def zkF:Ab.Spec ty:=zh (cx:=base) (zd (zkO 169) (zd (zg (zfx .i64)) (zd (zg (vFn 172 zcr)) zw))) λx=>((zcl x.1 x.2.1).1,⟨[],[some ⟨169,(zcl x.1 x.2.1).2⟩]⟩)
set_option maxHeartbeats 1000000 in
theorem zub:SdP 308 zkF where
 enters:=call308
 calls:=λavs r hsp w F vs hF ha hsep=>by
  unfold zkF zh at hsp;split at hsp
  ·rename_i x hx;simp only [qa,qb] at hsp;obtain ⟨hpre,rfl⟩:=hsp;have hk:=(zd (zkO 169) (zd (zg (zfx .i64)) (zd (zg (vFn 172 zcr)) zw)):AL base _).kind vs avs x hx;have ha':=(zd (zkO 169) (zd (zg (zfx .i64)) (zd (zg (vFn 172 zcr)) zw)):AL base _).ok Tryz.prog zdj F w vs avs x hx ha;rw [hk] at hsep ⊢;clear hk hx ha;obtain ⟨l0,m,c,u0⟩:=x;obtain ⟨l,rfl⟩:∃ l:yD,l=l0:=⟨l0,rfl⟩;obtain ⟨v,vs',rfl,hv,hv'⟩:=ha'.inv;obtain ⟨mv,vs1,rfl,hm,hv1⟩:=hv'.inv;obtain ⟨fv,vs'',rfl,hfv,h0⟩:=hv1.inv;obtain rfl:=h0.nil_left.1;have hm:Rep base F w mv (.lit (.int .i64 m)):=hm;obtain rfl:mv=.int .i64 m:=by cases hm; rfl
   have hsl:∃ p cap,v=.slice p l.length cap:=by
    obtain ⟨⟨xs,hown,_⟩,_⟩:=(show zct base F w v 169 l/\∀ b,zR v=some b->¬ F b from hv)
    rcases hown.2 with ⟨h1,h2⟩ | ⟨g0,cap,cur,h1,_⟩
    ·exact ⟨none,0,by rw [h1,show l.length=0 from h2]⟩
    ·exact ⟨_,cap,h1⟩
   have hpre:(decide (SortOK (α:=Wd) zbo l)&&(decide (m=l.length)&&decide (m<20)))=true:=hpre;simp only [qc,qe] at hpre;obtain ⟨hok,rfl,h20⟩:=hpre
   have hpp:(zfm l 0 (l.length:Int)).1=true:=by
    show (decide (SortOK (α:=Wd) zbo l)&&(decide ((0:Int)=0)&&decide ((l.length:Int)=l.length)))=true;simp only [qc,qe];exact ⟨hok,trivial,trivial⟩
   have hp:=(zp2).calls [.own 169 l,.pure (.lit (.int .i64 0)),.pure (.lit (.int .i64 (l.length:Int))),.pure (.fn 172 [])] ⟨[],[some ⟨169,(zcl l (l.length:Int)).2⟩]⟩
    (by rw [<- hpp]; kernel_rfl) w F [v,.int .i64 0,.int .i64 (l.length:Int),fv] hF (.cons hv (.cons (Rep.lit _) (.cons (Rep.lit _) (.cons hfv .nil)))) hsep
   replace hp:Calls Tryz.prog 309 #[v,.int .i64 0,.int .i64 (l.length:Int),fv] w λe w'=>∃ u,e=.returned u/\Post base F w [v] ⟨[],[some ⟨169,(zcl l (l.length:Int)).2⟩]⟩ u w':=hp
   show Calls Tryz.prog 308 #[v,.int .i64 (l.length:Int),fv] w λe w'=>∃ u,e=.returned u/\Post base F w [v] ⟨[],[some ⟨169,(zcl l (l.length:Int)).2⟩]⟩ u w'
   generalize (zcl l (l.length:Int)).2=res at hp ⊢;generalize hn:l.length=m at *;clear hpp hv hfv hsep hok hF hm;obtain ⟨p,cap,rfl⟩:=hsl;clear hn
   go_enter func308,ntmps308
   go_wp2
   refine wp_loop_rounds 1 ?_;rw [rounds_succ]
   go_wp2_with (go_at_call 309; refine hp.mono ?_; rintro e w' ⟨u,rfl,hpost⟩; obtain rfl:=hpost.unit)
   refine wp_loop_rounds 1 ?_;rw [rounds_succ]
   go_wp2
   all_goals first | (exfalso; omega) | (go_end0; exact ⟨_,rfl,hpost⟩)
  ·cases hsp
end Go.Proofs.YtoknknbmfmddbaaGreatDoor
namespace Go.Proofs.YtoknknbmfmddbaaGreatDoor
open Go Go.Ab
open Go.Proofs Go.RowKit
open Go.Proofs.Tryz
def zbp (x:yD):Bool×yD:=(decide (SortOK zbo x)&&decide (x.length<20),zgz zbo x)
def zdi:Ab.Spec ty:=zh (cx:=base) (zd (zkO 169) (zd (zg (vFn 172 zcr)) zw)) λx=>((zbp x.1).1,⟨[],[some ⟨169,(zbp x.1).2⟩]⟩)
set_option maxHeartbeats 1000000 in
theorem zlw:SdP 302 zdi where
 enters:=call302
 calls:=λavs r hsp w F vs hF ha hsep=>by
  unfold zdi zh at hsp;split at hsp
  ·rename_i x hx;simp only [qa,qb] at hsp;obtain ⟨hpre,rfl⟩:=hsp;have hk:=(zd (zkO 169) (zd (zg (vFn 172 zcr)) zw):AL base _).kind vs avs x hx;have ha':=(zd (zkO 169) (zd (zg (vFn 172 zcr)) zw):AL base _).ok Tryz.prog zdj F w vs avs x hx ha;rw [hk] at hsep ⊢;clear hk hx ha;obtain ⟨l0,c,u0⟩:=x;obtain ⟨l,rfl⟩:∃ l:yD,l=l0:=⟨l0,rfl⟩;obtain ⟨v,vs',rfl,hv,hv'⟩:=ha'.inv;obtain ⟨fv,vs'',rfl,hfv,h0⟩:=hv'.inv;obtain rfl:=h0.nil_left.1
   have hsl:∃ p cap,v=.slice p l.length cap:=by
    obtain ⟨⟨xs,hown,_⟩,_⟩:=(show zct base F w v 169 l/\∀ b,zR v=some b->¬ F b from hv)
    rcases hown.2 with ⟨h1,h2⟩ | ⟨g0,cap,cur,h1,_⟩
    ·exact ⟨none,0,by rw [h1,show l.length=0 from h2]⟩
    ·exact ⟨_,cap,h1⟩
   have hpre:(decide (SortOK (α:=Wd) zbo l)&&decide (l.length<20))=true:=hpre;simp only [qc,qe] at hpre;obtain ⟨hok,h20⟩:=hpre
   have hpp:(zcl l (l.length:Int)).1=true:=by
    show (decide (SortOK (α:=Wd) zbo l)&&(decide ((l.length:Int)=l.length)&&decide ((l.length:Int)<20)))=true;simp only [qc,qe];exact ⟨hok,trivial,by omega⟩
   have hp:=(zub).calls [.own 169 l,.pure (.lit (.int .i64 (l.length:Int))),.pure (.fn 172 [])] ⟨[],[some ⟨169,(zbp l).2⟩]⟩
    (by rw [<- hpp]; kernel_rfl) w F [v,.int .i64 (l.length:Int),fv] hF (.cons hv (.cons (Rep.lit _) (.cons hfv .nil))) hsep
   replace hp:Calls Tryz.prog 308 #[v,.int .i64 (l.length:Int),fv] w λe w'=>∃ u,e=.returned u/\Post base F w [v] ⟨[],[some ⟨169,(zbp l).2⟩]⟩ u w':=hp
   show Calls Tryz.prog 302 #[v,fv] w λe w'=>∃ u,e=.returned u/\Post base F w [v] ⟨[],[some ⟨169,(zbp l).2⟩]⟩ u w'
   generalize (zbp l).2=res at hp ⊢;generalize hn:l.length=m at *;clear hpp hv hfv hsep hok hF;obtain ⟨p,cap,rfl⟩:=hsl;clear hn
   go_enter func302,ntmps302
   go_wp2_with (go_at_call 308; refine hp.mono ?_; rintro e w' ⟨u,rfl,hpost⟩; obtain rfl:=hpost.unit)
   go_end0
   exact ⟨_,rfl,hpost⟩
  ·cases hsp
end Go.Proofs.YtoknknbmfmddbaaGreatDoor
namespace Go.Proofs.YtoknknbmfmddbaaGreatDoor
open Go Go.Ab
open Go.Proofs.Tryz
abbrev zpc:=Unit×yD×Int×Int×Unit
abbrev zkK:=yD×Unit
def zQU (t6:yD) (t7:Int) (t8:Int) (out_:yD):Wy zpc zkK (yD):=.i (decide (t8<t7)) (.i (decide (0<=t8)&&decide (t8<Int.ofNat t6.length)) (.i (decide (Int.ofNat (t6.getD t8.toNat default).Ann.length>0)) (.bn (zhP (t6.getD t8.toNat default).Ann) λr0=>.i (decide ((out_.length+[WO.mk (t6.getD t8.toNat default).Value r0].length)*56<=zbm)) (.h ((),t6,t7,(IntKind.i64.wrap (t8+1)),()) ((out_++[WO.mk (t6.getD t8.toNat default).Value r0]),())) .d) (.h ((),t6,t7,(IntKind.i64.wrap (t8+1)),()) (out_,()))) .d) (.k out_)
def zB1 (x:zpc) (y:zkK):=zQU x.2.1 x.2.2.1 x.2.2.2.1 y.1
def zQE (n:Nat) (t6:yD) (t7:Int) (t8:Int) (out_:yD):=zD (zB1) default n ((),t6,t7,t8,()) (out_,())
def zNH (r:yD):LTree ty:=.done (.exit 0) [.own 116] [.arr 169 r false]
def zQW:LL ty zpc:=za (zcG 116) (za (lSl 169) (za zj (za zj zn)))
def zQK:BL ty zkK:=zcV 169 false (zbd)
def zOX (x:zpc) (y:zkK):Nat:=(x.2.1.length+Int.toNat x.2.2.1+Int.toNat x.2.2.2.1+y.1.length+1)
def zB9:=zb4 base 29 [(141,zfH),(172,zeN),(302,zdi)] [(302,[true,false])] [(3,[(3,.own 169),(6,.keep),(7,.keep),(8,.keep)])] [(3,1,(kpL [3]))] [(3,spW zQW zQK (zB1) default zNH zOX)] []
theorem zOI:zM zB9 (lp (body f280) 0):=zu (id:=3) (hl:=rfl)
def zTI (l:yD):Wy0 (yD):=.bn (zQE (l.length+(Int.ofNat l.length).toNat +Int.toNat 0+0+1) l (Int.ofNat l.length) 0 []) λr3=>.bn (zbp r3) λr2=>.k r2
def zy4 (l:yD):=(zTI l).fin default
def zOy (r:yD):ARes ty:=⟨[.own 169 r],[]⟩
def zSq:AL base zkK:=zd (zg (vSl 169)) zw
def zzb:=zh zSq λx=>((zy4 x.1).1,zOy (zy4 x.1).2)
theorem zKj:SdP 280 zzb:=
 sT (cx':=zB9) (zk ⟨zhz,zgG,zlw,trivial⟩) call280 func280 (lOK (aC zOI aN)) (sg:=⟨[.own 169],[]⟩)
def zL2:=zbG base 7 [(52,zce)]
def zO2 (w:Wd):Wy0 (Bool):=.bn (zcs w.Ann) λr0=>.k (!r0)
def zwF (w:Wd):=(zO2 w).fin default
def zkl:=zh zGy λx=>((zwF x.1).1,zQZ (zwF x.1).2)
theorem zoI:SdP 279 zkl:=
 sT (cx':=zL2) (zk ⟨zck,trivial⟩) call279 func279 (lOK aN)
def zQy:=zbG base 28 []
def zTx (op:Int) (sign:Int):Wy0 (Bool):=.i (op==5) (.k (sign==0)) (.i (op==6) (.k (sign != 0)) (.i (op==7) (.k (decide (sign<0))) (.i (op==8) (.k (decide (sign<=0))) (.i (op==9) (.k (decide (sign>0))) (.k (decide (sign≥0)))))))
def zyB (op:Int) (sign:Int):=(zTx op sign).fin default
def zzS:=zh zQ2 λx=>((zyB x.1 x.2.1).1,zQZ (zyB x.1 x.2.1).2)
theorem zKv:SdP 281 zzS:=
 sT (cx':=zQy) (zk trivial) call281 func281 (lOK aN)
abbrev zc7:=yD×Unit×Int×Int×Unit
def zos (s:yD) (t7:Int) (t8:Int):Wy zc7 Unit (Int⊕Unit):=.i (decide (t8<t7)) (.i (decide (0<=t8)&&decide (t8<Int.ofNat s.length)) (.bn (zwF (s.getD t8.toNat default)) λr0=>.i (r0) (.k (.inl t8)) (.h (s,(),t7,(IntKind.i64.wrap (t8+1)),()) ())) .d) (.k (.inr ()))
def zgp (x:zc7) (y:Unit):=zos x.1 x.2.2.1 x.2.2.2.1
def zor (n:Nat) (s:yD) (t7:Int) (t8:Int):=zD (zgp) (.inl default) n (s,(),t7,t8,()) ()
def zoz:LL ty zc7:=za (lSl 169) (za (lFn 279 (zn)) (za zj (za zj zn)))
def znM (x:zc7) (y:Unit):Nat:=(x.1.length+Int.toNat x.2.2.1+Int.toNat x.2.2.2.1+1)
def zgm:=zb4 base 19 [(279,zkl)] [] [(2,(kpL [0,1,7,8]))] [(2,1,[]),(2,0,(kpL [4]))] [(2,spW zoz z0j (zgp) (.inl default) zpL znM)] []
theorem znF:zM zgm (lp (body f228) 0):=zu (id:=2) (hl:=rfl)
def zoM (s:yD):Wy0 (Int):=.bn (zor (s.length+(Int.ofNat s.length).toNat +Int.toNat 0+1) s (Int.ofNat s.length) 0) λr2=>.i (isL r2) (.k (getL r2)) (.k (-1:Int))
def zdY (s:yD):=(zoM s).fin default
def zoA:AL base (yD×Unit×Unit):=zd (zg (vSl 169)) (zd (zg (vFn 279 zcr)) zw)
def zfQ:=zh zoA λx=>((zdY x.1).1,zLf (zdY x.1).2)
theorem zmW:SdP 228 zfQ:=
 sT (cx':=zgm) (zk ⟨zoI,trivial⟩) call228 func228 (lOK (aC znF aN))
def zm1:=zbG base 9 [(228,zfQ),(279,zkl)]
def znq (s:yD):Wy0 (Bool):=.bn (zdY s) λr0=>.k (decide (r0≥0))
def zdI (s:yD):=(znq s).fin default
def zfd:=zh zoA λx=>((zdI x.1).1,zQZ (zdI x.1).2)
theorem zlj:SdP 178 zfd:=
 sT (cx':=zm1) (zk ⟨zmW,zoI,trivial⟩) call178 func178 (lOK aN)
def zSV:=zbG base 45 [(117,zfJ),(124,zdX),(178,zfd),(181,zqe),(195,zlc),(278,zpa),(279,zkl),(280,zzb),(281,zzS)]
def zUy (fn:Int) (items:yD) (op:Int) (bound:Value):Wy0 (yB×Int):=.bn (ziR fn items op bound) λr5=>.i (!r5) (.k ([],1)) (.bn (zdI items) λr4=>.i (r4) (.k ([],1)) (.bn (zy4 items) λr3=>.i (decide (Int.ofNat r3.length>0)) (.bn (ze5 (zhU (At.mk 4 (RowID.mk 0 0) [] fn r3 op bound)).2) λr0=>.k (r0.1,r0.2)) (.i (fn==0) (.bn (zhR 0 bound.Int) λr2=>.bn (zyB op r2) λr1=>.i (r1) (.k (zr3.2,0)) (.k ([],0))) (.k ([],0)))))
def zBn (fn:Int) (items:yD) (op:Int) (bound:Value):=(zUy fn items op bound).fin default
def zBl:=zh zOO λx=>((zBn x.1 x.2.1 x.2.2.1 x.2.2.2.1).1,zKh (zBn x.1 x.2.1 x.2.2.1 x.2.2.2.1).2)
theorem zNg:SdP 237 zBl:=
 sT (cx':=zSV) (zk ⟨zhw,zeQ,zlj,zwb,zp9,ztX,zoI,zKj,zKv,trivial⟩) call237 func237 (lOK aN) (sg:=⟨[.own 107,.pure],[]⟩)
abbrev zi3:=((yF×Unit)×Unit)×Unit×Unit×yA×Int×Int×Unit
abbrev zi2:=At×yA×Unit
abbrev zvL:=Int⊕(yF×At×yA)
abbrev zi6:=((yF×Unit)×Unit)×Unit×Unit×yD×Int×Int×Unit
abbrev zi9:=At×yD×Unit
abbrev zvC:=Int⊕(At×yD)
def zDp (zO:yB->yF->Bool×(yB×Int)) (to:yF) (t24:yA) (t25:Int) (t26:Int) (x_:At) (args:yA):Wy zi3 zi2 zvL:=.i (decide (t26<t25)) (.i (decide (0<=t26)&&decide (t26<Int.ofNat t24.length)) (.bn (zO (t24.getD t26.toNat default) to) λr2=>.i (r2.2 != 0) (.k (.inl (r2.2))) (.i (decide ((args.length+[r2.1].length)*24<=zbm)) (.h (((to,()),()),(),(),t24,t25,(IntKind.i64.wrap (t26+1)),()) (x_,(args++[r2.1]),())) .d)) .d) (.k (.inr (to,x_,args)))
def zs1 (zO:yB->yF->Bool×(yB×Int)) (x:zi3) (y:zi2):=zDp zO x.1.1.1 x.2.2.2.1 x.2.2.2.2.1 x.2.2.2.2.2.1 y.1 y.2.1
def zEn (zO:yB->yF->Bool×(yB×Int)) (n:Nat) (to:yF) (t24:yA) (t25:Int) (t26:Int) (x_:At) (args:yA):=zD (zs1 zO) (.inl default) n (((to,()),()),(),(),t24,t25,t26,()) (x_,args,())
def zCQ (r:zvL):LTree ty:=.ite (isL r) (.done .ret [.lit (.slice none 0 0),.lit (.int .i64 (getL r))] []) (.done (.exit 0) [.fn 138 ([.bptr ([.sl 65 (getR r).1]) 0]),.ptr 432 0,.own 433] [.box (base.enc 143 (getR r).2.1) false,.arr 51 (getR r).2.2 false])
def zDe:LL ty zi3:=za (lFn 138 (za (zDo (za (lSl 65) zn) 0) zn)) (za (zde 432 0) (za (zcG 433) (za (lSl 51) (za zj (za zj zn)))))
def zDY:BL ty zi2:=zev (zgF (λx=>(⟨x.1,⟨x.2.1,x.2.2.1⟩,x.2.2.2.1,x.2.2.2.2.1,x.2.2.2.2.2.1,x.2.2.2.2.2.2.1,⟨x.2.2.2.2.2.2.2.1,x.2.2.2.2.2.2.2.2.1,x.2.2.2.2.2.2.2.2.2.1⟩⟩:At)) (λx=>(x.Kind,x.Row.Table,x.Row.Seq,x.Ag,x.Func,x.Items,x.Op,x.Bd.Kind,x.Bd.Int,x.Bd.Text,())) (λ_=>rfl) (za (zN .i64) (za (zN .i64) (za (zN .i64) (za (lSl 51) (za (zN .i64) (za (lSl 169) (za (zN .i64) (za (zN .i64) (za (zN .i64) (za ztm zn))))))))))) false (zcV 51 false (zbd))
def zCn (zO:yB->yF->Bool×(yB×Int)) (to:yF) (t74:yD) (t75:Int) (t76:Int) (x_:At) (items:yD):Wy zi6 zi9 zvC:=.i (decide (t76<t75)) (.i (decide (0<=t76)&&decide (t76<Int.ofNat t74.length)) (.bn (zO (t74.getD t76.toNat default).Ann to) λr4=>.i (r4.2 != 0) (.k (.inl (r4.2))) (.i (decide ((items.length+[WO.mk (t74.getD t76.toNat default).Value r4.1].length)*56<=zbm)) (.h (((to,()),()),(),(),t74,t75,(IntKind.i64.wrap (t76+1)),()) (x_,(items++[WO.mk (t74.getD t76.toNat default).Value r4.1]),())) .d)) .d) (.k (.inr (x_,items)))
def zsz (zO:yB->yF->Bool×(yB×Int)) (x:zi6) (y:zi9):=zCn zO x.1.1.1 x.2.2.2.1 x.2.2.2.2.1 x.2.2.2.2.2.1 y.1 y.2.1
def zCO (zO:yB->yF->Bool×(yB×Int)) (n:Nat) (to:yF) (t74:yD) (t75:Int) (t76:Int) (x_:At) (items:yD):=zD (zsz zO) (.inl default) n (((to,()),()),(),(),t74,t75,t76,()) (x_,items,())
def zBC (r:zvC):LTree ty:=.ite (isL r) (.done .ret [.lit (.slice none 0 0),.lit (.int .i64 (getL r))] []) (.done (.exit 3) [.ptr 432 0,.own 433] [.box (base.enc 143 (getR r).1) false,.arr 169 (getR r).2 false])
def zCB:LL ty zi6:=za (lFn 138 (za (zDo (za (lSl 65) zn) 0) zn)) (za (zde 432 0) (za (zcG 433) (za (lSl 169) (za zj (za zj zn)))))
def zCA:BL ty zi9:=zev (zgF (λx=>(⟨x.1,⟨x.2.1,x.2.2.1⟩,x.2.2.2.1,x.2.2.2.2.1,x.2.2.2.2.2.1,x.2.2.2.2.2.2.1,⟨x.2.2.2.2.2.2.2.1,x.2.2.2.2.2.2.2.2.1,x.2.2.2.2.2.2.2.2.2.1⟩⟩:At)) (λx=>(x.Kind,x.Row.Table,x.Row.Seq,x.Ag,x.Func,x.Items,x.Op,x.Bd.Kind,x.Bd.Int,x.Bd.Text,())) (λ_=>rfl) (za (zN .i64) (za (zN .i64) (za (zN .i64) (za (lSl 51) (za (zN .i64) (za (lSl 169) (za (zN .i64) (za (zN .i64) (za (zN .i64) (za ztm zn))))))))))) false (zcV 169 false (zbd))
def zCH (x:zi3) (y:zi2):Nat:=(x.1.1.1.length+x.2.2.2.1.length+Int.toNat x.2.2.2.2.1+Int.toNat x.2.2.2.2.2.1+y.1.Ag.length+y.1.Items.length+y.2.1.length+1)
def zBJ (x:zi6) (y:zi9):Nat:=(x.1.1.1.length+x.2.2.2.1.length+Int.toNat x.2.2.2.2.1+Int.toNat x.2.2.2.2.2.1+y.1.Ag.length+y.1.Items.length+y.2.1.length+1)
def zlz (zO:yB->yF->Bool×(yB×Int)):=zb4 zby 108 [(137,(zjF zO)),(138,zgE),(234,zzA),(235,zze),(236,zyk),(237,zBl)] [] [(5,[(1,.keep),(2,.keep),(6,.own 51),(24,.keep),(25,.keep),(26,.keep)]),(21,[(1,.keep),(2,.keep),(11,.own 169),(74,.keep),(75,.keep),(76,.keep)])] [(5,1,(kpL [1,2,6])),(5,0,(kpL [4,5])),(21,4,(kpL [2,11])),(21,0,(kpL [4,5]))] [(5,spW zDe zDY (zs1 zO) (.inl default) zCQ zCH),(21,spW zCB zCA (zsz zO) (.inl default) zBC zBJ)] []
theorem zCf (zO:yB->yF->Bool×(yB×Int)):zM (zlz zO) (lp (body f198) 0):=zu (id:=5) (hl:=rfl)
theorem zBx (zO:yB->yF->Bool×(yB×Int)):zM (zlz zO) (lp (body f198) 1):=zu (id:=21) (hl:=rfl)
def zFl (zO:yB->yF->Bool×(yB×Int)) (x_:At) (to:yF):Wy0 (yB×Int):=.i (x_.Kind==0) (.bn (zo2 x_.Row to) λr6=>.k (r6,0)) (.bn (zEn zO (to.length+x_.Ag.length+(Int.ofNat x_.Ag.length).toNat +Int.toNat 0+x_.Ag.length+x_.Items.length+0+1) to x_.Ag (Int.ofNat x_.Ag.length) 0 (At.mk x_.Kind x_.Row x_.Ag x_.Func x_.Items x_.Op x_.Bd) []) λr12=>.i (isL r12) (.k ([],getL r12)) (.i ((getR r12).2.1.Kind==1) (.i (decide ((0:Int)<=(0:Int))&&decide (0<Int.ofNat (getR r12).2.2.length)) (.i (decide ((0:Int)<=(1:Int))&&decide (1<Int.ofNat (getR r12).2.2.length)) (.bn (zyP ((getR r12).2.2.getD (Int.toNat 0) default) ((getR r12).2.2.getD (Int.toNat 1) default)) λr7=>.k (r7.1,r7.2)) .d) .d) (.i ((getR r12).2.1.Kind==2) (.i (decide ((0:Int)<=(0:Int))&&decide (0<Int.ofNat (getR r12).2.2.length)) (.bn (zyS ((getR r12).2.2.getD (Int.toNat 0) default)) λr8=>.k (r8.1,r8.2)) .d) (.i ((getR r12).2.1.Kind==3) (.i (decide ((0:Int)<=(0:Int))&&decide (0<Int.ofNat (getR r12).2.2.length)) (.bn (zxG ((getR r12).2.2.getD (Int.toNat 0) default)) λr9=>.k (r9.1,r9.2)) .d) (.bn (zCO zO ((getR r12).1.length+(getR r12).2.1.Items.length+(Int.ofNat (getR r12).2.1.Items.length).toNat +Int.toNat 0+(getR r12).2.1.Ag.length+(getR r12).2.1.Items.length+0+1) (getR r12).1 (getR r12).2.1.Items (Int.ofNat (getR r12).2.1.Items.length) 0 (At.mk (getR r12).2.1.Kind (getR r12).2.1.Row (getR r12).2.1.Ag (getR r12).2.1.Func (getR r12).2.1.Items (getR r12).2.1.Op (getR r12).2.1.Bd) []) λr11=>.i (isL r11) (.k ([],getL r11)) (.bn (zBn (getR r11).1.Func (getR r11).2 (getR r11).1.Op (getR r11).1.Bd) λr10=>.k (r10.1,r10.2)))))))
def zwB (zO:yB->yF->Bool×(yB×Int)) (x_:At) (to:yF):=(zFl zO x_ to).fin default
theorem zAS (zO:yB->yF->Bool×(yB×Int)) (zLG:Sound Tryz.prog zby 137 (zjF zO)):Sound Tryz.prog zby 198 (zjD (zwB zO)):=
 sU (cx':=(zlz zO)) (zk ⟨zLG,zjv.nodr,zK3.nodr,zK0.nodr,zJq.nodr,zNg.nodr,trivial⟩) call198 func198 (lOK (aC (zCf zO) (aC (zBx zO) aN))) (sg:=⟨[.own 107,.pure],[]⟩)
def zC1:Nat->(yB->yF->Bool×(yB×Int))×(At->yF->Bool×(yB×Int))
 | 0=>(λ_ _=>(false,default),λ_ _=>(false,default))
 | n+1=>(zBp ((zC1 n).2),zwB ((zC1 n).1))
def zA4 (n:Nat):yB->yF->Bool×(yB×Int):=(zC1 n).1
def zHx (n:Nat):At->yF->Bool×(yB×Int):=(zC1 n).2
theorem zP4:∀ n,Sound Tryz.prog zby 137 (zjF (zA4 n))/\Sound Tryz.prog zby 198 (zjD (zHx n))
 | 0=>⟨zbl call137 (λ_=>rfl),zbl call198 (λ_=>rfl)⟩
 | n+1=>by
  have ih:=zP4 n;exact ⟨zES _ (ih.2),zAS _ (ih.1)⟩
def zC9:yB->yF->Bool×(yB×Int):=zA4 1000
def zxl:Ab.Spec ty:=zjF zC9
theorem zH4:Sound Tryz.prog zby 137 zxl:=(zP4 1000).1
def zD9:=zbG base 7 [(52,zce)]
def zFc (b:Bg):Wy0 (Bool):=.bn (zcs b.To) λr0=>.k (!r0)
def zoZ (b:Bg):=(zFc b).fin default
def zE0:AL base (Bg×Unit):=zd (zg (zcj 65)) zw
def zgD:=zh zE0 λx=>((zoZ x.1).1,zQZ (zoZ x.1).2)
theorem zjG:SdP 136 zgD:=
 sT (cx':=zD9) (zk ⟨zck,trivial⟩) call136 func136 (lOK aN)
abbrev zdn:=yF×Unit×Int×Int×Unit
def zpq (s:yF) (t7:Int) (t8:Int):Wy zdn Unit (Int⊕Unit):=.i (decide (t8<t7)) (.i (decide (0<=t8)&&decide (t8<Int.ofNat s.length)) (.bn (zoZ (s.getD t8.toNat default)) λr0=>.i (r0) (.k (.inl t8)) (.h (s,(),t7,(IntKind.i64.wrap (t8+1)),()) ())) .d) (.k (.inr ()))
def zg7 (x:zdn) (y:Unit):=zpq x.1 x.2.2.1 x.2.2.2.1
def zpy (n:Nat) (s:yF) (t7:Int) (t8:Int):=zD (zg7) (.inl default) n (s,(),t7,t8,()) ()
def zpr:LL ty zdn:=za (lSl 65) (za (lFn 136 (zn)) (za zj (za zj zn)))
def zo7 (x:zdn) (y:Unit):Nat:=(x.1.length+Int.toNat x.2.2.1+Int.toNat x.2.2.2.1+1)
def zha:=zb4 base 19 [(136,zgD)] [] [(2,(kpL [0,1,7,8]))] [(2,1,[]),(2,0,(kpL [4]))] [(2,spW zpr z0j (zg7) (.inl default) zpL zo7)] []
theorem zoL:zM zha (lp (body f139) 0):=zu (id:=2) (hl:=rfl)
def zqd (s:yF):Wy0 (Int):=.bn (zpy (s.length+(Int.ofNat s.length).toNat +Int.toNat 0+1) s (Int.ofNat s.length) 0) λr2=>.i (isL r2) (.k (getL r2)) (.k (-1:Int))
def zeh (s:yF):=(zqd s).fin default
def zp5:AL base (yF×Unit×Unit):=zd (zg (vSl 65)) (zd (zg (vFn 136 zcr)) zw)
def zgr:=zh zp5 λx=>((zeh x.1).1,zLf (zeh x.1).2)
theorem znT:SdP 139 zgr:=
 sT (cx':=zha) (zk ⟨zjG,trivial⟩) call139 func139 (lOK (aC zoL aN))
def zn6:=zbG base 9 [(136,zgD),(139,zgr)]
def zop (s:yF):Wy0 (Bool):=.bn (zeh s) λr0=>.k (decide (r0≥0))
def zdU (s:yF):=(zop s).fin default
def zfC:=zh zp5 λx=>((zdU x.1).1,zQZ (zdU x.1).2)
theorem zl5:SdP 135 zfC:=
 sT (cx':=zn6) (zk ⟨zjG,znT,trivial⟩) call135 func135 (lOK aN)
def zH8:=zbG zby 18 [(52,zce),(135,zfC),(136,zgD),(137,zxl),(138,zgE)]
def zIv (a:yB) (l:yF):Wy0 (yB×Int):=.bn (zcs a) λr2=>.i (!r2) (.k ([],1)) (.bn (zdU l) λr1=>.i (r1) (.k ([],1)) (.bn (zC9 a l) λr0=>.k (r0.1,r0.2)))
def zsF (a:yB) (l:yF):=(zIv a l).fin default
def zID:AL zby (yB×yF×Unit):=zd (zg (vSl 107)) (zd (zg (vSl 65)) zw)
def zun:=zh zID λx=>((zsF x.1 x.2.1).1,zKh (zsF x.1 x.2.1).2)
theorem zEc:Sound Tryz.prog zby 80 zun:=
 sU (cx':=zH8) (zk ⟨zck.nodr,zl5.nodr,zjG.nodr,zH4,zjv.nodr,trivial⟩) call80 func80 (lOK aN) (sg:=⟨[.own 107,.pure],[]⟩)
def zd9:Cx ty:={ base with nt:=8 }
def zif (s:yH):Bool×yH:=(decide (s.length*32<=zbm),s)
def zkD:Ab.Spec ty:=zh (cx:=base) (zd (zg (vSl 79)) zw) λx=>((zif x.1).1,⟨[.own 79 (zif x.1).2],[]⟩)
theorem zv0:zdu zd9 f62 (body f62) ⟨[.own 79],[]⟩ [.pure (.lit (.slice none 0 0))]=some ⟨[.own 79 []],[]⟩:=by kernel_rfl
theorem zux (p:Addr) (c:Nat):zdu zd9 f62 (body f62) ⟨[.own 79],[]⟩ [.pure (.lit (.slice (some p) 0 c))]=some ⟨[.own 79 []],[]⟩:=by kernel_rfl
theorem zvx (l:yH):zdu zd9 f62 (body f62) ⟨[.own 79],[]⟩ [.pure (.sl 79 l)]=bif !l.isEmpty then bif decide ((([]:List (ty 79)).length+l.length)*32<=zbm) then some ⟨[.own 79 l],[]⟩ else none else none:=by kernel_rfl
theorem zui:SdP 62 zkD:=
 zrv (cx':=zd9) (bytes:=32) zrR zdj ⟨⟨rfl,rfl,rfl,rfl,rfl,rfl⟩,rfl⟩ (λg s h=>by cases h) call62 func62 (c:=body f62) (by kernel_rfl) (zjI (l:=[]) (by kernel_rfl) trivial) zv0 zux zvx (by kernel_rfl)
def zRY:=zbG zby 17 [(62,zkD),(80,zun)]
def zUA (x_:Row) (a:yB):Wy0 (Row):=.bn (zsF a []) λr1=>.bn (zif x_.Values) λr0=>.k (⟨r0,r1.1⟩:Row)
def zvB (x_:Row) (a:yB):=(zUA x_ a).fin default
def zUX:AL zby (Row×yB×Unit):=zd (zg (zcj 54)) (zd (zg (vSl 107)) zw)
def zBk:=zh zUX λx=>((zvB x.1 x.2.1).1,zQx (zvB x.1 x.2.1).2)
theorem zMy:Sound Tryz.prog zby 71 zBk:=
 sU (cx':=zRY) (zk ⟨zui.nodr,zEc,trivial⟩) call71 func71 (lOK aN)
def zdN:Cx ty:={ base with nt:=8 }
def zhu (s:yI):Bool×yI:=(decide (s.length*24<=zbm),s)
def zjM:Ab.Spec ty:=zh (cx:=base) (zd (zg (vSl 75)) zw) λx=>((zhu x.1).1,⟨[.own 75 (zhu x.1).2],[]⟩)
theorem zuw:zdu zdN f61 (body f61) ⟨[.own 75],[]⟩ [.pure (.lit (.slice none 0 0))]=some ⟨[.own 75 []],[]⟩:=by kernel_rfl
theorem zsY (p:Addr) (c:Nat):zdu zdN f61 (body f61) ⟨[.own 75],[]⟩ [.pure (.lit (.slice (some p) 0 c))]=some ⟨[.own 75 []],[]⟩:=by kernel_rfl
theorem ztM (l:yI):zdu zdN f61 (body f61) ⟨[.own 75],[]⟩ [.pure (.sl 75 l)]=bif !l.isEmpty then bif decide ((([]:List (ty 75)).length+l.length)*24<=zbm) then some ⟨[.own 75 l],[]⟩ else none else none:=by kernel_rfl
theorem zsK:SdP 61 zjM:=
 zrv (cx':=zdN) (bytes:=24) zrR zdj ⟨⟨rfl,rfl,rfl,rfl,rfl,rfl⟩,rfl⟩ (λg s h=>by cases h) call61 func61 (c:=body f61) (by kernel_rfl) (zjI (l:=[]) (by kernel_rfl) trivial) zuw zsY ztM (by kernel_rfl)
def zfl:Cx ty:={ base with nt:=8 }
def zkg (s:yG):Bool×yG:=(decide (s.length*48<=zbm),s)
def znm:Ab.Spec ty:=zh (cx:=base) (zd (zg (vSl 54)) zw) λx=>((zkg x.1).1,⟨[.own 54 (zkg x.1).2],[]⟩)
theorem zxP:zdu zfl f68 (body f68) ⟨[.own 54],[]⟩ [.pure (.lit (.slice none 0 0))]=some ⟨[.own 54 []],[]⟩:=by kernel_rfl
theorem zwX (p:Addr) (c:Nat):zdu zfl f68 (body f68) ⟨[.own 54],[]⟩ [.pure (.lit (.slice (some p) 0 c))]=some ⟨[.own 54 []],[]⟩:=by kernel_rfl
theorem zxL (l:yG):zdu zfl f68 (body f68) ⟨[.own 54],[]⟩ [.pure (.sl 54 l)]=bif !l.isEmpty then bif decide ((([]:List (ty 54)).length+l.length)*48<=zbm) then some ⟨[.own 54 l],[]⟩ else none else none:=by kernel_rfl
theorem zwT:SdP 68 znm:=
 zrv (cx':=zfl) (bytes:=48) zrR zdj ⟨⟨rfl,rfl,rfl,rfl,rfl,rfl⟩,rfl⟩ (λg s h=>by cases h) call68 func68 (c:=body f68) (by kernel_rfl) (zjI (l:=[]) (by kernel_rfl) trivial) zxP zwX zxL (by kernel_rfl)
abbrev zez:=yG×Unit×Int×Int×Unit
def zuM (s:yG) (t7:Int) (t8:Int):Wy zez Unit (Int⊕Unit):=.i (decide (t8<t7)) (.i (decide (0<=t8)&&decide (t8<Int.ofNat s.length)) (.i ((zms (s.getD t8.toNat default)).2) (.k (.inl t8)) (.h (s,(),t7,(IntKind.i64.wrap (t8+1)),()) ())) .d) (.k (.inr ()))
def zj9 (x:zez) (y:Unit):=zuM x.1 x.2.2.1 x.2.2.2.1
def zt4 (n:Nat) (s:yG) (t7:Int) (t8:Int):=zD (zj9) (.inl default) n (s,(),t7,t8,()) ()
def zua:LL ty zez:=za (lSl 54) (za (lFn 69 (zn)) (za zj (za zj zn)))
def zty (x:zez) (y:Unit):Nat:=(x.1.length+Int.toNat x.2.2.1+Int.toNat x.2.2.2.1+1000)
def zkc:=zb4 base 19 [(69,zim)] [] [(2,(kpL [0,1,7,8]))] [(2,1,[]),(2,0,(kpL [4]))] [(2,spW zua z0j (zj9) (.inl default) zpL zty)] []
theorem ztH:zM zkc (lp (body f122) 0):=zu (id:=2) (hl:=rfl)
def zvc (s:yG):Wy0 (Int):=.bn (zt4 (s.length+(Int.ofNat s.length).toNat +Int.toNat 0+1000) s (Int.ofNat s.length) 0) λr0=>.i (isL r0) (.k (getL r0)) (.k (-1:Int))
def zgM (s:yG):=(zvc s).fin default
def zu8:AL base (yG×Unit×Unit):=zd (zg (vSl 54)) (zd (zg (vFn 69 zcr)) zw)
def zjl:=zh zu8 λx=>((zgM x.1).1,zLf (zgM x.1).2)
theorem zsD:SdP 122 zjl:=
 sT (cx':=zkc) (zk ⟨zlK,trivial⟩) call122 func122 (lOK (aC ztH aN))
abbrev zeX:=Unit×Unit×Int×Int×Unit
abbrev ze1:=yG×Unit
abbrev zod:=Int×yG
def zvS (i:Int) (j:Int) (s:yG):Wy zeX ze1 zod:=.i (decide (j<Int.ofNat s.length)) (.i (decide (0<=j)&&decide (j<Int.ofNat s.length)) (.i (!(zms (s.getD j.toNat default)).2) (.i (decide (0<=i)&&decide (i<Int.ofNat s.length)) (.i (decide (i.toNat<s.length)) (.h ((),(),(IntKind.i64.wrap (i+1)),(IntKind.i64.wrap (j+1)),()) ((s.set i.toNat (s.getD j.toNat default)),())) .d) .d) (.h ((),(),i,(IntKind.i64.wrap (j+1)),()) (s,()))) .d) (.k (i,s))
def zkZ (x:zeX) (y:ze1):=zvS x.2.2.1 x.2.2.2.1 y.1
def zvV (n:Nat) (i:Int) (j:Int) (s:yG):=zD (zkZ) default n ((),(),i,j,()) (s,())
def zu5 (r:zod):LTree ty:=.done (.exit 0) [.own 168,.lit (.int .i64 r.1)] [.arr 54 r.2 false]
def zvZ:LL ty zeX:=za (zcG 168) (za (lFn 69 (zn)) (za zj (za zj zn)))
def zv1:BL ty ze1:=zcV 54 false (zbd)
def zvl (x:zeX) (y:ze1):Nat:=(Int.toNat x.2.2.1+Int.toNat x.2.2.2.1+y.1.length+1000)
def zk0:=zb4 base 42 [(69,zim),(122,zjl)] [] [(5,(kpL [0,1,5,6]))] [(5,1,(kpL [0,5]))] [(5,spW zvZ zv1 (zkZ) default zu5 zvl)] []
theorem zu7:zM zk0 (lp (body f67) 0):=zu (id:=5) (hl:=rfl)
def zwE (s:yG):Wy0 (yG):=.bn (zgM s) λr1=>.i (r1==(-1:Int)) (.k s) (.bn (zvV (r1.toNat +(IntKind.i64.wrap (r1+1)).toNat +s.length+1000) r1 (IntKind.i64.wrap (r1+1)) s) λr0=>.i (decide (0<=r0.1)&&decide (r0.1<=Int.ofNat r0.2.length)&&decide (Int.ofNat r0.2.length<=Int.ofNat r0.2.length)) (.i (decide (r0.1.toNat +((Int.ofNat r0.2.length).toNat - r0.1.toNat)<=r0.2.length)) (.i (decide ((0:Int)<=(0:Int))&&decide (0<=r0.1)&&decide (r0.1<=Int.ofNat (List.take r0.1.toNat r0.2++List.replicate ((Int.ofNat r0.2.length).toNat - r0.1.toNat) (Row.mk [] [])++List.drop (r0.1.toNat +((Int.ofNat r0.2.length).toNat - r0.1.toNat)) r0.2).length)) (.k (List.take (r0.1.toNat - Int.toNat 0) (List.take r0.1.toNat r0.2++List.replicate ((Int.ofNat r0.2.length).toNat - r0.1.toNat) (Row.mk [] [])++List.drop (r0.1.toNat +((Int.ofNat r0.2.length).toNat - r0.1.toNat)) r0.2))) .d) .d) .d)
def zhN (s:yG):=(zwE s).fin default
def zvp (r:yG):ARes ty:=⟨[.own 54 r],[none]⟩
def zwz:AL base (yG×Unit×Unit):=zd (zkO 54) (zd (zg (vFn 69 zcr)) zw)
def zj8:=zh zwz λx=>((zhN x.1).1,zvp (zhN x.1).2)
theorem ztZ:SdP 67 zj8:=
 sT (cx':=zk0) (zk ⟨zlK,zsD,trivial⟩) call67 func67 (lOK (aC zu7 aN)) (sg:=⟨[.own 54],[false]⟩)
def zxy (r:yG):ARes ty:=⟨[],[some ⟨54,r⟩]⟩
def zyE:AL base (yG×Int×Int×Int×Unit×Unit):=zd (zkO 54) (zd (zg (zfx .i64)) (zd (zg (zfx .i64)) (zd (zg (zfx .i64)) (zd (zg (vFn 53 zcr)) zw))))
def zyZ (F:yG->Int->Int->Int->Bool×yG):Ab.Spec ty:=zh zyE λx=>((F x.1 x.2.1 x.2.2.1 x.2.2.2.1).1,zxy (F x.1 x.2.1 x.2.2.1 x.2.2.2.1).2)
def zjt:yG->Int->Int->Int->Bool×yG:=λa _ _ _=>(decide (a.length=a.length+1),default)
def zmh:Ab.Spec ty:=zyZ zjt
theorem zwq:SdP 191 zmh:=zbl call191 (λ_=>decide_eq_false (Nat.ne_of_lt (Nat.lt_succ_self _)))
abbrev zd2:=Unit×Int×Int×Unit×Int×Int×Unit
abbrev zbQ:=yG×Unit
abbrev zlm:=Int×Int×Int×yG
abbrev zec:=Unit×Int×Int×Unit×Int×Unit
def zu4 (a:Int) (b:Int) (i:Int) (j:Int) (data:yG):Wy zd2 zbQ zlm:=.i (decide (j>a)) (.i (decide (0<=j)&&decide (j<Int.ofNat data.length)) (.i (decide (0<=IntKind.i64.wrap (j - 1))&&decide (IntKind.i64.wrap (j - 1)<Int.ofNat data.length)) (.bn (zdp (data.getD j.toNat default) (data.getD (IntKind.i64.wrap (j - 1)).toNat default)) λr0=>.i (decide (r0<0)) (.i (decide (0<=IntKind.i64.wrap (j - 1))&&decide (IntKind.i64.wrap (j - 1)<Int.ofNat data.length)) (.i (decide (0<=j)&&decide (j<Int.ofNat data.length)) (.i (decide (0<=j)&&decide (j<Int.ofNat data.length)) (.i (decide (j.toNat<data.length)) (.i (decide (0<=IntKind.i64.wrap (j - 1))&&decide (IntKind.i64.wrap (j - 1)<Int.ofNat (data.set j.toNat (data.getD (IntKind.i64.wrap (j - 1)).toNat default)).length)) (.i (decide ((IntKind.i64.wrap (j - 1)).toNat<(data.set j.toNat (data.getD (IntKind.i64.wrap (j - 1)).toNat default)).length)) (.h ((),a,b,(),i,(IntKind.i64.wrap (j - 1)),()) (((data.set j.toNat (data.getD (IntKind.i64.wrap (j - 1)).toNat default)).set (IntKind.i64.wrap (j - 1)).toNat (data.getD j.toNat default)),())) .d) .d) .d) .d) .d) .d) (.k (a,b,i,data))) .d) .d) (.k (a,b,i,data))
def zkv (x:zd2) (y:zbQ):=zu4 x.2.1 x.2.2.1 x.2.2.2.2.1 x.2.2.2.2.2.1 y.1
def zu1 (n:Nat) (a:Int) (b:Int) (i:Int) (j:Int) (data:yG):=zD (zkv) default n ((),a,b,(),i,j,()) (data,())
def zuE (r:zlm):LTree ty:=.done (.exit 2) [.own 212,.lit (.int .i64 r.1),.lit (.int .i64 r.2.1),.fn 53 ([]),.lit (.int .i64 r.2.2.1)] [.arr 54 r.2.2.2 false]
def zvh:LL ty zd2:=za (zcG 212) (za zj (za zj (za (lFn 53 (zn)) (za zj (za zj zn)))))
def zuY:BL ty zbQ:=zcV 54 false (zbd)
def zvu (a:Int) (b:Int) (i:Int) (data:yG):Wy zec zbQ (yG):=.i (decide (i<b)) (.bn (zu1 (a.toNat +b.toNat +i.toNat +i.toNat +data.length+1000) a b i i data) λr2=>.h ((),(r2.1),(r2.2.1),(),(IntKind.i64.wrap (r2.2.2.1+1)),()) ((r2.2.2.2),())) (.k data)
def zks (x:zec) (y:zbQ):=zvu x.2.1 x.2.2.1 x.2.2.2.2.1 y.1
def zvs (n:Nat) (a:Int) (b:Int) (i:Int) (data:yG):=zD (zks) default n ((),a,b,(),i,()) (data,())
def zuG (r:yG):LTree ty:=.done (.exit 0) [.own 212] [.arr 54 r false]
def zu3:LL ty zec:=za (zcG 212) (za zj (za zj (za (lFn 53 (zn)) (za zj zn))))
def zum (x:zd2) (y:zbQ):Nat:=(Int.toNat x.2.1+Int.toNat x.2.2.1+Int.toNat x.2.2.2.2.1+Int.toNat x.2.2.2.2.2.1+y.1.length+1000)
def zus (x:zec) (y:zbQ):Nat:=(Int.toNat x.2.1+Int.toNat x.2.2.1+Int.toNat x.2.2.2.2.1+y.1.length+1000)
def zf7:=zb4 base 53 [(53,zeU)] [] [(1,(kpL [0,1,2,3,8])),(4,(kpL [0,1,2,3,8,9]))] [(1,1,(kpL [0])),(4,3,(kpL [0,1,2,3,8]))] [(4,spW zvh zuY (zkv) default zuE zum),(1,spW zu3 zuY (zks) default zuG zus)] []
theorem zuN:zM zf7 (lp (body f190) 1):=zu (id:=4) (hl:=rfl)
theorem zuO:zM zf7 (lp (body f190) 0):=zu (id:=1) (hl:=rfl)
def zv4 (data:yG) (a:Int) (b:Int):Wy0 (yG):=.bn (zvs (a.toNat +b.toNat +(IntKind.i64.wrap (a+1)).toNat +data.length+1000) a b (IntKind.i64.wrap (a+1)) data) λr4=>.k r4
def zet (data:yG) (a:Int) (b:Int):=(zv4 data a b).fin default
def zv6:AL base (yG×Int×Int×Unit×Unit):=zd (zkO 54) (zd (zg ziy) (zd (zg ziy) (zd (zg (vFn 53 zcr)) zw)))
def zjA:=zh zv6 λx=>((zet x.1 x.2.1 x.2.2.1).1,zxy (zet x.1 x.2.1 x.2.2.1).2)
theorem zsQ:SdP 190 zjA:=
 sT (cx':=zf7) (zk ⟨zfF,trivial⟩) call190 func190 (lOK (aC zuO (aC zuN aN))) (sg:=⟨[],[true]⟩)
abbrev zcm:=Unit×Int×Unit×Int×Int×Int×Unit
abbrev zbt:=yG×Unit
abbrev zgB:=Int×Int×Int×yG
abbrev zgC:=Unit×Int×Unit×Int×Unit
def zAd (n_:Int) (blockSize:Int) (a:Int) (b:Int) (data:yG):Wy zcm zbt zgB:=.i (decide (b<=n_)) (.bn (zet data a b) λr0=>.h ((),n_,(),blockSize,b,(IntKind.i64.wrap (b+blockSize)),()) ((r0),())) (.k (n_,blockSize,a,data))
def zpD (x:zcm) (y:zbt):=zAd x.2.1 x.2.2.2.1 x.2.2.2.2.1 x.2.2.2.2.2.1 y.1
def zzY (n:Nat) (n_:Int) (blockSize:Int) (a:Int) (b:Int) (data:yG):=zD (zpD) default n ((),n_,(),blockSize,a,b,()) (data,())
def zy3 (r:zgB):LTree ty:=.done (.exit 0) [.own 252,.lit (.int .i64 r.1),.fn 53 ([]),.lit (.int .i64 r.2.1),.lit (.int .i64 r.2.2.1)] [.arr 54 r.2.2.2 false]
def zz3:LL ty zcm:=za (zcG 252) (za zj (za (lFn 53 (zn)) (za zj (za zj (za zj zn)))))
def zz4:BL ty zbt:=zcV 54 false (zbd)
def zz7 (n_:Int) (blockSize:Int) (a:Int) (b:Int) (data:yG):Wy zcm zbt zgB:=.i (decide (b<=n_)) (.bn (zjt data a (IntKind.i64.wrap (a+blockSize)) b) λr2=>.h ((),n_,(),blockSize,b,(IntKind.i64.wrap (b+IntKind.i64.wrap (2*blockSize))),()) ((r2),())) (.k (n_,blockSize,a,data))
def zpE (x:zcm) (y:zbt):=zz7 x.2.1 x.2.2.2.1 x.2.2.2.2.1 x.2.2.2.2.2.1 y.1
def zzZ (n:Nat) (n_:Int) (blockSize:Int) (a:Int) (b:Int) (data:yG):=zD (zpE) default n ((),n_,(),blockSize,a,b,()) (data,())
def zyI (r:zgB):LTree ty:=.done (.exit 4) [.own 252,.lit (.int .i64 r.1),.fn 53 ([]),.lit (.int .i64 r.2.1),.lit (.int .i64 r.2.2.1)] [.arr 54 r.2.2.2 false]
def zz0 (n_:Int) (blockSize:Int) (data:yG):Wy zgC zbt (yG):=.i (decide (blockSize<n_)) (.bn (zzZ (n_.toNat +blockSize.toNat +Int.toNat 0+(IntKind.i64.wrap (2*blockSize)).toNat +data.length+1000) n_ blockSize 0 (IntKind.i64.wrap (2*blockSize)) data) λr5=>.i (decide (IntKind.i64.wrap (r5.2.2.1+r5.2.1)<r5.1)) (.bn (zjt r5.2.2.2 r5.2.2.1 (IntKind.i64.wrap (r5.2.2.1+r5.2.1)) r5.1) λr4=>.h ((),(r5.1),(),(IntKind.i64.wrap (r5.2.1*2)),()) ((r4),())) (.h ((),(r5.1),(),(IntKind.i64.wrap (r5.2.1*2)),()) ((r5.2.2.2),()))) (.k data)
def zpC (x:zgC) (y:zbt):=zz0 x.2.1 x.2.2.2.1 y.1
def zz5 (n:Nat) (n_:Int) (blockSize:Int) (data:yG):=zD (zpC) default n ((),n_,(),blockSize,()) (data,())
def zyJ (r:yG):LTree ty:=.done (.exit 2) [.own 252] [.arr 54 r false]
def zAa:LL ty zgC:=za (zcG 252) (za zj (za (lFn 53 (zn)) (za zj zn)))
def zyM (x:zcm) (y:zbt):Nat:=(Int.toNat x.2.1+Int.toNat x.2.2.2.1+Int.toNat x.2.2.2.2.1+Int.toNat x.2.2.2.2.2.1+y.1.length+1000)
def zyT (x:zgC) (y:zbt):Nat:=(Int.toNat x.2.1+Int.toNat x.2.2.2.1+y.1.length+1000)
def zfD:=zb4 base 63 [(53,zeU),(190,zjA),(191,zmh)] [(190,[true,false,false,false]),(191,[true,false,false,false,false])] [(2,(kpL [0,1,2,6,7,8])),(7,(kpL [0,1,2,6])),(9,(kpL [0,1,2,6,7,8]))] [(2,1,(kpL [0,1,2,6,7])),(7,3,(kpL [0])),(9,5,(kpL [0,1,2,6,7]))] [(2,spW zz3 zz4 (zpD) default zy3 zyM),(9,spW zz3 zz4 (zpE) default zyI zyM),(7,spW zAa zz4 (zpC) default zyJ zyT)] []
theorem zy2:zM zfD (lp (body f123) 0):=zu (id:=2) (hl:=rfl)
theorem zyH:zM zfD (lp (body f123) 2):=zu (id:=9) (hl:=rfl)
theorem zyC:zM zfD (lp (body f123) 1):=zu (id:=7) (hl:=rfl)
def zAT (data:yG) (n_:Int):Wy0 (yG):=.bn (zzY (n_.toNat +Int.toNat 20+Int.toNat 0+Int.toNat 20+data.length+1000) n_ 20 0 20 data) λr10=>.bn (zet r10.2.2.2 r10.2.2.1 r10.1) λr9=>.bn (zz5 (r10.1.toNat +r10.2.1.toNat +r9.length+1000) r10.1 r10.2.1 r9) λr8=>.k r8
def zkP (data:yG) (n_:Int):=(zAT data n_).fin default
def zAR:AL base (yG×Int×Unit×Unit):=zd (zkO 54) (zd (zg ziy) (zd (zg (vFn 53 zcr)) zw))
def zn9:=zh zAR λx=>((zkP x.1 x.2.1).1,zxy (zkP x.1 x.2.1).2)
theorem zxJ:SdP 123 zn9:=
 sT (cx':=zfD) (zk ⟨zfF,zsQ,zwq,trivial⟩) call123 func123 (lOK (aC zy2 (aC zyC (aC zyH aN)))) (sg:=⟨[],[true]⟩)
def zsZ:=zb4 base 9 [(53,zeU),(123,zn9)] [(123,[true,false,false])] [] [] [] []
def ztw (x_:yG):Wy0 (yG):=.bn (zkP x_ (Int.ofNat x_.length)) λr0=>.k r0
def zf3 (x_:yG):=(ztw x_).fin default
def ztu:AL base (yG×Unit×Unit):=zd (zkO 54) (zd (zg (vFn 53 zcr)) zw)
def ziv:=zh ztu λx=>((zf3 x.1).1,zxy (zf3 x.1).2)
theorem zrk:SdP 70 ziv:=
 sT (cx':=zsZ) (zk ⟨zfF,zxJ,trivial⟩) call70 func70 (lOK aN) (sg:=⟨[],[true]⟩)
end Go.Proofs.YtoknknbmfmddbaaGreatDoor
end
