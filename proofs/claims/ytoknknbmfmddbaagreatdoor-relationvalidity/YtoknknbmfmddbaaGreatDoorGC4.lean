/- Texts of this claim, joined (the program, its functions in plain words, and what they compute). -/
import Derived.Test.YtoknknbmfmddbaaGreatDoorGC3
set_option autoImplicit false
set_option linter.unusedVariables false
set_option linter.unusedSectionVars false
set_option linter.unusedSimpArgs false
set_option maxRecDepth 1000000
set_option maxHeartbeats 0
noncomputable section
namespace Go.Proofs.YtoknknbmfmddbaaGreatDoor
open Go Go.Ab
open Go.Proofs.Tryz
def zQ2:=zbu base 9 []
def zSg (n_:Int):Wy0 (yB):=.i (decide (n_<1)) (.k []) (.k [TO.mk (if 1152921504606846976<n_ then 1152921504606846976 else n_) []])
def zzg (n_:Int):=(zSg n_).fin default
def zzX:=zh zVL λx=>((zzg x.1).1,z1m (zzg x.1).2)
theorem zK9:SdP 197 zzX:=
 sT (cx':=zQ2) (zi trivial) call197 func197 (lOK aN) (sg:=⟨[.own 107],[]⟩)
def zv8:=zbu base 27 []
def zwy (n_:Int):Wy0 (yC):=.i (decide (n_<0)) .d (.i (decide (IntKind.i64.wrap (n_ - IntKind.i64.wrap (0 - 0))>0)) (.i (decide (0<IntKind.i64.wrap (n_ - IntKind.i64.wrap (0 - 0)))&&(decide (IntKind.i64.wrap (n_ - IntKind.i64.wrap (0 - 0))*Int.ofNat 128<=Int.ofNat zbh)&&(decide (IntKind.i64.wrap (n_ - IntKind.i64.wrap (0 - 0))<=Int.ofNat zbh)&& !Nat.beq 11 0))) (.k (List.take (Int.toNat 0 - Int.toNat 0) (List.replicate (IntKind.i64.wrap (n_ - IntKind.i64.wrap (0 - 0))).toNat (FO.mk (At.mk 0 (RowID.mk 0 0) [] 0 [] 0 (Value.mk 0 0 (ByteArray.mk #[]))) 0)))) .d) (.k []))
def zh4 (n_:Int):=(zwy n_).fin default
def zu0 (r:yC):ARes ty:=⟨[.own 145 r],[]⟩
def zj6:=zh zv0 λx=>((zh4 x.2.1).1,zu0 (zh4 x.2.1).2)
theorem ztY:SdP 303 zj6:=
 sT (cx':=zv8) (zi trivial) call303 func303 (lOK aN) (sg:=⟨[.own 145],[]⟩)
abbrev zew:=List (yC)×Int×List (yC)×Int×Int×Unit
abbrev zml:=List (yC)×Int
abbrev zex:=Unit×List (yC)×Int×Int×Unit
abbrev zey:=yC×Unit
def zux (slices:List (yC)) (size:Int) (t9:List (yC)) (t10:Int) (t11:Int):Wy zew Unit zml:=.i (decide (t11<t10)) (.i (decide (0<=t11)&&decide (t11<Int.ofNat t9.length)) (.i (decide (IntKind.i64.wrap (size+Int.ofNat (List.length (t9.getD t11.toNat default)))<0)) .d (.h (slices,(IntKind.i64.wrap (size+Int.ofNat (List.length (t9.getD t11.toNat default)))),t9,t10,(IntKind.i64.wrap (t11+1)),()) ())) .d) (.k (slices,size))
def zj9 (x:zew) (y:Unit):=zux x.1 x.2.1 x.2.2.1 x.2.2.2.1 x.2.2.2.2.1
def zuk (n:Nat) (slices:List (yC)) (size:Int) (t9:List (yC)) (t10:Int) (t11:Int):=zB (zj9) default n (slices,size,t9,t10,t11,()) ()
def zto (r:zml):LTree ty:=.done (.exit 0) [.sl 105 r.1,.lit (.int .i64 r.2)] []
def zum:LL ty zew:=za (lSl 105) (za zj (za (lSl 105) (za zj (za zj zl))))
def ztz (t25:List (yC)) (t26:Int) (t27:Int) (newslice:yC):Wy zex zey (yC):=.i (decide (t27<t26)) (.i (decide (0<=t27)&&decide (t27<Int.ofNat t25.length)) (.i (decide ((newslice.length+List.length (t25.getD t27.toNat default))*128<=zbh)) (.h ((),t25,t26,(IntKind.i64.wrap (t27+1)),()) ((newslice++t25.getD t27.toNat default),())) .d) .d) (.k newslice)
def zjv (x:zex) (y:zey):=ztz x.2.1 x.2.2.1 x.2.2.2.1 y.1
def ztr (n:Nat) (t25:List (yC)) (t26:Int) (t27:Int) (newslice:yC):=zB (zjv) default n ((),t25,t26,t27,()) (newslice,())
def zsZ (r:yC):LTree ty:=.done (.exit 2) [.own 144] [.arr 145 r false]
def ztl:LL ty zex:=za (zeJ 144) (za (lSl 105) (za zj (za zj zl)))
def ztS:BL ty zey:=zeE 145 false (zbb)
def ztk (x:zew) (y:Unit):Nat:=(x.1.length+Int.toNat x.2.1+x.2.2.1.length+Int.toNat x.2.2.2.1+Int.toNat x.2.2.2.2.1+1)
def zsS (x:zex) (y:zey):Nat:=(x.2.1.length+Int.toNat x.2.2.1+Int.toNat x.2.2.2.1+y.1.length+1)
def zfM:=zbX base 36 [(303,zj6)] [] [(3,(kpL [0,3,9,10,11])),(11,(kpL [6,25,26,27]))] [(3,1,(kpL [0,3])),(11,3,(kpL [6]))] [(3,spW zum z3q (zj9) default zto ztk),(11,spW ztl ztS (zjv) default zsZ zsS)] [303]
theorem ztw:zF zfM (lp (body f282) 0):=zn (id:=3) (hl:=rfl)
theorem zsT:zF zfM (lp (body f282) 1):=zn (id:=11) (hl:=rfl)
def zvt (slices:List (yC)):Wy0 (yC):=.bn (zuk (slices.length+Int.toNat 0+slices.length+(Int.ofNat slices.length).toNat +Int.toNat 0+1) slices 0 slices (Int.ofNat slices.length) 0) λr2=>.bn (zh4 r2.2) λr1=>.bn (ztr (r2.1.length+(Int.ofNat r2.1.length).toNat +Int.toNat 0+r1.length+1) r2.1 (Int.ofNat r2.1.length) 0 r1) λr0=>.k r0
def zg7 (slices:List (yC)):=(zvt slices).fin default
def zvo:AL base (List (yC)×Unit):=zd (zg (vSl 105)) zq
def zjl:=zh zvo λx=>((zg7 x.1).1,zu0 (zg7 x.1).2)
theorem zsy:SdP 282 zjl:=
 sT (cx':=zfM) (zi ⟨ztY,trivial⟩) call282 func282 (lOK (aC ztw (aC zsT aN))) (sg:=⟨[.own 145],[]⟩)
abbrev zqW:=yC×yC×Unit×Unit
abbrev zqD:=yC×Unit
abbrev zD4:=yC×yC×yC
def zTc (a:yC) (b:yC) (out_:yC):Wy zqW zqD zD4:=.i (decide (Int.ofNat a.length>0)) (.i (decide (Int.ofNat b.length>0)) (.i (decide ((0:Int)<=(0:Int))&&decide (0<Int.ofNat a.length)) (.i (decide ((0:Int)<=(0:Int))&&decide (0<Int.ofNat b.length)) (.bn (zhS (At.mk (a.getD (Int.toNat 0) default).At.Kind (a.getD (Int.toNat 0) default).At.Row (a.getD (Int.toNat 0) default).At.Ag (a.getD (Int.toNat 0) default).At.Func (a.getD (Int.toNat 0) default).At.Items (a.getD (Int.toNat 0) default).At.Op (a.getD (Int.toNat 0) default).At.Bd) (At.mk (b.getD (Int.toNat 0) default).At.Kind (b.getD (Int.toNat 0) default).At.Row (b.getD (Int.toNat 0) default).At.Ag (b.getD (Int.toNat 0) default).At.Func (b.getD (Int.toNat 0) default).At.Items (b.getD (Int.toNat 0) default).At.Op (b.getD (Int.toNat 0) default).At.Bd)) λr1=>.i (decide (r1<0)) (.i (decide ((0:Int)<=(0:Int))&&decide (0<Int.ofNat a.length)) (.i (decide ((out_.length+[FO.mk (At.mk (a.getD (Int.toNat 0) default).At.Kind (a.getD (Int.toNat 0) default).At.Row (a.getD (Int.toNat 0) default).At.Ag (a.getD (Int.toNat 0) default).At.Func (a.getD (Int.toNat 0) default).At.Items (a.getD (Int.toNat 0) default).At.Op (a.getD (Int.toNat 0) default).At.Bd) (a.getD (Int.toNat 0) default).Exp].length)*128<=zbh)) (.i (decide ((0:Int)<=(1:Int))&&decide (1<=Int.ofNat a.length)&&decide (Int.ofNat a.length<=Int.ofNat a.length)) (.h ((List.take ((Int.ofNat a.length).toNat - Int.toNat 1) (List.drop (Int.toNat 1) a)),b,(),()) ((out_++[FO.mk (At.mk (a.getD (Int.toNat 0) default).At.Kind (a.getD (Int.toNat 0) default).At.Row (a.getD (Int.toNat 0) default).At.Ag (a.getD (Int.toNat 0) default).At.Func (a.getD (Int.toNat 0) default).At.Items (a.getD (Int.toNat 0) default).At.Op (a.getD (Int.toNat 0) default).At.Bd) (a.getD (Int.toNat 0) default).Exp]),())) .d) .d) .d) (.i (decide (r1>0)) (.i (decide ((0:Int)<=(0:Int))&&decide (0<Int.ofNat b.length)) (.i (decide ((out_.length+[FO.mk (At.mk (b.getD (Int.toNat 0) default).At.Kind (b.getD (Int.toNat 0) default).At.Row (b.getD (Int.toNat 0) default).At.Ag (b.getD (Int.toNat 0) default).At.Func (b.getD (Int.toNat 0) default).At.Items (b.getD (Int.toNat 0) default).At.Op (b.getD (Int.toNat 0) default).At.Bd) (b.getD (Int.toNat 0) default).Exp].length)*128<=zbh)) (.i (decide ((0:Int)<=(1:Int))&&decide (1<=Int.ofNat b.length)&&decide (Int.ofNat b.length<=Int.ofNat b.length)) (.h (a,(List.take ((Int.ofNat b.length).toNat - Int.toNat 1) (List.drop (Int.toNat 1) b)),(),()) ((out_++[FO.mk (At.mk (b.getD (Int.toNat 0) default).At.Kind (b.getD (Int.toNat 0) default).At.Row (b.getD (Int.toNat 0) default).At.Ag (b.getD (Int.toNat 0) default).At.Func (b.getD (Int.toNat 0) default).At.Items (b.getD (Int.toNat 0) default).At.Op (b.getD (Int.toNat 0) default).At.Bd) (b.getD (Int.toNat 0) default).Exp]),())) .d) .d) .d) (.i (decide ((0:Int)<=(0:Int))&&decide (0<Int.ofNat a.length)) (.bn (zeX (At.mk (a.getD (Int.toNat 0) default).At.Kind (a.getD (Int.toNat 0) default).At.Row (a.getD (Int.toNat 0) default).At.Ag (a.getD (Int.toNat 0) default).At.Func (a.getD (Int.toNat 0) default).At.Items (a.getD (Int.toNat 0) default).At.Op (a.getD (Int.toNat 0) default).At.Bd)) λr0=>.i (!r0) (.i (decide ((0:Int)<=(0:Int))&&decide (0<Int.ofNat b.length)) (.i (decide ((out_.length+[FO.mk (At.mk (a.getD (Int.toNat 0) default).At.Kind (a.getD (Int.toNat 0) default).At.Row (a.getD (Int.toNat 0) default).At.Ag (a.getD (Int.toNat 0) default).At.Func (a.getD (Int.toNat 0) default).At.Items (a.getD (Int.toNat 0) default).At.Op (a.getD (Int.toNat 0) default).At.Bd) (IntKind.i64.wrap ((a.getD (Int.toNat 0) default).Exp+(b.getD (Int.toNat 0) default).Exp))].length)*128<=zbh)) (.i (decide ((0:Int)<=(1:Int))&&decide (1<=Int.ofNat a.length)&&decide (Int.ofNat a.length<=Int.ofNat a.length)) (.i (decide ((0:Int)<=(1:Int))&&decide (1<=Int.ofNat b.length)&&decide (Int.ofNat b.length<=Int.ofNat b.length)) (.h ((List.take ((Int.ofNat a.length).toNat - Int.toNat 1) (List.drop (Int.toNat 1) a)),(List.take ((Int.ofNat b.length).toNat - Int.toNat 1) (List.drop (Int.toNat 1) b)),(),()) ((out_++[FO.mk (At.mk (a.getD (Int.toNat 0) default).At.Kind (a.getD (Int.toNat 0) default).At.Row (a.getD (Int.toNat 0) default).At.Ag (a.getD (Int.toNat 0) default).At.Func (a.getD (Int.toNat 0) default).At.Items (a.getD (Int.toNat 0) default).At.Op (a.getD (Int.toNat 0) default).At.Bd) (IntKind.i64.wrap ((a.getD (Int.toNat 0) default).Exp+(b.getD (Int.toNat 0) default).Exp))]),())) .d) .d) .d) .d) (.i (decide ((out_.length+[FO.mk (At.mk (a.getD (Int.toNat 0) default).At.Kind (a.getD (Int.toNat 0) default).At.Row (a.getD (Int.toNat 0) default).At.Ag (a.getD (Int.toNat 0) default).At.Func (a.getD (Int.toNat 0) default).At.Items (a.getD (Int.toNat 0) default).At.Op (a.getD (Int.toNat 0) default).At.Bd) (a.getD (Int.toNat 0) default).Exp].length)*128<=zbh)) (.i (decide ((0:Int)<=(1:Int))&&decide (1<=Int.ofNat a.length)&&decide (Int.ofNat a.length<=Int.ofNat a.length)) (.i (decide ((0:Int)<=(1:Int))&&decide (1<=Int.ofNat b.length)&&decide (Int.ofNat b.length<=Int.ofNat b.length)) (.h ((List.take ((Int.ofNat a.length).toNat - Int.toNat 1) (List.drop (Int.toNat 1) a)),(List.take ((Int.ofNat b.length).toNat - Int.toNat 1) (List.drop (Int.toNat 1) b)),(),()) ((out_++[FO.mk (At.mk (a.getD (Int.toNat 0) default).At.Kind (a.getD (Int.toNat 0) default).At.Row (a.getD (Int.toNat 0) default).At.Ag (a.getD (Int.toNat 0) default).At.Func (a.getD (Int.toNat 0) default).At.Items (a.getD (Int.toNat 0) default).At.Op (a.getD (Int.toNat 0) default).At.Bd) (a.getD (Int.toNat 0) default).Exp]),())) .d) .d) .d)) .d))) .d) .d) (.k (a,b,out_))) (.k (a,b,out_))
def zD1 (x:zqW) (y:zqD):=zTc x.1 x.2.1 y.1
def zS6 (n:Nat) (a:yC) (b:yC) (out_:yC):=zB (zD1) default n (a,b,(),()) (out_,())
def zRx (r:zD4):LTree ty:=.done (.exit 0) [.sl 145 r.1,.sl 145 r.2.1,.own 300] [.arr 145 r.2.2 false]
def zSQ:LL ty zqW:=za (lSl 145) (za (lSl 145) (za (zeJ 300) zl))
def zS0:BL ty zqD:=zeE 145 false (zbb)
def zRq (x:zqW) (y:zqD):Nat:=(x.1.length+x.2.1.length+y.1.length+1)
def zEr:=zbX base 75 [(105,ziG),(106,zkT),(282,zjl)] [] [(2,[(0,.keep),(1,.keep),(5,.own 145)])] [(2,1,(kpL [0,1,5]))] [(2,spW zSQ zS0 (zD1) default zRx zRq)] []
theorem zRr:zF zEr (lp (body f239) 0):=zn (id:=2) (hl:=rfl)
def zVG (a:yC) (b:yC):Wy0 (yC):=.bn (zS6 (a.length+b.length+0+1) a b []) λr5=>.bn (zg7 [r5.2.2,r5.1,r5.2.1]) λr4=>.k r4
def zBA (a:yC) (b:yC):=(zVG a b).fin default
def zU4:AL base (yC×yC×Unit):=zd (zg (vSl 145)) (zd (zg (vSl 145)) zq)
def zBR:=zh zU4 λx=>((zBA x.1 x.2.1).1,zu0 (zBA x.1 x.2.1).2)
theorem zN3:SdP 239 zBR:=
 sT (cx':=zEr) (zi ⟨zlK,zrH,zsy,trivial⟩) call239 func239 (lOK (aC zRr aN)) (sg:=⟨[.own 145],[]⟩)
def zRM:=zbu base 12 []
def zS4 (a:Int) (b:Int):Wy0 (Int):=.i (!decide (b=0)) (.i (decide (a>IntKind.i64.wrap (Int.tdiv 1152921504606846976 b))) (.k 1152921504606846976) (.k (IntKind.i64.wrap (a*b)))) .d
def zzq (a:Int) (b:Int):=(zS4 a b).fin default
def zzy:=zh zRk λx=>((zzq x.1 x.2.1).1,zLH (zzq x.1 x.2.1).2)
theorem zK1:SdP 238 zzy:=
 sT (cx':=zRM) (zi trivial) call238 func238 (lOK aN)
abbrev zrZ:=yB×Unit×Unit×yB×Int×Int×yB×Int×Int×Unit
abbrev zrQ:=yB×Term×Unit
abbrev zF8:=yB×yB×Int×Int×yB
abbrev zrX:=yB×Unit×yB×Int×Int×Unit
abbrev zrP:=yB×Unit
def zVE (b:yB) (t19:yB) (t20:Int) (t21:Int) (t25:yB) (t26:Int) (t27:Int) (terms:yB) (x_:Term):Wy zrZ zrQ zF8:=.i (decide (t27<t26)) (.i (decide (0<=t27)&&decide (t27<Int.ofNat t25.length)) (.bn (zzq x_.Cf (t25.getD t27.toNat default).Cf) λr5=>.bn (zBA x_.Fs (t25.getD t27.toNat default).Fs) λr4=>.i (decide ((terms.length+[TO.mk r5 r4].length)*32<=zbh)) (.h (b,(),(),t19,t20,t21,t25,t26,(IntKind.i64.wrap (t27+1)),()) ((terms++[TO.mk r5 r4]),x_,())) .d) .d) (.k (b,t19,t20,t21,terms))
def zF6 (x:zrZ) (y:zrQ):=zVE x.1 x.2.2.2.1 x.2.2.2.2.1 x.2.2.2.2.2.1 x.2.2.2.2.2.2.1 x.2.2.2.2.2.2.2.1 x.2.2.2.2.2.2.2.2.1 y.1 y.2.1
def zWb (n:Nat) (b:yB) (t19:yB) (t20:Int) (t21:Int) (t25:yB) (t26:Int) (t27:Int) (terms:yB) (x_:Term):=zB (zF6) default n (b,(),(),t19,t20,t21,t25,t26,t27,()) (terms,x_,())
def zSG (r:zF8):LTree ty:=.done (.exit 2) [.sl 107 r.1,.own 208,.sl 107 r.2.1,.lit (.int .i64 r.2.2.1),.lit (.int .i64 r.2.2.2.1)] [.arr 107 r.2.2.2.2 false]
def zVN:LL ty zrZ:=za (lSl 107) (za (zeJ 208) (za (zdd 209 0) (za (lSl 107) (za zj (za zj (za (lSl 107) (za zj (za zj zl))))))))
def zVO:BL ty zrQ:=zeE 107 false (zeq (zdO (λx=>(⟨x.1,x.2.1⟩:Term)) (λx=>(x.Cf,x.Fs,())) (λ_=>rfl) (za (zO .i64) (za (lSl 145) zl))) false (zbb))
def zVR (b:yB) (t19:yB) (t20:Int) (t21:Int) (terms:yB):Wy zrX zrP (yB):=.i (decide (t21<t20)) (.i (decide (0<=t21)&&decide (t21<Int.ofNat t19.length)) (.bn (zWb (b.length+t19.length+t20.toNat +t21.toNat +b.length+(Int.ofNat b.length).toNat +Int.toNat 0+terms.length+(t19.getD t21.toNat default).Fs.length+1) b t19 t20 t21 b (Int.ofNat b.length) 0 terms (t19.getD t21.toNat default)) λr8=>.h ((r8.1),(),(r8.2.1),(r8.2.2.1),(IntKind.i64.wrap (r8.2.2.2.1+1)),()) ((r8.2.2.2.2),())) .d) (.k terms)
def zFY (x:zrX) (y:zrP):=zVR x.1 x.2.2.1 x.2.2.2.1 x.2.2.2.2.1 y.1
def zVM (n:Nat) (b:yB) (t19:yB) (t20:Int) (t21:Int) (terms:yB):=zB (zFY) default n (b,(),t19,t20,t21,()) (terms,())
def zVi:LL ty zrX:=za (lSl 107) (za (zeJ 208) (za (lSl 107) (za zj (za zj zl))))
def zU7:BL ty zrP:=zeE 107 false (zbb)
def zTA (x:zrZ) (y:zrQ):Nat:=(x.1.length+x.2.2.2.1.length+Int.toNat x.2.2.2.2.1+Int.toNat x.2.2.2.2.2.1+x.2.2.2.2.2.2.1.length+Int.toNat x.2.2.2.2.2.2.2.1+Int.toNat x.2.2.2.2.2.2.2.2.1+y.1.length+y.2.1.Fs.length+1)
def zTg (x:zrX) (y:zrP):Nat:=(x.1.length+x.2.2.1.length+Int.toNat x.2.2.2.1+Int.toNat x.2.2.2.2.1+y.1.length+1)
def zx7:=zbX zbD 52 [(52,zcl),(124,zd1),(125,zpX),(238,zzy),(239,zBR)] [] [(5,[(1,.keep),(6,.own 107),(19,.keep),(20,.keep),(21,.keep)]),(8,[(1,.keep),(6,.own 107),(8,.keep),(19,.keep),(20,.keep),(21,.keep),(25,.keep),(26,.keep),(27,.keep)])] [(5,1,(kpL [6])),(8,3,(kpL [1,6,19,20,21]))] [(8,spW zVN zVO (zF6) default zSG zTA),(5,spW zVi zU7 (zFY) default zLg zTg)] []
theorem zUi:zF zx7 (lp (body f199) 1):=zn (id:=8) (hl:=rfl)
theorem zTP:zF zx7 (lp (body f199) 0):=zn (id:=5) (hl:=rfl)
def zXS (a:yB) (b:yB):Wy0 (yB×Int):=.bn (zb7 a) λr14=>.i (!r14) (.k ([],1)) (.bn (zb7 b) λr13=>.i (!r13) (.k ([],1)) (.bn (zVM (b.length+a.length+(Int.ofNat a.length).toNat +Int.toNat 0+0+1) b a (Int.ofNat a.length) 0 []) λr12=>.bn (zqU r12) λr11=>.bn (zfi r11) λr10=>.k (r10.1,r10.2)))
def zC6 (a:yB) (b:yB):=(zXS a b).fin default
def zCA:=zh zXo λx=>((zC6 x.1 x.2.1).1,zLa (zC6 x.1 x.2.1).2)
theorem zPg:Sound Tryz.prog zbD 199 zCA:=
 sU (cx':=zx7) (zi ⟨zco.nodr,ze0.nodr,zwI,zK1.nodr,zN3.nodr,trivial⟩) call199 func199 (lOK (aC zTP (aC zUi aN))) (sg:=⟨[.own 107,.pure],[]⟩)
def zBx:=zbu base 8 []
def zB7 (b:Bg) (p1:RowID):Wy0 (Bool):=.k (b.Row.Table==p1.Table&&(b.Row.Seq==p1.Seq&&true))
def zlh (b:Bg) (p1:RowID):=(zB7 b p1).fin default
def zB8:AL base (Bg×RowID×Unit):=zd (zg (zcb 65)) (zd (zg (zZx 63)) zq)
def ziN:=zh zB8 λx=>((zlh x.1 x.2.1).1,zQK (zlh x.1 x.2.1).2)
theorem zn8:SdP 140 ziN:=
 sT (cx':=zBx) (zi trivial) call140 func140 (lOK aN)
def zOX:=zbu base 8 []
def zQL (x_:At):Wy0 (yB):=.k [TO.mk 1 [FO.mk (At.mk x_.Kind x_.Row x_.Ag x_.Func x_.Items x_.Op x_.Bd) 1]]
def zh2 (x_:At):=(zQL x_).fin default
def zf4:=zh z36 λx=>((zh2 x.1).1,z1m (zh2 x.1).2)
theorem zhX:SdP 117 zf4:=
 sT (cx':=zOX) (zi trivial) call117 func117 (lOK aN) (sg:=⟨[.own 107],[]⟩)
def zVF:=zbu base 9 [(116,zrR),(117,zf4)]
def zXZ (id:RowID):Wy0 (yB):=.bn (zpj id) λr0=>.i (!r0) (.k []) (.k ((zh2 (At.mk 0 id [] 0 [] 0 (Value.mk 0 0 (ByteArray.mk #[])))).2))
def zCG (id:RowID):=(zXZ id).fin default
def zB9:=zh z5V λx=>((zCG x.1).1,z1m (zCG x.1).2)
theorem zOw:SdP 63 zB9:=
 sT (cx':=zVF) (zi ⟨zwo,zhX,trivial⟩) call63 func63 (lOK aN) (sg:=⟨[.own 107],[]⟩)
abbrev zdr:=yE×(RowID×Unit)×Int×Int×Unit
def zpy (s:yE) (f:RowID) (t7:Int) (t8:Int):Wy zdr Unit (Int⊕Unit):=.i (decide (t8<t7)) (.i (decide (0<=t8)&&decide (t8<Int.ofNat s.length)) (.i ((zlh (s.getD t8.toNat default) f).2) (.k (.inl t8)) (.h (s,(f,()),t7,(IntKind.i64.wrap (t8+1)),()) ())) .d) (.k (.inr ()))
def zhp (x:zdr) (y:Unit):=zpy x.1 x.2.1.1 x.2.2.1 x.2.2.2.1
def zpC (n:Nat) (s:yE) (f:RowID) (t7:Int) (t8:Int):=zB (zhp) (.inl default) n (s,(f,()),t7,t8,()) ()
def zpM:LL ty zdr:=za (lSl 65) (za (lFn 140 (za (zEu (zdO (λx=>(⟨x.1,x.2.1⟩:RowID)) (λx=>(x.Table,x.Seq,())) (λ_=>rfl) (za zj (za zj zl))) 0) zl)) (za zj (za zj zl)))
def zo3 (x:zdr) (y:Unit):Nat:=(x.1.length+Int.toNat x.2.2.1+Int.toNat x.2.2.2.1+1)
def zho:=zbX base 19 [(140,ziN)] [] [(2,(kpL [0,1,7,8]))] [(2,1,[]),(2,0,(kpL [4]))] [(2,spW zpM z3q (zhp) (.inl default) zp5 zo3)] []
theorem zoL:zF zho (lp (body f139) 0):=zn (id:=2) (hl:=rfl)
def zp6 (s:yE) (f:RowID):Wy0 (Int):=.bn (zpC (s.length+(Int.ofNat s.length).toNat +Int.toNat 0+1) s f (Int.ofNat s.length) 0) λr0=>.i (isL r0) (.k (getL r0)) (.k (-1:Int))
def zek (s:yE) (f:RowID):=(zp6 s f).fin default
def zpV:AL base (yE×(RowID×Unit)×Unit):=zd (zg (vSl 65)) (zd (zg (vFn 140 (zw5 (zZx 63) zcR))) zq)
def zgD:=zh zpV λx=>((zek x.1 x.2.1.1).1,zLH (zek x.1 x.2.1.1).2)
theorem znJ:SdP 139 zgD:=
 sT (cx':=zho) (zi ⟨zn8,trivial⟩) call139 func139 (lOK (aC zoL aN))
def zEO:=zbu base 18 [(63,zB9),(139,zgD),(140,ziN),(141,zf0)]
def zFM (id:RowID) (p1:yE):Wy0 (yB):=.bn (zek p1 id) λr2=>.i (decide (r2≥0)) (.i (decide (0<=r2)&&decide (r2<Int.ofNat p1.length)) (.bn (zh5 (p1.getD r2.toNat default).To) λr0=>.k r0) .d) (.bn (zCG id) λr1=>.k r1)
def zoR (id:RowID) (p1:yE):=(zFM id p1).fin default
def zEY:AL base (RowID×(yE×Unit)×Unit):=zd (zg (zcb 63)) (zd (zg (z0N (zw5 (vSl 65) zcR))) zq)
def zgU:=zh zEY λx=>((zoR x.1 x.2.1.1).1,z1m (zoR x.1 x.2.1.1).2)
theorem zjQ:SdP 138 zgU:=
 sT (cx':=zEO) (zi ⟨zOw,znJ,zn8,zhR,trivial⟩) call138 func138 (lOK aN) (sg:=⟨[.own 107],[]⟩)
abbrev zl4:=((yE×Unit)×Unit)×Unit×Unit×yB×Int×yB×Int×Int×yC×Int×Int×Int×Int×Unit
abbrev zdX:=yB×yB×Unit
abbrev zzJ:=yE×Int×yB×Int×Int×yC×Int×Int×yB×yB
abbrev zmk:=((yE×Unit)×Unit)×Unit×Unit×yB×Int×Int×yC×Int×Int×Unit
abbrev zzz:=Int⊕(yE×yB×Int×Int×yB×yB)
abbrev zl6:=((yE×Unit)×Unit)×Unit×yB×Int×Int×Unit
abbrev zl9:=yB×Unit
abbrev zAc:=Int⊕yB
def zHu (zm:At->yE->Bool×(yB×Int)) (to:yE) (b:yB) (e:Int) (t16:yB) (t17:Int) (t18:Int) (t26:yC) (t27:Int) (t28:Int) (t40:Int) (t41:Int) (sum:yB) (product:yB):Wy zl4 zdX zzJ:=.i (decide (t41<t40)) (.i (e==0) (.bn (zC6 product b) λr6=>.h (((to,()),()),(),(),b,(r6.2),t16,t17,t18,t26,t27,t28,t40,(IntKind.i64.wrap (t41+1)),()) (sum,(r6.1),())) (.h (((to,()),()),(),(),b,e,t16,t17,t18,t26,t27,t28,t40,(IntKind.i64.wrap (t41+1)),()) (sum,product,()))) (.k (to,e,t16,t17,t18,t26,t27,t28,sum,product))
def zw1 (zm:At->yE->Bool×(yB×Int)) (x:zl4) (y:zdX):=zHu zm x.1.1.1 x.2.2.2.1 x.2.2.2.2.1 x.2.2.2.2.2.1 x.2.2.2.2.2.2.1 x.2.2.2.2.2.2.2.1 x.2.2.2.2.2.2.2.2.1 x.2.2.2.2.2.2.2.2.2.1 x.2.2.2.2.2.2.2.2.2.2.1 x.2.2.2.2.2.2.2.2.2.2.2.1 x.2.2.2.2.2.2.2.2.2.2.2.2.1 y.1 y.2.1
def zII (zm:At->yE->Bool×(yB×Int)) (n:Nat) (to:yE) (b:yB) (e:Int) (t16:yB) (t17:Int) (t18:Int) (t26:yC) (t27:Int) (t28:Int) (t40:Int) (t41:Int) (sum:yB) (product:yB):=zB (zw1 zm) default n (((to,()),()),(),(),b,e,t16,t17,t18,t26,t27,t28,t40,t41,()) (sum,product,())
def zGW (r:zzJ):LTree ty:=.done (.exit 4) [.fn 138 ([.bptr ([.sl 65 r.1]) 0]),.own 272,.own 273,.lit (.int .i64 r.2.1),.sl 107 r.2.2.1,.lit (.int .i64 r.2.2.2.1),.lit (.int .i64 r.2.2.2.2.1),.sl 145 r.2.2.2.2.2.1,.lit (.int .i64 r.2.2.2.2.2.2.1),.lit (.int .i64 r.2.2.2.2.2.2.2.1)] [.arr 107 r.2.2.2.2.2.2.2.2.1 false,.arr 107 r.2.2.2.2.2.2.2.2.2 false]
def zHK:LL ty zl4:=za (lFn 138 (za (zEu (za (lSl 65) zl) 0) zl)) (za (zeJ 272) (za (zeJ 273) (za (lSl 107) (za zj (za (lSl 107) (za zj (za zj (za (lSl 145) (za zj (za zj (za zj (za zj zl))))))))))))
def zHQ:BL ty zdX:=zeE 107 false (zeE 107 false (zbb))
def zJm (zm:At->yE->Bool×(yB×Int)) (to:yE) (t16:yB) (t17:Int) (t18:Int) (t26:yC) (t27:Int) (t28:Int) (sum:yB) (product:yB):Wy zmk zdX zzz:=.i (decide (t28<t27)) (.i (decide (0<=t28)&&decide (t28<Int.ofNat t26.length)) (.bn (zm (At.mk (t26.getD t28.toNat default).At.Kind (t26.getD t28.toNat default).At.Row (t26.getD t28.toNat default).At.Ag (t26.getD t28.toNat default).At.Func (t26.getD t28.toNat default).At.Items (t26.getD t28.toNat default).At.Op (t26.getD t28.toNat default).At.Bd) to) λr9=>.bn (zII zm (to.length+r9.1.length+r9.2.toNat +t16.length+t17.toNat +t18.toNat +t26.length+t27.toNat +t28.toNat +(t26.getD t28.toNat default).Exp.toNat +Int.toNat 0+sum.length+product.length+1) to r9.1 r9.2 t16 t17 t18 t26 t27 t28 (t26.getD t28.toNat default).Exp 0 sum product) λr8=>.i (r8.2.1 != 0) (.k (.inl (r8.2.1))) (.h ((((r8.1),()),()),(),(),(r8.2.2.1),(r8.2.2.2.1),(r8.2.2.2.2.1),(r8.2.2.2.2.2.1),(r8.2.2.2.2.2.2.1),(IntKind.i64.wrap (r8.2.2.2.2.2.2.2.1+1)),()) ((r8.2.2.2.2.2.2.2.2.1),(r8.2.2.2.2.2.2.2.2.2),()))) .d) (.k (.inr (to,t16,t17,t18,sum,product)))
def zxw (zm:At->yE->Bool×(yB×Int)) (x:zmk) (y:zdX):=zJm zm x.1.1.1 x.2.2.2.1 x.2.2.2.2.1 x.2.2.2.2.2.1 x.2.2.2.2.2.2.1 x.2.2.2.2.2.2.2.1 x.2.2.2.2.2.2.2.2.1 y.1 y.2.1
def zJ4 (zm:At->yE->Bool×(yB×Int)) (n:Nat) (to:yE) (t16:yB) (t17:Int) (t18:Int) (t26:yC) (t27:Int) (t28:Int) (sum:yB) (product:yB):=zB (zxw zm) (.inl default) n (((to,()),()),(),(),t16,t17,t18,t26,t27,t28,()) (sum,product,())
def zIG (r:zzz):LTree ty:=.ite (isL r) (.done .ret [.lit (.slice none 0 0),.lit (.int .i64 (getL r))] []) (.done (.exit 2) [.fn 138 ([.bptr ([.sl 65 (getR r).1]) 0]),.own 272,.own 273,.sl 107 (getR r).2.1,.lit (.int .i64 (getR r).2.2.1),.lit (.int .i64 (getR r).2.2.2.1)] [.arr 107 (getR r).2.2.2.2.1 false,.arr 107 (getR r).2.2.2.2.2 false])
def zJv:LL ty zmk:=za (lFn 138 (za (zEu (za (lSl 65) zl) 0) zl)) (za (zeJ 272) (za (zeJ 273) (za (lSl 107) (za zj (za zj (za (lSl 145) (za zj (za zj zl))))))))
def zJW (zm:At->yE->Bool×(yB×Int)) (to:yE) (t16:yB) (t17:Int) (t18:Int) (sum:yB):Wy zl6 zl9 zAc:=.i (decide (t18<t17)) (.i (decide (0<=t18)&&decide (t18<Int.ofNat t16.length)) (.bn (zzg (t16.getD t18.toNat default).Cf) λr14=>.bn (zJ4 zm (to.length+t16.length+t17.toNat +t18.toNat +(t16.getD t18.toNat default).Fs.length+(Int.ofNat (t16.getD t18.toNat default).Fs.length).toNat +Int.toNat 0+sum.length+r14.length+1) to t16 t17 t18 (t16.getD t18.toNat default).Fs (Int.ofNat (t16.getD t18.toNat default).Fs.length) 0 sum r14) λr13=>.i (isL r13) (.k (.inl (getL r13))) (.bn (zw9 (getR r13).2.2.2.2.1 (getR r13).2.2.2.2.2) λr12=>.i (r12.2 != 0) (.k (.inl (r12.2))) (.h ((((getR r13).1,()),()),(),(getR r13).2.1,(getR r13).2.2.1,(IntKind.i64.wrap ((getR r13).2.2.2.1+1)),()) ((r12.1),())))) .d) (.k (.inr sum))
def zxp (zm:At->yE->Bool×(yB×Int)) (x:zl6) (y:zl9):=zJW zm x.1.1.1 x.2.2.1 x.2.2.2.1 x.2.2.2.2.1 y.1
def zJ7 (zm:At->yE->Bool×(yB×Int)) (n:Nat) (to:yE) (t16:yB) (t17:Int) (t18:Int) (sum:yB):=zB (zxp zm) (.inl default) n (((to,()),()),(),t16,t17,t18,()) (sum,())
def zIe (r:zAc):LTree ty:=.ite (isL r) (.done .ret [.lit (.slice none 0 0),.lit (.int .i64 (getL r))] []) (.done (.exit 0) [.own 272] [.arr 107 (getR r) false])
def zJX:LL ty zl6:=za (lFn 138 (za (zEu (za (lSl 65) zl) 0) zl)) (za (zeJ 272) (za (lSl 107) (za zj (za zj zl))))
def zJA:BL ty zl9:=zeE 107 false (zbb)
def zGu (x:zl4) (y:zdX):Nat:=(x.1.1.1.length+x.2.2.2.1.length+Int.toNat x.2.2.2.2.1+x.2.2.2.2.2.1.length+Int.toNat x.2.2.2.2.2.2.1+Int.toNat x.2.2.2.2.2.2.2.1+x.2.2.2.2.2.2.2.2.1.length+Int.toNat x.2.2.2.2.2.2.2.2.2.1+Int.toNat x.2.2.2.2.2.2.2.2.2.2.1+Int.toNat x.2.2.2.2.2.2.2.2.2.2.2.1+Int.toNat x.2.2.2.2.2.2.2.2.2.2.2.2.1+y.1.length+y.2.1.length+1)
def zIu (x:zmk) (y:zdX):Nat:=(x.1.1.1.length+x.2.2.2.1.length+Int.toNat x.2.2.2.2.1+Int.toNat x.2.2.2.2.2.1+x.2.2.2.2.2.2.1.length+Int.toNat x.2.2.2.2.2.2.2.1+Int.toNat x.2.2.2.2.2.2.2.2.1+y.1.length+y.2.1.length+1)
def zIE (x:zl6) (y:zl9):Nat:=(x.1.1.1.length+x.2.2.1.length+Int.toNat x.2.2.2.1+Int.toNat x.2.2.2.2.1+y.1.length+1)
def zks (zm:At->yE->Bool×(yB×Int)):=zbX zbD 68 [(72,zvk),(138,zgU),(197,zzX),(198,(zjO zm)),(199,zCA)] [] [(3,[(1,.keep),(6,.own 107),(16,.keep),(17,.keep),(18,.keep)]),(7,(kpL [1,6,9,16,17,18,26,27,28])),(11,[(1,.keep),(6,.keep),(9,.keep),(12,.sl 107),(13,.keep),(16,.keep),(17,.keep),(18,.keep),(26,.keep),(27,.keep),(28,.keep),(40,.keep),(41,.keep)])] [(3,1,(kpL [6])),(3,0,(kpL [4,5])),(7,3,(kpL [1,6,9,16,17,18])),(7,0,(kpL [4,5])),(11,5,(kpL [1,6,9,13,16,17,18,26,27,28]))] [(11,spW zHK zHQ (zw1 zm) default zGW zGu),(7,spW zJv zHQ (zxw zm) (.inl default) zIG zIu),(3,spW zJX zJA (zxp zm) (.inl default) zIe zIE)] []
theorem zG2 (zm:At->yE->Bool×(yB×Int)):zF (zks zm) (lp (body f137) 2):=zn (id:=11) (hl:=rfl)
theorem zIs (zm:At->yE->Bool×(yB×Int)):zF (zks zm) (lp (body f137) 1):=zn (id:=7) (hl:=rfl)
theorem zIT (zm:At->yE->Bool×(yB×Int)):zF (zks zm) (lp (body f137) 0):=zn (id:=3) (hl:=rfl)
def zMb (zm:At->yE->Bool×(yB×Int)) (a:yB) (to:yE):Wy0 (yB×Int):=.bn (zJ7 zm (to.length+a.length+(Int.ofNat a.length).toNat +Int.toNat 0+0+1) to a (Int.ofNat a.length) 0 []) λr18=>.i (isL r18) (.k ([],getL r18)) (.k (getR r18,0))
def zBj (zm:At->yE->Bool×(yB×Int)) (a:yB) (to:yE):=(zMb zm a to).fin default
theorem zFh (zm:At->yE->Bool×(yB×Int)) (zFT:Sound Tryz.prog zbD 198 (zjO zm)):Sound Tryz.prog zbD 137 (zjq (zBj zm)):=
 sU (cx':=(zks zm)) (zi ⟨zBd,zjQ.nodr,zK9.nodr,zFT,zPg,trivial⟩) call137 func137 (lOK (aC (zIT zm) (aC (zIs zm) (aC (zG2 zm) aN)))) (sg:=⟨[.own 107,.pure],[]⟩)
def zVu:=zbu base 3 []
def zXm:Wy0 (yB):=.k [TO.mk 1 []]
def zr1:Bool×yB:=(zXm).fin default
def zpq:=zh z0Y λx=>((zr1 ).1,z1m (zr1 ).2)
theorem ztP:SdP 278 zpq:=
 sT (cx':=zVu) (zi trivial) call278 func278 (lOK aN) (sg:=⟨[.own 107],[]⟩)
def zPq:=zbu base 23 [(52,zcl),(117,zf4),(124,zd1),(177,zlv),(278,zpq)]
def zRl (a:yB):Wy0 (yB×Int):=.bn (zb7 a) λr2=>.i (!r2) (.k ([],1)) (.i (Int.ofNat a.length==0) (.k (zr1.2,0)) (.bn (zeo a) λr1=>.i (r1) (.k ([],0)) (.bn (zfi (zh2 (At.mk 3 (RowID.mk 0 0) [a] 0 [] 0 (Value.mk 0 0 (ByteArray.mk #[])))).2) λr0=>.k (r0.1,r0.2))))
def zx5 (a:yB):=(zRl a).fin default
def zyw:=zh zSC λx=>((zx5 x.1).1,zLa (zx5 x.1).2)
theorem zJR:SdP 236 zyw:=
 sT (cx':=zPq) (zi ⟨zco,zhX,ze0,zsl,ztP,trivial⟩) call236 func236 (lOK aN) (sg:=⟨[.own 107,.pure],[]⟩)
def zQW:=zbu base 29 [(52,zcl),(117,zf4),(124,zd1),(141,zf0),(175,zmr),(176,zrF),(278,zpq)]
def zSI (a:yB):Wy0 (yB×Int):=.bn (zb7 a) λr5=>.i (!r5) (.k ([],1)) (.i (Int.ofNat a.length==0) (.bn (zh5 a) λr0=>.k (r0,0)) (.bn (zj4 a) λr4=>.i (r4) (.bn (zh5 a) λr1=>.k (r1,0)) (.bn (zgP a) λr3=>.i (r3) (.k (zr1.2,0)) (.bn (zfi (zh2 (At.mk 2 (RowID.mk 0 0) [a] 0 [] 0 (Value.mk 0 0 (ByteArray.mk #[])))).2) λr2=>.k (r2.1,r2.2)))))
def zyW (a:yB):=(zSI a).fin default
def zz9:=zh zSC λx=>((zyW x.1).1,zLa (zyW x.1).2)
theorem zLk:SdP 235 zz9:=
 sT (cx':=zQW) (zi ⟨zco,zhX,ze0,zhR,ztg,zxI,ztP,trivial⟩) call235 func235 (lOK aN) (sg:=⟨[.own 107,.pure],[]⟩)
def zQZ:=zbu base 38 [(52,zcl),(115,zl2),(117,zf4),(124,zd1),(141,zf0)]
def zTK (a:yB) (b:yB):Wy0 (yB×Int):=.bn (zb7 a) λr4=>.i (!r4) (.k ([],1)) (.bn (zb7 b) λr3=>.i (!r3) (.k ([],1)) (.i (Int.ofNat b.length==0) (.bn (zh5 a) λr0=>.k (r0,0)) (.i (Int.ofNat a.length==0) (.k ([],0)) (.bn (zfz a b) λr2=>.i (r2) (.k ([],0)) (.bn (zfi (zh2 (At.mk 1 (RowID.mk 0 0) [a,b] 0 [] 0 (Value.mk 0 0 (ByteArray.mk #[])))).2) λr1=>.k (r1.1,r1.2))))))
def zze (a:yB) (b:yB):=(zTK a b).fin default
def zzA:=zh zOr λx=>((zze x.1 x.2.1).1,zLa (zze x.1 x.2.1).2)
theorem zKV:SdP 234 zzA:=
 sT (cx':=zQZ) (zi ⟨zco,zrv,zhX,ze0,zhR,trivial⟩) call234 func234 (lOK aN) (sg:=⟨[.own 107,.pure],[]⟩)
def zfw (x:yD) (a b:Int):Bool×yD:=z1l zbp x a b
def zra:Ab.Spec ty:=zh (cx:=base) (zd (zp7 169) (zd (zg (zfB .i64)) (zd (zg (zfB .i64)) (zd (zg (vFn 172 zcR)) zq)))) λx=>((zfw x.1 x.2.1 x.2.2.1).1,⟨[],[some ⟨169,(zfw x.1 x.2.1 x.2.2.1).2⟩]⟩)
theorem zro (c:Unit) (x y:Wd) (h:(zbp x y).1=true):ze1 ((AV.agg (base.enc 169 x)::AV.agg (base.enc 169 y)::(zcR:VL base Unit).enc c).map Arg.pure)=some (true,⟨[.pure (.lit (.int .i64 (zbp x y).2))],[]⟩):=by
 rw [<- h]; kernel_rfl
theorem zpT:SdP 309 zra:=by
 letI:DecidableEq (ty 169):=inferInstanceAs (DecidableEq Wd)
 exact z7D (T:=169) zet rfl Go.Proofs.Tryz.insW Tryz.isAgg169 (by unfold zp; exact Tryz.sizeOf169) call309 zgT zcR (λc=>zbp) zro
open Go.Proofs Go.RowKit
def zcq (x:yD) (m:Int):Bool×yD:=(decide (SortOK zbp x)&&(decide (m=x.length)&&decide (m<20)),znU zbp x)
def zkw:Ab.Spec ty:=zh (cx:=base) (zd (zp7 169) (zd (zg (zfB .i64)) (zd (zg (vFn 172 zcR)) zq))) λx=>((zcq x.1 x.2.1).1,⟨[],[some ⟨169,(zcq x.1 x.2.1).2⟩]⟩)
set_option maxHeartbeats 1000000 in
theorem zuu:SdP 308 zkw where
 enters:=call308
 calls:=λavs r hsp w F vs hF ha hsep=>by
  unfold zkw zh at hsp;split at hsp
  ·rename_i x hx;simp only [qa,qb] at hsp;obtain ⟨hpre,rfl⟩:=hsp;have hk:=(zd (zp7 169) (zd (zg (zfB .i64)) (zd (zg (vFn 172 zcR)) zq)):AL base _).kind vs avs x hx;have ha':=(zd (zp7 169) (zd (zg (zfB .i64)) (zd (zg (vFn 172 zcR)) zq)):AL base _).ok Tryz.prog zet F w vs avs x hx ha;rw [hk] at hsep ⊢;clear hk hx ha;obtain ⟨l0,m,c,u0⟩:=x;obtain ⟨l,rfl⟩:∃ l:yD,l=l0:=⟨l0,rfl⟩;obtain ⟨v,vs',rfl,hv,hv'⟩:=ha'.inv;obtain ⟨mv,vs1,rfl,hm,hv1⟩:=hv'.inv;obtain ⟨fv,vs'',rfl,hfv,h0⟩:=hv1.inv;obtain rfl:=h0.nil_left.1;have hm:Rep base F w mv (.lit (.int .i64 m)):=hm;obtain rfl:mv=.int .i64 m:=by cases hm; rfl
   have hsl:∃ p cap,v=.slice p l.length cap:=by
    obtain ⟨⟨xs,hown,_⟩,_⟩:=(show zcW base F w v 169 l/\∀ b,zba v=some b->¬ F b from hv)
    rcases hown.2 with ⟨h1,h2⟩ | ⟨g0,cap,cur,h1,_⟩
    ·exact ⟨none,0,by rw [h1,show l.length=0 from h2]⟩
    ·exact ⟨_,cap,h1⟩
   have hpre:(decide (SortOK (α:=Wd) zbp l)&&(decide (m=l.length)&&decide (m<20)))=true:=hpre;simp only [qc,qe] at hpre;obtain ⟨hok,rfl,h20⟩:=hpre
   have hpp:(zfw l 0 (l.length:Int)).1=true:=by
    show (decide (SortOK (α:=Wd) zbp l)&&(decide ((0:Int)=0)&&decide ((l.length:Int)=l.length)))=true;simp only [qc,qe];exact ⟨hok,trivial,trivial⟩
   have hp:=(zpT).calls [.own 169 l,.pure (.lit (.int .i64 0)),.pure (.lit (.int .i64 (l.length:Int))),.pure (.fn 172 [])] ⟨[],[some ⟨169,(zcq l (l.length:Int)).2⟩]⟩
    (by rw [<- hpp]; kernel_rfl) w F [v,.int .i64 0,.int .i64 (l.length:Int),fv] hF (.cons hv (.cons (Rep.lit _) (.cons (Rep.lit _) (.cons hfv .nil)))) hsep
   replace hp:Calls Tryz.prog 309 #[v,.int .i64 0,.int .i64 (l.length:Int),fv] w λe w'=>∃ u,e=.returned u/\Post base F w [v] ⟨[],[some ⟨169,(zcq l (l.length:Int)).2⟩]⟩ u w':=hp
   show Calls Tryz.prog 308 #[v,.int .i64 (l.length:Int),fv] w λe w'=>∃ u,e=.returned u/\Post base F w [v] ⟨[],[some ⟨169,(zcq l (l.length:Int)).2⟩]⟩ u w'
   generalize (zcq l (l.length:Int)).2=res at hp ⊢;generalize hn:l.length=m at *;clear hpp hv hfv hsep hok hF hm;obtain ⟨p,cap,rfl⟩:=hsl;clear hn
   go_enter func308,ntmps308
   go_wp2
   refine wp_loop_rounds 1 ?_;rw [rounds_succ]
   go_wp2_with (go_at_call 309; refine hp.mono ?_; rintro e w' ⟨u,rfl,hpost⟩; obtain rfl:=hpost.unit)
   refine wp_loop_rounds 1 ?_;rw [rounds_succ]
   go_wp2
   all_goals first | (exfalso; omega) | (go_end0; exact ⟨_,rfl,hpost⟩)
  ·cases hsp
end Go.Proofs.YtoknknbmfmddbaaGreatDoor
namespace Go.Proofs.YtoknknbmfmddbaaGreatDoor
open Go Go.Ab
open Go.Proofs Go.RowKit
open Go.Proofs.Tryz
def zbs (x:yD):Bool×yD:=(decide (SortOK zbp x)&&decide (x.length<20),znU zbp x)
def zdk:Ab.Spec ty:=zh (cx:=base) (zd (zp7 169) (zd (zg (vFn 172 zcR)) zq)) λx=>((zbs x.1).1,⟨[],[some ⟨169,(zbs x.1).2⟩]⟩)
set_option maxHeartbeats 1000000 in
theorem zlO:SdP 302 zdk where
 enters:=call302
 calls:=λavs r hsp w F vs hF ha hsep=>by
  unfold zdk zh at hsp;split at hsp
  ·rename_i x hx;simp only [qa,qb] at hsp;obtain ⟨hpre,rfl⟩:=hsp;have hk:=(zd (zp7 169) (zd (zg (vFn 172 zcR)) zq):AL base _).kind vs avs x hx;have ha':=(zd (zp7 169) (zd (zg (vFn 172 zcR)) zq):AL base _).ok Tryz.prog zet F w vs avs x hx ha;rw [hk] at hsep ⊢;clear hk hx ha;obtain ⟨l0,c,u0⟩:=x;obtain ⟨l,rfl⟩:∃ l:yD,l=l0:=⟨l0,rfl⟩;obtain ⟨v,vs',rfl,hv,hv'⟩:=ha'.inv;obtain ⟨fv,vs'',rfl,hfv,h0⟩:=hv'.inv;obtain rfl:=h0.nil_left.1
   have hsl:∃ p cap,v=.slice p l.length cap:=by
    obtain ⟨⟨xs,hown,_⟩,_⟩:=(show zcW base F w v 169 l/\∀ b,zba v=some b->¬ F b from hv)
    rcases hown.2 with ⟨h1,h2⟩ | ⟨g0,cap,cur,h1,_⟩
    ·exact ⟨none,0,by rw [h1,show l.length=0 from h2]⟩
    ·exact ⟨_,cap,h1⟩
   have hpre:(decide (SortOK (α:=Wd) zbp l)&&decide (l.length<20))=true:=hpre;simp only [qc,qe] at hpre;obtain ⟨hok,h20⟩:=hpre
   have hpp:(zcq l (l.length:Int)).1=true:=by
    show (decide (SortOK (α:=Wd) zbp l)&&(decide ((l.length:Int)=l.length)&&decide ((l.length:Int)<20)))=true;simp only [qc,qe];exact ⟨hok,trivial,by omega⟩
   have hp:=(zuu).calls [.own 169 l,.pure (.lit (.int .i64 (l.length:Int))),.pure (.fn 172 [])] ⟨[],[some ⟨169,(zbs l).2⟩]⟩
    (by rw [<- hpp]; kernel_rfl) w F [v,.int .i64 (l.length:Int),fv] hF (.cons hv (.cons (Rep.lit _) (.cons hfv .nil))) hsep
   replace hp:Calls Tryz.prog 308 #[v,.int .i64 (l.length:Int),fv] w λe w'=>∃ u,e=.returned u/\Post base F w [v] ⟨[],[some ⟨169,(zbs l).2⟩]⟩ u w':=hp
   show Calls Tryz.prog 302 #[v,fv] w λe w'=>∃ u,e=.returned u/\Post base F w [v] ⟨[],[some ⟨169,(zbs l).2⟩]⟩ u w'
   generalize (zbs l).2=res at hp ⊢;generalize hn:l.length=m at *;clear hpp hv hfv hsep hok hF;obtain ⟨p,cap,rfl⟩:=hsl;clear hn
   go_enter func302,ntmps302
   go_wp2_with (go_at_call 308; refine hp.mono ?_; rintro e w' ⟨u,rfl,hpost⟩; obtain rfl:=hpost.unit)
   go_end0
   exact ⟨_,rfl,hpost⟩
  ·cases hsp
end Go.Proofs.YtoknknbmfmddbaaGreatDoor
namespace Go.Proofs.YtoknknbmfmddbaaGreatDoor
open Go Go.Ab
open Go.Proofs.Tryz
abbrev zpo:=Unit×yD×Int×Int×Unit
abbrev zku:=yD×Unit
def zRp (t6:yD) (t7:Int) (t8:Int) (out_:yD):Wy zpo zku (yD):=.i (decide (t8<t7)) (.i (decide (0<=t8)&&decide (t8<Int.ofNat t6.length)) (.i (decide (Int.ofNat (t6.getD t8.toNat default).Ann.length>0)) (.bn (zh5 (t6.getD t8.toNat default).Ann) λr0=>.i (decide ((out_.length+[WO.mk (t6.getD t8.toNat default).Value r0].length)*56<=zbh)) (.h ((),t6,t7,(IntKind.i64.wrap (t8+1)),()) ((out_++[WO.mk (t6.getD t8.toNat default).Value r0]),())) .d) (.h ((),t6,t7,(IntKind.i64.wrap (t8+1)),()) (out_,()))) .d) (.k out_)
def zCq (x:zpo) (y:zku):=zRp x.2.1 x.2.2.1 x.2.2.2.1 y.1
def zRn (n:Nat) (t6:yD) (t7:Int) (t8:Int) (out_:yD):=zB (zCq) default n ((),t6,t7,t8,()) (out_,())
def zPW (r:yD):LTree ty:=.done (.exit 0) [.own 116] [.arr 169 r false]
def zRh:LL ty zpo:=za (zeJ 116) (za (lSl 169) (za zj (za zj zl)))
def zQS:BL ty zku:=zeE 169 false (zbb)
def zOn (x:zpo) (y:zku):Nat:=(x.2.1.length+Int.toNat x.2.2.1+Int.toNat x.2.2.2.1+y.1.length+1)
def zCr:=zbX base 29 [(141,zf0),(172,ze1),(302,zdk)] [(302,[true,false])] [(3,[(3,.own 169),(6,.keep),(7,.keep),(8,.keep)])] [(3,1,(kpL [3]))] [(3,spW zRh zQS (zCq) default zPW zOn)] []
theorem zPQ:zF zCr (lp (body f280) 0):=zn (id:=3) (hl:=rfl)
def zS7 (l:yD):Wy0 (yD):=.bn (zRn (l.length+(Int.ofNat l.length).toNat +Int.toNat 0+0+1) l (Int.ofNat l.length) 0 []) λr3=>.bn (zbs r3) λr2=>.k r2
def zyR (l:yD):=(zS7 l).fin default
def zPn (r:yD):ARes ty:=⟨[.own 169 r],[]⟩
def zUh:AL base zku:=zd (zg (vSl 169)) zq
def zzL:=zh zUh λx=>((zyR x.1).1,zPn (zyR x.1).2)
theorem zL5:SdP 280 zzL:=
 sT (cx':=zCr) (zi ⟨zhR,zgT,zlO,trivial⟩) call280 func280 (lOK (aC zPQ aN)) (sg:=⟨[.own 169],[]⟩)
def zNo:=zbu base 7 [(52,zcl)]
def zOJ (w:Wd):Wy0 (Bool):=.bn (zb7 w.Ann) λr0=>.k (!r0)
def zwL (w:Wd):=(zOJ w).fin default
def zkp:=zh zGD λx=>((zwL x.1).1,zQK (zwL x.1).2)
theorem zoX:SdP 279 zkp:=
 sT (cx':=zNo) (zi ⟨zco,trivial⟩) call279 func279 (lOK aN)
def zRI:=zbu base 28 []
def zTO (op:Int) (sign:Int):Wy0 (Bool):=.i (op==5) (.k (sign==0)) (.i (op==6) (.k (sign != 0)) (.i (op==7) (.k (decide (sign<0))) (.i (op==8) (.k (decide (sign<=0))) (.i (op==9) (.k (decide (sign>0))) (.k (decide (sign≥0)))))))
def zzf (op:Int) (sign:Int):=(zTO op sign).fin default
def zzQ:=zh zRk λx=>((zzf x.1 x.2.1).1,zQK (zzf x.1 x.2.1).2)
theorem zK6:SdP 281 zzQ:=
 sT (cx':=zRI) (zi trivial) call281 func281 (lOK aN)
abbrev zde:=yD×Unit×Int×Int×Unit
def zow (s:yD) (t7:Int) (t8:Int):Wy zde Unit (Int⊕Unit):=.i (decide (t8<t7)) (.i (decide (0<=t8)&&decide (t8<Int.ofNat s.length)) (.bn (zwL (s.getD t8.toNat default)) λr0=>.i (r0) (.k (.inl t8)) (.h (s,(),t7,(IntKind.i64.wrap (t8+1)),()) ())) .d) (.k (.inr ()))
def zgK (x:zde) (y:Unit):=zow x.1 x.2.2.1 x.2.2.2.1
def zox (n:Nat) (s:yD) (t7:Int) (t8:Int):=zB (zgK) (.inl default) n (s,(),t7,t8,()) ()
def zos:LL ty zde:=za (lSl 169) (za (lFn 279 (zl)) (za zj (za zj zl)))
def zn2 (x:zde) (y:Unit):Nat:=(x.1.length+Int.toNat x.2.2.1+Int.toNat x.2.2.2.1+1)
def zgL:=zbX base 19 [(279,zkp)] [] [(2,(kpL [0,1,7,8]))] [(2,1,[]),(2,0,(kpL [4]))] [(2,spW zos z3q (zgK) (.inl default) zp5 zn2)] []
theorem znu:zF zgL (lp (body f228) 0):=zn (id:=2) (hl:=rfl)
def zo8 (s:yD):Wy0 (Int):=.bn (zox (s.length+(Int.ofNat s.length).toNat +Int.toNat 0+1) s (Int.ofNat s.length) 0) λr2=>.i (isL r2) (.k (getL r2)) (.k (-1:Int))
def zd4 (s:yD):=(zo8 s).fin default
def zpn:AL base (yD×Unit×Unit):=zd (zg (vSl 169)) (zd (zg (vFn 279 zcR)) zq)
def zf9:=zh zpn λx=>((zd4 x.1).1,zLH (zd4 x.1).2)
theorem zmz:SdP 228 zf9:=
 sT (cx':=zgL) (zi ⟨zoX,trivial⟩) call228 func228 (lOK (aC znu aN))
def zmN:=zbu base 9 [(228,zf9),(279,zkp)]
def zni (s:yD):Wy0 (Bool):=.bn (zd4 s) λr0=>.k (decide (r0≥0))
def zdN (s:yD):=(zni s).fin default
def zfl:=zh zpn λx=>((zdN x.1).1,zQK (zdN x.1).2)
theorem zk9:SdP 178 zfl:=
 sT (cx':=zmN) (zi ⟨zmz,zoX,trivial⟩) call178 func178 (lOK aN)
def zT6:=zbu base 45 [(117,zf4),(124,zd1),(178,zfl),(181,zp8),(195,zla),(278,zpq),(279,zkp),(280,zzL),(281,zzQ)]
def zV7 (fn:Int) (items:yD) (op:Int) (bound:Value):Wy0 (yB×Int):=.bn (zi0 fn items op bound) λr5=>.i (!r5) (.k ([],1)) (.bn (zdN items) λr4=>.i (r4) (.k ([],1)) (.bn (zyR items) λr3=>.i (decide (Int.ofNat r3.length>0)) (.bn (zfi (zh2 (At.mk 4 (RowID.mk 0 0) [] fn r3 op bound)).2) λr0=>.k (r0.1,r0.2)) (.i (fn==0) (.bn (zh9 0 bound.Int) λr2=>.bn (zzf op r2) λr1=>.i (r1) (.k (zr1.2,0)) (.k ([],0))) (.k ([],0)))))
def zAB (fn:Int) (items:yD) (op:Int) (bound:Value):=(zV7 fn items op bound).fin default
def zAE:=zh zOY λx=>((zAB x.1 x.2.1 x.2.2.1 x.2.2.2.1).1,zLa (zAB x.1 x.2.1 x.2.2.1 x.2.2.2.1).2)
theorem zNx:SdP 237 zAE:=
 sT (cx':=zT6) (zi ⟨zhX,ze0,zk9,zwE,zqd,ztP,zoX,zL5,zK6,trivial⟩) call237 func237 (lOK aN) (sg:=⟨[.own 107,.pure],[]⟩)
abbrev zje:=((yE×Unit)×Unit)×Unit×Unit×yA×Int×Int×Unit
abbrev zjc:=At×yA×Unit
abbrev zvB:=Int⊕(yE×At×yA)
abbrev zi9:=((yE×Unit)×Unit)×Unit×Unit×yD×Int×Int×Unit
abbrev zi6:=At×yD×Unit
abbrev zvH:=Int⊕(At×yD)
def zEM (zM:yB->yE->Bool×(yB×Int)) (to:yE) (t24:yA) (t25:Int) (t26:Int) (x_:At) (args:yA):Wy zje zjc zvB:=.i (decide (t26<t25)) (.i (decide (0<=t26)&&decide (t26<Int.ofNat t24.length)) (.bn (zM (t24.getD t26.toNat default) to) λr2=>.i (r2.2 != 0) (.k (.inl (r2.2))) (.i (decide ((args.length+[r2.1].length)*24<=zbh)) (.h (((to,()),()),(),(),t24,t25,(IntKind.i64.wrap (t26+1)),()) (x_,(args++[r2.1]),())) .d)) .d) (.k (.inr (to,x_,args)))
def zs9 (zM:yB->yE->Bool×(yB×Int)) (x:zje) (y:zjc):=zEM zM x.1.1.1 x.2.2.2.1 x.2.2.2.2.1 x.2.2.2.2.2.1 y.1 y.2.1
def zDU (zM:yB->yE->Bool×(yB×Int)) (n:Nat) (to:yE) (t24:yA) (t25:Int) (t26:Int) (x_:At) (args:yA):=zB (zs9 zM) (.inl default) n (((to,()),()),(),(),t24,t25,t26,()) (x_,args,())
def zCT (r:zvB):LTree ty:=.ite (isL r) (.done .ret [.lit (.slice none 0 0),.lit (.int .i64 (getL r))] []) (.done (.exit 0) [.fn 138 ([.bptr ([.sl 65 (getR r).1]) 0]),.ptr 432 0,.own 433] [.box (base.enc 143 (getR r).2.1) false,.arr 51 (getR r).2.2 false])
def zEm:LL ty zje:=za (lFn 138 (za (zEu (za (lSl 65) zl) 0) zl)) (za (zdd 432 0) (za (zeJ 433) (za (lSl 51) (za zj (za zj zl)))))
def zEf:BL ty zjc:=zeq (zdO (λx=>(⟨x.1,⟨x.2.1,x.2.2.1⟩,x.2.2.2.1,x.2.2.2.2.1,x.2.2.2.2.2.1,x.2.2.2.2.2.2.1,⟨x.2.2.2.2.2.2.2.1,x.2.2.2.2.2.2.2.2.1,x.2.2.2.2.2.2.2.2.2.1⟩⟩:At)) (λx=>(x.Kind,x.Row.Table,x.Row.Seq,x.Ag,x.Func,x.Items,x.Op,x.Bd.Kind,x.Bd.Int,x.Bd.Text,())) (λ_=>rfl) (za (zO .i64) (za (zO .i64) (za (zO .i64) (za (lSl 51) (za (zO .i64) (za (lSl 169) (za (zO .i64) (za (zO .i64) (za (zO .i64) (za zjj zl))))))))))) false (zeE 51 false (zbb))
def zDl (zM:yB->yE->Bool×(yB×Int)) (to:yE) (t74:yD) (t75:Int) (t76:Int) (x_:At) (items:yD):Wy zi9 zi6 zvH:=.i (decide (t76<t75)) (.i (decide (0<=t76)&&decide (t76<Int.ofNat t74.length)) (.bn (zM (t74.getD t76.toNat default).Ann to) λr4=>.i (r4.2 != 0) (.k (.inl (r4.2))) (.i (decide ((items.length+[WO.mk (t74.getD t76.toNat default).Value r4.1].length)*56<=zbh)) (.h (((to,()),()),(),(),t74,t75,(IntKind.i64.wrap (t76+1)),()) (x_,(items++[WO.mk (t74.getD t76.toNat default).Value r4.1]),())) .d)) .d) (.k (.inr (x_,items)))
def zsi (zM:yB->yE->Bool×(yB×Int)) (x:zi9) (y:zi6):=zDl zM x.1.1.1 x.2.2.2.1 x.2.2.2.2.1 x.2.2.2.2.2.1 y.1 y.2.1
def zCX (zM:yB->yE->Bool×(yB×Int)) (n:Nat) (to:yE) (t74:yD) (t75:Int) (t76:Int) (x_:At) (items:yD):=zB (zsi zM) (.inl default) n (((to,()),()),(),(),t74,t75,t76,()) (x_,items,())
def zBW (r:zvH):LTree ty:=.ite (isL r) (.done .ret [.lit (.slice none 0 0),.lit (.int .i64 (getL r))] []) (.done (.exit 3) [.ptr 432 0,.own 433] [.box (base.enc 143 (getR r).1) false,.arr 169 (getR r).2 false])
def zDr:LL ty zi9:=za (lFn 138 (za (zEu (za (lSl 65) zl) 0) zl)) (za (zdd 432 0) (za (zeJ 433) (za (lSl 169) (za zj (za zj zl)))))
def zCS:BL ty zi6:=zeq (zdO (λx=>(⟨x.1,⟨x.2.1,x.2.2.1⟩,x.2.2.2.1,x.2.2.2.2.1,x.2.2.2.2.2.1,x.2.2.2.2.2.2.1,⟨x.2.2.2.2.2.2.2.1,x.2.2.2.2.2.2.2.2.1,x.2.2.2.2.2.2.2.2.2.1⟩⟩:At)) (λx=>(x.Kind,x.Row.Table,x.Row.Seq,x.Ag,x.Func,x.Items,x.Op,x.Bd.Kind,x.Bd.Int,x.Bd.Text,())) (λ_=>rfl) (za (zO .i64) (za (zO .i64) (za (zO .i64) (za (lSl 51) (za (zO .i64) (za (lSl 169) (za (zO .i64) (za (zO .i64) (za (zO .i64) (za zjj zl))))))))))) false (zeE 169 false (zbb))
def zC2 (x:zje) (y:zjc):Nat:=(x.1.1.1.length+x.2.2.2.1.length+Int.toNat x.2.2.2.2.1+Int.toNat x.2.2.2.2.2.1+y.1.Ag.length+y.1.Items.length+y.2.1.length+1)
def zB4 (x:zi9) (y:zi6):Nat:=(x.1.1.1.length+x.2.2.2.1.length+Int.toNat x.2.2.2.2.1+Int.toNat x.2.2.2.2.2.1+y.1.Ag.length+y.1.Items.length+y.2.1.length+1)
def zlI (zM:yB->yE->Bool×(yB×Int)):=zbX zbD 108 [(137,(zjq zM)),(138,zgU),(234,zzA),(235,zz9),(236,zyw),(237,zAE)] [] [(5,[(1,.keep),(2,.keep),(6,.own 51),(24,.keep),(25,.keep),(26,.keep)]),(21,[(1,.keep),(2,.keep),(11,.own 169),(74,.keep),(75,.keep),(76,.keep)])] [(5,1,(kpL [1,2,6])),(5,0,(kpL [4,5])),(21,4,(kpL [2,11])),(21,0,(kpL [4,5]))] [(5,spW zEm zEf (zs9 zM) (.inl default) zCT zC2),(21,spW zDr zCS (zsi zM) (.inl default) zBW zB4)] []
theorem zCE (zM:yB->yE->Bool×(yB×Int)):zF (zlI zM) (lp (body f198) 0):=zn (id:=5) (hl:=rfl)
theorem zBX (zM:yB->yE->Bool×(yB×Int)):zF (zlI zM) (lp (body f198) 1):=zn (id:=21) (hl:=rfl)
def zE6 (zM:yB->yE->Bool×(yB×Int)) (x_:At) (to:yE):Wy0 (yB×Int):=.i (x_.Kind==0) (.bn (zoR x_.Row to) λr6=>.k (r6,0)) (.bn (zDU zM (to.length+x_.Ag.length+(Int.ofNat x_.Ag.length).toNat +Int.toNat 0+x_.Ag.length+x_.Items.length+0+1) to x_.Ag (Int.ofNat x_.Ag.length) 0 (At.mk x_.Kind x_.Row x_.Ag x_.Func x_.Items x_.Op x_.Bd) []) λr12=>.i (isL r12) (.k ([],getL r12)) (.i ((getR r12).2.1.Kind==1) (.i (decide ((0:Int)<=(0:Int))&&decide (0<Int.ofNat (getR r12).2.2.length)) (.i (decide ((0:Int)<=(1:Int))&&decide (1<Int.ofNat (getR r12).2.2.length)) (.bn (zze ((getR r12).2.2.getD (Int.toNat 0) default) ((getR r12).2.2.getD (Int.toNat 1) default)) λr7=>.k (r7.1,r7.2)) .d) .d) (.i ((getR r12).2.1.Kind==2) (.i (decide ((0:Int)<=(0:Int))&&decide (0<Int.ofNat (getR r12).2.2.length)) (.bn (zyW ((getR r12).2.2.getD (Int.toNat 0) default)) λr8=>.k (r8.1,r8.2)) .d) (.i ((getR r12).2.1.Kind==3) (.i (decide ((0:Int)<=(0:Int))&&decide (0<Int.ofNat (getR r12).2.2.length)) (.bn (zx5 ((getR r12).2.2.getD (Int.toNat 0) default)) λr9=>.k (r9.1,r9.2)) .d) (.bn (zCX zM ((getR r12).1.length+(getR r12).2.1.Items.length+(Int.ofNat (getR r12).2.1.Items.length).toNat +Int.toNat 0+(getR r12).2.1.Ag.length+(getR r12).2.1.Items.length+0+1) (getR r12).1 (getR r12).2.1.Items (Int.ofNat (getR r12).2.1.Items.length) 0 (At.mk (getR r12).2.1.Kind (getR r12).2.1.Row (getR r12).2.1.Ag (getR r12).2.1.Func (getR r12).2.1.Items (getR r12).2.1.Op (getR r12).2.1.Bd) []) λr11=>.i (isL r11) (.k ([],getL r11)) (.bn (zAB (getR r11).1.Func (getR r11).2 (getR r11).1.Op (getR r11).1.Bd) λr10=>.k (r10.1,r10.2)))))))
def zwG (zM:yB->yE->Bool×(yB×Int)) (x_:At) (to:yE):=(zE6 zM x_ to).fin default
theorem zAH (zM:yB->yE->Bool×(yB×Int)) (zK5:Sound Tryz.prog zbD 137 (zjq zM)):Sound Tryz.prog zbD 198 (zjO (zwG zM)):=
 sU (cx':=(zlI zM)) (zi ⟨zK5,zjQ.nodr,zKV.nodr,zLk.nodr,zJR.nodr,zNx.nodr,trivial⟩) call198 func198 (lOK (aC (zCE zM) (aC (zBX zM) aN))) (sg:=⟨[.own 107,.pure],[]⟩)
def zDA:Nat->(yB->yE->Bool×(yB×Int))×(At->yE->Bool×(yB×Int))
 | 0=>(λ_ _=>(false,default),λ_ _=>(false,default))
 | n+1=>(zBj ((zDA n).2),zwG ((zDA n).1))
def zAO (n:Nat):yB->yE->Bool×(yB×Int):=(zDA n).1
def zHV (n:Nat):At->yE->Bool×(yB×Int):=(zDA n).2
theorem zQA:∀ n,Sound Tryz.prog zbD 137 (zjq (zAO n))/\Sound Tryz.prog zbD 198 (zjO (zHV n))
 | 0=>⟨z8 call137 (λ_=>rfl),z8 call198 (λ_=>rfl)⟩
 | n+1=>by
  have ih:=zQA n;exact ⟨zFh _ (ih.2),zAH _ (ih.1)⟩
def zED:yB->yE->Bool×(yB×Int):=zAO 1000
def zxq:Ab.Spec ty:=zjq zED
theorem zIv:Sound Tryz.prog zbD 137 zxq:=(zQA 1000).1
def zEv:=zbu base 7 [(52,zcl)]
def zFf (b:Bg):Wy0 (Bool):=.bn (zb7 b.To) λr0=>.k (!r0)
def zo7 (b:Bg):=(zFf b).fin default
def zFF:AL base (Bg×Unit):=zd (zg (zcb 65)) zq
def zgR:=zh zFF λx=>((zo7 x.1).1,zQK (zo7 x.1).2)
theorem zjt:SdP 136 zgR:=
 sT (cx':=zEv) (zi ⟨zco,trivial⟩) call136 func136 (lOK aN)
abbrev zdo:=yE×Unit×Int×Int×Unit
def zpK (s:yE) (t7:Int) (t8:Int):Wy zdo Unit (Int⊕Unit):=.i (decide (t8<t7)) (.i (decide (0<=t8)&&decide (t8<Int.ofNat s.length)) (.bn (zo7 (s.getD t8.toNat default)) λr0=>.i (r0) (.k (.inl t8)) (.h (s,(),t7,(IntKind.i64.wrap (t8+1)),()) ())) .d) (.k (.inr ()))
def zhr (x:zdo) (y:Unit):=zpK x.1 x.2.2.1 x.2.2.2.1
def zpw (n:Nat) (s:yE) (t7:Int) (t8:Int):=zB (zhr) (.inl default) n (s,(),t7,t8,()) ()
def zpJ:LL ty zdo:=za (lSl 65) (za (lFn 136 (zl)) (za zj (za zj zl)))
def zoP (x:zdo) (y:Unit):Nat:=(x.1.length+Int.toNat x.2.2.1+Int.toNat x.2.2.2.1+1)
def zhv:=zbX base 19 [(136,zgR)] [] [(2,(kpL [0,1,7,8]))] [(2,1,[]),(2,0,(kpL [4]))] [(2,spW zpJ z3q (zhr) (.inl default) zp5 zoP)] []
theorem zpd:zF zhv (lp (body f139) 0):=zn (id:=2) (hl:=rfl)
def zqi (s:yE):Wy0 (Int):=.bn (zpw (s.length+(Int.ofNat s.length).toNat +Int.toNat 0+1) s (Int.ofNat s.length) 0) λr2=>.i (isL r2) (.k (getL r2)) (.k (-1:Int))
def zel (s:yE):=(zqi s).fin default
def zpW:AL base (yE×Unit×Unit):=zd (zg (vSl 65)) (zd (zg (vFn 136 zcR)) zq)
def zgE:=zh zpW λx=>((zel x.1).1,zLH (zel x.1).2)
theorem znR:SdP 139 zgE:=
 sT (cx':=zhv) (zi ⟨zjt,trivial⟩) call139 func139 (lOK (aC zpd aN))
def znq:=zbu base 9 [(136,zgR),(139,zgE)]
def zoA (s:yE):Wy0 (Bool):=.bn (zel s) λr0=>.k (decide (r0≥0))
def zdZ (s:yE):=(zoA s).fin default
def zfR:=zh zpW λx=>((zdZ x.1).1,zQK (zdZ x.1).2)
theorem zlS:SdP 135 zfR:=
 sT (cx':=znq) (zi ⟨zjt,znR,trivial⟩) call135 func135 (lOK aN)
def zIq:=zbu zbD 18 [(52,zcl),(135,zfR),(136,zgR),(137,zxq),(138,zgU)]
def zJt (a:yB) (l:yE):Wy0 (yB×Int):=.bn (zb7 a) λr2=>.i (!r2) (.k ([],1)) (.bn (zdZ l) λr1=>.i (r1) (.k ([],1)) (.bn (zED a l) λr0=>.k (r0.1,r0.2)))
def zsw (a:yB) (l:yE):=(zJt a l).fin default
def zJ2:AL zbD (yB×yE×Unit):=zd (zg (vSl 107)) (zd (zg (vSl 65)) zq)
def zuN:=zh zJ2 λx=>((zsw x.1 x.2.1).1,zLa (zsw x.1 x.2.1).2)
theorem zDK:Sound Tryz.prog zbD 80 zuN:=
 sU (cx':=zIq) (zi ⟨zco.nodr,zlS.nodr,zjt.nodr,zIv,zjQ.nodr,trivial⟩) call80 func80 (lOK aN) (sg:=⟨[.own 107,.pure],[]⟩)
def zec:Cx ty:={ base with nt:=8 }
def zis (s:yG):Bool×yG:=(decide (s.length*32<=zbh),s)
def zkF:Ab.Spec ty:=zh (cx:=base) (zd (zg (vSl 79)) zq) λx=>((zis x.1).1,⟨[.own 79 (zis x.1).2],[]⟩)
theorem zv5:zdT zec f62 (body f62) ⟨[.own 79],[]⟩ [.pure (.lit (.slice none 0 0))]=some ⟨[.own 79 []],[]⟩:=by kernel_rfl
theorem zuC (p:Addr) (c:Nat):zdT zec f62 (body f62) ⟨[.own 79],[]⟩ [.pure (.lit (.slice (some p) 0 c))]=some ⟨[.own 79 []],[]⟩:=by kernel_rfl
theorem zvs (l:yG):zdT zec f62 (body f62) ⟨[.own 79],[]⟩ [.pure (.sl 79 l)]=bif !l.isEmpty then bif decide ((([]:List (ty 79)).length+l.length)*32<=zbh) then some ⟨[.own 79 l],[]⟩ else none else none:=by kernel_rfl
theorem zui:SdP 62 zkF:=
 zuT (cx':=zec) (bytes:=32) zyG zet ⟨⟨rfl,rfl,rfl,rfl,rfl,rfl⟩,rfl⟩ (λg s h=>by cases h) call62 func62 (c:=body f62) (by kernel_rfl) (zqC (l:=[]) (by kernel_rfl) trivial) zv5 zuC zvs (by kernel_rfl)
def zRV:=zbu zbD 17 [(62,zkF),(80,zuN)]
def zU1 (x_:Row) (a:yB):Wy0 (Row):=.bn (zsw a []) λr1=>.bn (zis x_.Values) λr0=>.k (⟨r0,r1.1⟩:Row)
def zvC (x_:Row) (a:yB):=(zU1 x_ a).fin default
def zV5:AL zbD (Row×yB×Unit):=zd (zg (zcb 54)) (zd (zg (vSl 107)) zq)
def zBq:=zh zV5 λx=>((zvC x.1 x.2.1).1,zRb (zvC x.1 x.2.1).2)
theorem zM0:Sound Tryz.prog zbD 71 zBq:=
 sU (cx':=zRV) (zi ⟨zui.nodr,zDK,trivial⟩) call71 func71 (lOK aN)
def zdU:Cx ty:={ base with nt:=8 }
def zhI (s:yH):Bool×yH:=(decide (s.length*24<=zbh),s)
def zjD:Ab.Spec ty:=zh (cx:=base) (zd (zg (vSl 75)) zq) λx=>((zhI x.1).1,⟨[.own 75 (zhI x.1).2],[]⟩)
theorem zub:zdT zdU f61 (body f61) ⟨[.own 75],[]⟩ [.pure (.lit (.slice none 0 0))]=some ⟨[.own 75 []],[]⟩:=by kernel_rfl
theorem zs2 (p:Addr) (c:Nat):zdT zdU f61 (body f61) ⟨[.own 75],[]⟩ [.pure (.lit (.slice (some p) 0 c))]=some ⟨[.own 75 []],[]⟩:=by kernel_rfl
theorem ztF (l:yH):zdT zdU f61 (body f61) ⟨[.own 75],[]⟩ [.pure (.sl 75 l)]=bif !l.isEmpty then bif decide ((([]:List (ty 75)).length+l.length)*24<=zbh) then some ⟨[.own 75 l],[]⟩ else none else none:=by kernel_rfl
theorem zsR:SdP 61 zjD:=
 zuT (cx':=zdU) (bytes:=24) zyG zet ⟨⟨rfl,rfl,rfl,rfl,rfl,rfl⟩,rfl⟩ (λg s h=>by cases h) call61 func61 (c:=body f61) (by kernel_rfl) (zqC (l:=[]) (by kernel_rfl) trivial) zub zs2 ztF (by kernel_rfl)
def zfu:Cx ty:={ base with nt:=8 }
def zkk (s:yF):Bool×yF:=(decide (s.length*48<=zbh),s)
def zne:Ab.Spec ty:=zh (cx:=base) (zd (zg (vSl 54)) zq) λx=>((zkk x.1).1,⟨[.own 54 (zkk x.1).2],[]⟩)
theorem zys:zdT zfu f68 (body f68) ⟨[.own 54],[]⟩ [.pure (.lit (.slice none 0 0))]=some ⟨[.own 54 []],[]⟩:=by kernel_rfl
theorem zxg (p:Addr) (c:Nat):zdT zfu f68 (body f68) ⟨[.own 54],[]⟩ [.pure (.lit (.slice (some p) 0 c))]=some ⟨[.own 54 []],[]⟩:=by kernel_rfl
theorem zxM (l:yF):zdT zfu f68 (body f68) ⟨[.own 54],[]⟩ [.pure (.sl 54 l)]=bif !l.isEmpty then bif decide ((([]:List (ty 54)).length+l.length)*48<=zbh) then some ⟨[.own 54 l],[]⟩ else none else none:=by kernel_rfl
theorem zxm:SdP 68 zne:=
 zuT (cx':=zfu) (bytes:=48) zyG zet ⟨⟨rfl,rfl,rfl,rfl,rfl,rfl⟩,rfl⟩ (λg s h=>by cases h) call68 func68 (c:=body f68) (by kernel_rfl) (zqC (l:=[]) (by kernel_rfl) trivial) zys zxg zxM (by kernel_rfl)
abbrev zeT:=yF×Unit×Int×Int×Unit
def zuB (s:yF) (t7:Int) (t8:Int):Wy zeT Unit (Int⊕Unit):=.i (decide (t8<t7)) (.i (decide (0<=t8)&&decide (t8<Int.ofNat s.length)) (.i ((zmh (s.getD t8.toNat default)).2) (.k (.inl t8)) (.h (s,(),t7,(IntKind.i64.wrap (t8+1)),()) ())) .d) (.k (.inr ()))
def zj7 (x:zeT) (y:Unit):=zuB x.1 x.2.2.1 x.2.2.2.1
def zul (n:Nat) (s:yF) (t7:Int) (t8:Int):=zB (zj7) (.inl default) n (s,(),t7,t8,()) ()
def zuf:LL ty zeT:=za (lSl 54) (za (lFn 69 (zl)) (za zj (za zj zl)))
def zt5 (x:zeT) (y:Unit):Nat:=(x.1.length+Int.toNat x.2.2.1+Int.toNat x.2.2.2.1+1000)
def zkb:=zbX base 19 [(69,ziC)] [] [(2,(kpL [0,1,7,8]))] [(2,1,[]),(2,0,(kpL [4]))] [(2,spW zuf z3q (zj7) (.inl default) zp5 zt5)] []
theorem zt2:zF zkb (lp (body f122) 0):=zn (id:=2) (hl:=rfl)
def zu4 (s:yF):Wy0 (Int):=.bn (zul (s.length+(Int.ofNat s.length).toNat +Int.toNat 0+1000) s (Int.ofNat s.length) 0) λr0=>.i (isL r0) (.k (getL r0)) (.k (-1:Int))
def zg5 (s:yF):=(zu4 s).fin default
def zvg:AL base (yF×Unit×Unit):=zd (zg (vSl 54)) (zd (zg (vFn 69 zcR)) zq)
def zjm:=zh zvg λx=>((zg5 x.1).1,zLH (zg5 x.1).2)
theorem zsh:SdP 122 zjm:=
 sT (cx':=zkb) (zi ⟨zlz,trivial⟩) call122 func122 (lOK (aC zt2 aN))
abbrev ze9:=Unit×Unit×Int×Int×Unit
abbrev zfc:=yF×Unit
abbrev zn7:=Int×yF
def zv2 (i:Int) (j:Int) (s:yF):Wy ze9 zfc zn7:=.i (decide (j<Int.ofNat s.length)) (.i (decide (0<=j)&&decide (j<Int.ofNat s.length)) (.i (!(zmh (s.getD j.toNat default)).2) (.i (decide (0<=i)&&decide (i<Int.ofNat s.length)) (.i (decide (i.toNat<s.length)) (.h ((),(),(IntKind.i64.wrap (i+1)),(IntKind.i64.wrap (j+1)),()) ((s.set i.toNat (s.getD j.toNat default)),())) .d) .d) (.h ((),(),i,(IntKind.i64.wrap (j+1)),()) (s,()))) .d) (.k (i,s))
def zk1 (x:ze9) (y:zfc):=zv2 x.2.2.1 x.2.2.2.1 y.1
def zv3 (n:Nat) (i:Int) (j:Int) (s:yF):=zB (zk1) default n ((),(),i,j,()) (s,())
def zvw (r:zn7):LTree ty:=.done (.exit 0) [.own 168,.lit (.int .i64 r.1)] [.arr 54 r.2 false]
def zv7:LL ty ze9:=za (zeJ 168) (za (lFn 69 (zl)) (za zj (za zj zl)))
def zv9:BL ty zfc:=zeE 54 false (zbb)
def zvj (x:ze9) (y:zfc):Nat:=(Int.toNat x.2.2.1+Int.toNat x.2.2.2.1+y.1.length+1000)
def zk0:=zbX base 42 [(69,ziC),(122,zjm)] [] [(5,(kpL [0,1,5,6]))] [(5,1,(kpL [0,5]))] [(5,spW zv7 zv9 (zk1) default zvw zvj)] []
theorem zvp:zF zk0 (lp (body f67) 0):=zn (id:=5) (hl:=rfl)
def zwD (s:yF):Wy0 (yF):=.bn (zg5 s) λr1=>.i (r1==(-1:Int)) (.k s) (.bn (zv3 (r1.toNat +(IntKind.i64.wrap (r1+1)).toNat +s.length+1000) r1 (IntKind.i64.wrap (r1+1)) s) λr0=>.i (decide (0<=r0.1)&&decide (r0.1<=Int.ofNat r0.2.length)&&decide (Int.ofNat r0.2.length<=Int.ofNat r0.2.length)) (.i (decide (r0.1.toNat +((Int.ofNat r0.2.length).toNat - r0.1.toNat)<=r0.2.length)) (.i (decide ((0:Int)<=(0:Int))&&decide (0<=r0.1)&&decide (r0.1<=Int.ofNat (List.take r0.1.toNat r0.2++List.replicate ((Int.ofNat r0.2.length).toNat - r0.1.toNat) (Row.mk [] [])++List.drop (r0.1.toNat +((Int.ofNat r0.2.length).toNat - r0.1.toNat)) r0.2).length)) (.k (List.take (r0.1.toNat - Int.toNat 0) (List.take r0.1.toNat r0.2++List.replicate ((Int.ofNat r0.2.length).toNat - r0.1.toNat) (Row.mk [] [])++List.drop (r0.1.toNat +((Int.ofNat r0.2.length).toNat - r0.1.toNat)) r0.2))) .d) .d) .d)
def zh1 (s:yF):=(zwD s).fin default
def zvd (r:yF):ARes ty:=⟨[.own 54 r],[none]⟩
def zwM:AL base (yF×Unit×Unit):=zd (zp7 54) (zd (zg (vFn 69 zcR)) zq)
def zka:=zh zwM λx=>((zh1 x.1).1,zvd (zh1 x.1).2)
theorem zt4:SdP 67 zka:=
 sT (cx':=zk0) (zi ⟨zlz,zsh,trivial⟩) call67 func67 (lOK (aC zvp aN)) (sg:=⟨[.own 54],[false]⟩)
def zxP (r:yF):ARes ty:=⟨[],[some ⟨54,r⟩]⟩
def zyQ:AL base (yF×Int×Int×Int×Unit×Unit):=zd (zp7 54) (zd (zg (zfB .i64)) (zd (zg (zfB .i64)) (zd (zg (zfB .i64)) (zd (zg (vFn 53 zcR)) zq))))
def zy6 (F:yF->Int->Int->Int->Bool×yF):Ab.Spec ty:=zh zyQ λx=>((F x.1 x.2.1 x.2.2.1 x.2.2.2.1).1,zxP (F x.1 x.2.1 x.2.2.1 x.2.2.2.1).2)
def zjW:yF->Int->Int->Int->Bool×yF:=λa _ _ _=>(decide (a.length=a.length+1),default)
def zmn:Ab.Spec ty:=zy6 zjW
theorem zwu:SdP 191 zmn:=z8 call191 (λ_=>decide_eq_false (Nat.ne_of_lt (Nat.lt_succ_self _)))
abbrev zef:=Unit×Int×Int×Unit×Int×Int×Unit
abbrev zbR:=yF×Unit
abbrev zlx:=Int×Int×Int×yF
abbrev zee:=Unit×Int×Int×Unit×Int×Unit
def zvq (a:Int) (b:Int) (i:Int) (j:Int) (data:yF):Wy zef zbR zlx:=.i (decide (j>a)) (.i (decide (0<=j)&&decide (j<Int.ofNat data.length)) (.i (decide (0<=IntKind.i64.wrap (j - 1))&&decide (IntKind.i64.wrap (j - 1)<Int.ofNat data.length)) (.bn (zcO (data.getD j.toNat default) (data.getD (IntKind.i64.wrap (j - 1)).toNat default)) λr0=>.i (decide (r0<0)) (.i (decide (0<=IntKind.i64.wrap (j - 1))&&decide (IntKind.i64.wrap (j - 1)<Int.ofNat data.length)) (.i (decide (0<=j)&&decide (j<Int.ofNat data.length)) (.i (decide (0<=j)&&decide (j<Int.ofNat data.length)) (.i (decide (j.toNat<data.length)) (.i (decide (0<=IntKind.i64.wrap (j - 1))&&decide (IntKind.i64.wrap (j - 1)<Int.ofNat (data.set j.toNat (data.getD (IntKind.i64.wrap (j - 1)).toNat default)).length)) (.i (decide ((IntKind.i64.wrap (j - 1)).toNat<(data.set j.toNat (data.getD (IntKind.i64.wrap (j - 1)).toNat default)).length)) (.h ((),a,b,(),i,(IntKind.i64.wrap (j - 1)),()) (((data.set j.toNat (data.getD (IntKind.i64.wrap (j - 1)).toNat default)).set (IntKind.i64.wrap (j - 1)).toNat (data.getD j.toNat default)),())) .d) .d) .d) .d) .d) .d) (.k (a,b,i,data))) .d) .d) (.k (a,b,i,data))
def zkD (x:zef) (y:zbR):=zvq x.2.1 x.2.2.1 x.2.2.2.2.1 x.2.2.2.2.2.1 y.1
def zu3 (n:Nat) (a:Int) (b:Int) (i:Int) (j:Int) (data:yF):=zB (zkD) default n ((),a,b,(),i,j,()) (data,())
def zug (r:zlx):LTree ty:=.done (.exit 2) [.own 212,.lit (.int .i64 r.1),.lit (.int .i64 r.2.1),.fn 53 ([]),.lit (.int .i64 r.2.2.1)] [.arr 54 r.2.2.2 false]
def zvr:LL ty zef:=za (zeJ 212) (za zj (za zj (za (lFn 53 (zl)) (za zj (za zj zl)))))
def zvc:BL ty zbR:=zeE 54 false (zbb)
def zu6 (a:Int) (b:Int) (i:Int) (data:yF):Wy zee zbR (yF):=.i (decide (i<b)) (.bn (zu3 (a.toNat +b.toNat +i.toNat +i.toNat +data.length+1000) a b i i data) λr2=>.h ((),(r2.1),(r2.2.1),(),(IntKind.i64.wrap (r2.2.2.1+1)),()) ((r2.2.2.2),())) (.k data)
def zkE (x:zee) (y:zbR):=zu6 x.2.1 x.2.2.1 x.2.2.2.2.1 y.1
def zvh (n:Nat) (a:Int) (b:Int) (i:Int) (data:yF):=zB (zkE) default n ((),a,b,(),i,()) (data,())
def zuI (r:yF):LTree ty:=.done (.exit 0) [.own 212] [.arr 54 r false]
def zu9:LL ty zee:=za (zeJ 212) (za zj (za zj (za (lFn 53 (zl)) (za zj zl))))
def zuK (x:zef) (y:zbR):Nat:=(Int.toNat x.2.1+Int.toNat x.2.2.1+Int.toNat x.2.2.2.2.1+Int.toNat x.2.2.2.2.2.1+y.1.length+1000)
def zuw (x:zee) (y:zbR):Nat:=(Int.toNat x.2.1+Int.toNat x.2.2.1+Int.toNat x.2.2.2.2.1+y.1.length+1000)
def zgk:=zbX base 53 [(53,ze5)] [] [(1,(kpL [0,1,2,3,8])),(4,(kpL [0,1,2,3,8,9]))] [(1,1,(kpL [0])),(4,3,(kpL [0,1,2,3,8]))] [(4,spW zvr zvc (zkD) default zug zuK),(1,spW zu9 zvc (zkE) default zuI zuw)] []
theorem zuG:zF zgk (lp (body f190) 1):=zn (id:=4) (hl:=rfl)
theorem zuj:zF zgk (lp (body f190) 0):=zn (id:=1) (hl:=rfl)
def zv1 (data:yF) (a:Int) (b:Int):Wy0 (yF):=.bn (zvh (a.toNat +b.toNat +(IntKind.i64.wrap (a+1)).toNat +data.length+1000) a b (IntKind.i64.wrap (a+1)) data) λr4=>.k r4
def zeu (data:yF) (a:Int) (b:Int):=(zv1 data a b).fin default
def zv6:AL base (yF×Int×Int×Unit×Unit):=zd (zp7 54) (zd (zg zgm) (zd (zg zgm) (zd (zg (vFn 53 zcR)) zq)))
def zjI:=zh zv6 λx=>((zeu x.1 x.2.1 x.2.2.1).1,zxP (zeu x.1 x.2.1 x.2.2.1).2)
theorem zsL:SdP 190 zjI:=
 sT (cx':=zgk) (zi ⟨zfW,trivial⟩) call190 func190 (lOK (aC zuj (aC zuG aN))) (sg:=⟨[],[true]⟩)
abbrev zcs:=Unit×Int×Unit×Int×Int×Int×Unit
abbrev zbx:=yF×Unit
abbrev zgV:=Int×Int×Int×yF
abbrev zgQ:=Unit×Int×Unit×Int×Unit
def zAs (n_:Int) (blockSize:Int) (a:Int) (b:Int) (data:yF):Wy zcs zbx zgV:=.i (decide (b<=n_)) (.bn (zeu data a b) λr0=>.h ((),n_,(),blockSize,b,(IntKind.i64.wrap (b+blockSize)),()) ((r0),())) (.k (n_,blockSize,a,data))
def zpQ (x:zcs) (y:zbx):=zAs x.2.1 x.2.2.2.1 x.2.2.2.2.1 x.2.2.2.2.2.1 y.1
def zAr (n:Nat) (n_:Int) (blockSize:Int) (a:Int) (b:Int) (data:yF):=zB (zpQ) default n ((),n_,(),blockSize,a,b,()) (data,())
def zy8 (r:zgV):LTree ty:=.done (.exit 0) [.own 252,.lit (.int .i64 r.1),.fn 53 ([]),.lit (.int .i64 r.2.1),.lit (.int .i64 r.2.2.1)] [.arr 54 r.2.2.2 false]
def zAg:LL ty zcs:=za (zeJ 252) (za zj (za (lFn 53 (zl)) (za zj (za zj (za zj zl)))))
def zAf:BL ty zbx:=zeE 54 false (zbb)
def zAj (n_:Int) (blockSize:Int) (a:Int) (b:Int) (data:yF):Wy zcs zbx zgV:=.i (decide (b<=n_)) (.bn (zjW data a (IntKind.i64.wrap (a+blockSize)) b) λr2=>.h ((),n_,(),blockSize,b,(IntKind.i64.wrap (b+IntKind.i64.wrap (2*blockSize))),()) ((r2),())) (.k (n_,blockSize,a,data))
def zpO (x:zcs) (y:zbx):=zAj x.2.1 x.2.2.2.1 x.2.2.2.2.1 x.2.2.2.2.2.1 y.1
def zAp (n:Nat) (n_:Int) (blockSize:Int) (a:Int) (b:Int) (data:yF):=zB (zpO) default n ((),n_,(),blockSize,a,b,()) (data,())
def zy1 (r:zgV):LTree ty:=.done (.exit 4) [.own 252,.lit (.int .i64 r.1),.fn 53 ([]),.lit (.int .i64 r.2.1),.lit (.int .i64 r.2.2.1)] [.arr 54 r.2.2.2 false]
def zAo (n_:Int) (blockSize:Int) (data:yF):Wy zgQ zbx (yF):=.i (decide (blockSize<n_)) (.bn (zAp (n_.toNat +blockSize.toNat +Int.toNat 0+(IntKind.i64.wrap (2*blockSize)).toNat +data.length+1000) n_ blockSize 0 (IntKind.i64.wrap (2*blockSize)) data) λr5=>.i (decide (IntKind.i64.wrap (r5.2.2.1+r5.2.1)<r5.1)) (.bn (zjW r5.2.2.2 r5.2.2.1 (IntKind.i64.wrap (r5.2.2.1+r5.2.1)) r5.1) λr4=>.h ((),(r5.1),(),(IntKind.i64.wrap (r5.2.1*2)),()) ((r4),())) (.h ((),(r5.1),(),(IntKind.i64.wrap (r5.2.1*2)),()) ((r5.2.2.2),()))) (.k data)
def zpP (x:zgQ) (y:zbx):=zAo x.2.1 x.2.2.2.1 y.1
def zAq (n:Nat) (n_:Int) (blockSize:Int) (data:yF):=zB (zpP) default n ((),n_,(),blockSize,()) (data,())
def zzi (r:yF):LTree ty:=.done (.exit 2) [.own 252] [.arr 54 r false]
def zAu:LL ty zgQ:=za (zeJ 252) (za zj (za (lFn 53 (zl)) (za zj zl)))
def zzm (x:zcs) (y:zbx):Nat:=(Int.toNat x.2.1+Int.toNat x.2.2.2.1+Int.toNat x.2.2.2.2.1+Int.toNat x.2.2.2.2.2.1+y.1.length+1000)
def zyT (x:zgQ) (y:zbx):Nat:=(Int.toNat x.2.1+Int.toNat x.2.2.2.1+y.1.length+1000)
def zfV:=zbX base 63 [(53,ze5),(190,zjI),(191,zmn)] [(190,[true,false,false,false]),(191,[true,false,false,false,false])] [(2,(kpL [0,1,2,6,7,8])),(7,(kpL [0,1,2,6])),(9,(kpL [0,1,2,6,7,8]))] [(2,1,(kpL [0,1,2,6,7])),(7,3,(kpL [0])),(9,5,(kpL [0,1,2,6,7]))] [(2,spW zAg zAf (zpQ) default zy8 zzm),(9,spW zAg zAf (zpO) default zy1 zzm),(7,spW zAu zAf (zpP) default zzi zyT)] []
theorem zzc:zF zfV (lp (body f123) 0):=zn (id:=2) (hl:=rfl)
theorem zzj:zF zfV (lp (body f123) 2):=zn (id:=9) (hl:=rfl)
theorem zzo:zF zfV (lp (body f123) 1):=zn (id:=7) (hl:=rfl)
def zBp (data:yF) (n_:Int):Wy0 (yF):=.bn (zAr (n_.toNat +Int.toNat 20+Int.toNat 0+Int.toNat 20+data.length+1000) n_ 20 0 20 data) λr10=>.bn (zeu r10.2.2.2 r10.2.2.1 r10.1) λr9=>.bn (zAq (r10.1.toNat +r10.2.1.toNat +r9.length+1000) r10.1 r10.2.1 r9) λr8=>.k r8
def zkV (data:yF) (n_:Int):=(zBp data n_).fin default
def zBw:AL base (yF×Int×Unit×Unit):=zd (zp7 54) (zd (zg zgm) (zd (zg (vFn 53 zcR)) zq))
def zof:=zh zBw λx=>((zkV x.1 x.2.1).1,zxP (zkV x.1 x.2.1).2)
theorem zxQ:SdP 123 zof:=
 sT (cx':=zfV) (zi ⟨zfW,zsL,zwu,trivial⟩) call123 func123 (lOK (aC zzc (aC zzo (aC zzj aN)))) (sg:=⟨[],[true]⟩)
def zsK:=zbX base 9 [(53,ze5),(123,zof)] [(123,[true,false,false])] [] [] [] []
def ztx (x_:yF):Wy0 (yF):=.bn (zkV x_ (Int.ofNat x_.length)) λr0=>.k r0
def zgh (x_:yF):=(ztx x_).fin default
def ztu:AL base (yF×Unit×Unit):=zd (zp7 54) (zd (zg (vFn 53 zcR)) zq)
def ziH:=zh ztu λx=>((zgh x.1).1,zxP (zgh x.1).2)
theorem zrr:SdP 70 ziH:=
 sT (cx':=zsK) (zi ⟨zfW,zxQ,trivial⟩) call70 func70 (lOK aN) (sg:=⟨[],[true]⟩)
end Go.Proofs.YtoknknbmfmddbaaGreatDoor
end
