/- Texts of this claim, joined (the program, its functions in plain words, and what they compute). -/
import Derived.Test.YtoknknbmfmddbaaGreatDoorGC3
set_option autoImplicit false
set_option linter.unusedVariables false
set_option linter.unusedSectionVars false
set_option linter.unusedSimpArgs false
set_option maxRecDepth 1000000
set_option maxHeartbeats 0
noncomputable section
namespace Go.Proofs.YtoknknbmfmddbaaGreatDoor
open Go Go.Ab
open Go.Proofs.Tryz
def zSq:=zbN base 9 []
def zFz (n_:Int):Wy0 (yB):=.i (decide (n_<1)) (.k []) (.k [TO.mk (if 1152921504606846976<n_ then 1152921504606846976 else n_) []])
def zq3 (n_:Int):=(zFz n_).fin default
def zCe:=zi zVG λx=>((zq3 x.1).1,zZH (zq3 x.1).2)
theorem zMm:SdP 197 zCe:=
 sT (cx':=zSq) (zm trivial) call197 func197 (lOK aN) (sg:=⟨[.own 107],[]⟩)
def zyg:=zbN base 27 []
def znb (n_:Int):Wy0 (yC):=.i (decide (n_<0)) .d (.i (decide (IntKind.i64.wrap (n_ - IntKind.i64.wrap (0 - 0))>0)) (.i (decide (0<IntKind.i64.wrap (n_ - IntKind.i64.wrap (0 - 0)))&&(decide (IntKind.i64.wrap (n_ - IntKind.i64.wrap (0 - 0))*Int.ofNat 128<=Int.ofNat zG)&&(decide (IntKind.i64.wrap (n_ - IntKind.i64.wrap (0 - 0))<=Int.ofNat zG)&& !Nat.beq 11 0))) (.k (List.take (Int.toNat 0 - Int.toNat 0) (List.replicate (IntKind.i64.wrap (n_ - IntKind.i64.wrap (0 - 0))).toNat (FO.mk (At.mk 0 (RowID.mk 0 0) [] 0 [] 0 (Value.mk 0 0 (ByteArray.mk #[]))) 0)))) .d) (.k []))
def zem (n_:Int):=(znb n_).fin default
def zxt (r:yC):ARes ty:=⟨[.own 145 r],[]⟩
def zlQ:=zi zyb λx=>((zem x.2.1).1,zxt (zem x.2.1).2)
theorem zv4:SdP 303 zlQ:=
 sT (cx':=zyg) (zm trivial) call303 func303 (lOK aN) (sg:=⟨[.own 145],[]⟩)
abbrev zfv:=List (yC)×Int×List (yC)×Int×Int×Unit
abbrev zok:=List (yC)×Int
abbrev zfz:=Unit×List (yC)×Int×Int×Unit
abbrev zfp:=yC×Unit
def zc7 (slices:List (yC)) (size:Int) (t9:List (yC)) (t10:Int) (t11:Int):Wy zfv Unit zok:=.i (decide (t11<t10)) (.i (decide (0<=t11)&&decide (t11<Int.ofNat t9.length)) (.i (decide (IntKind.i64.wrap (size+Int.ofNat (List.length (t9.getD t11.toNat default)))<0)) .d (.h (slices,(IntKind.i64.wrap (size+Int.ofNat (List.length (t9.getD t11.toNat default)))),t9,t10,(IntKind.i64.wrap (t11+1)),()) ())) .d) (.k (slices,size))
def zgZ (x:zfv) (y:Unit):=zc7 x.1 x.2.1 x.2.2.1 x.2.2.2.1 x.2.2.2.2.1
def zlS (n:Nat) (slices:List (yC)) (size:Int) (t9:List (yC)) (t10:Int) (t11:Int):=zA (zgZ) default n (slices,size,t9,t10,t11,()) ()
def zwe (r:zok):LTree ty:=.done (.exit 0) [.sl 105 r.1,.lit (.int .i64 r.2)] []
def zwj:LL ty zfv:=za (lSl 105) (za zj (za (lSl 105) (za zj (za zj zr))))
def zc0 (t25:List (yC)) (t26:Int) (t27:Int) (newslice:yC):Wy zfz zfp (yC):=.i (decide (t27<t26)) (.i (decide (0<=t27)&&decide (t27<Int.ofNat t25.length)) (.i (decide ((newslice.length+List.length (t25.getD t27.toNat default))*128<=zG)) (.h ((),t25,t26,(IntKind.i64.wrap (t27+1)),()) ((newslice++t25.getD t27.toNat default),())) .d) .d) (.k newslice)
def zgv (x:zfz) (y:zfp):=zc0 x.2.1 x.2.2.1 x.2.2.2.1 y.1
def zlv (n:Nat) (t25:List (yC)) (t26:Int) (t27:Int) (newslice:yC):=zA (zgv) default n ((),t25,t26,t27,()) (newslice,())
def zu8 (r:yC):LTree ty:=.done (.exit 2) [.own 144] [.arr 145 r false]
def zvQ:LL ty zfz:=za (zeZ 144) (za (lSl 105) (za zj (za zj zr)))
def zvM:BL ty zfp:=ze2 145 false (zbD)
def zv8 (x:zfv) (y:Unit):Nat:=(x.1.length+Int.toNat x.2.1+x.2.2.1.length+Int.toNat x.2.2.2.1+Int.toNat x.2.2.2.2.1+1)
def zvj (x:zfz) (y:zfp):Nat:=(x.2.1.length+Int.toNat x.2.2.1+Int.toNat x.2.2.2.1+y.1.length+1)
def zgP:=zc6 base 36 [(303,zlQ)] [] [(3,(kpL [0,3,9,10,11])),(11,(kpL [6,25,26,27]))] [(3,1,(kpL [0,3])),(11,3,(kpL [6]))] [(3,spW zwj z2k (zgZ) default zwe zv8),(11,spW zvQ zvM (zgv) default zu8 zvj)] [303]
theorem zwc:zS zgP (lp (body f282) 0):=zI (id:=3) (hl:=rfl)
theorem zu9:zS zgP (lp (body f282) 1):=zI (id:=11) (hl:=rfl)
def zml (slices:List (yC)):Wy0 (yC):=.bn (zlS (slices.length+Int.toNat 0+slices.length+(Int.ofNat slices.length).toNat +Int.toNat 0+1) slices 0 slices (Int.ofNat slices.length) 0) λr2=>.bn (zem r2.2) λr1=>.bn (zlv (r2.1.length+(Int.ofNat r2.1.length).toNat +Int.toNat 0+r1.length+1) r2.1 (Int.ofNat r2.1.length) 0 r1) λr0=>.k r0
def zdR (slices:List (yC)):=(zml slices).fin default
def zxf:AL base (List (yC)×Unit):=zg (zh (vSl 105)) zC
def zk6:=zi zxf λx=>((zdR x.1).1,zxt (zdR x.1).2)
theorem zuZ:SdP 282 zk6:=
 sT (cx':=zgP) (zm ⟨zv4,trivial⟩) call282 func282 (lOK (aC zwc (aC zu9 aN))) (sg:=⟨[.own 145],[]⟩)
abbrev zsS:=yC×yC×Unit×Unit
abbrev zs7:=yC×Unit
abbrev zF8:=yC×yC×yC
def zym (a:yC) (b:yC) (out_:yC):Wy zsS zs7 zF8:=.i (decide (Int.ofNat a.length>0)) (.i (decide (Int.ofNat b.length>0)) (.i (decide ((0:Int)<=(0:Int))&&decide (0<Int.ofNat a.length)) (.i (decide ((0:Int)<=(0:Int))&&decide (0<Int.ofNat b.length)) (.bn (zjy (At.mk (a.getD (Int.toNat 0) default).At.Kind (a.getD (Int.toNat 0) default).At.Row (a.getD (Int.toNat 0) default).At.Ag (a.getD (Int.toNat 0) default).At.Func (a.getD (Int.toNat 0) default).At.Items (a.getD (Int.toNat 0) default).At.Op (a.getD (Int.toNat 0) default).At.Bd) (At.mk (b.getD (Int.toNat 0) default).At.Kind (b.getD (Int.toNat 0) default).At.Row (b.getD (Int.toNat 0) default).At.Ag (b.getD (Int.toNat 0) default).At.Func (b.getD (Int.toNat 0) default).At.Items (b.getD (Int.toNat 0) default).At.Op (b.getD (Int.toNat 0) default).At.Bd)) λr1=>.i (decide (r1<0)) (.i (decide ((0:Int)<=(0:Int))&&decide (0<Int.ofNat a.length)) (.i (decide ((out_.length+[FO.mk (At.mk (a.getD (Int.toNat 0) default).At.Kind (a.getD (Int.toNat 0) default).At.Row (a.getD (Int.toNat 0) default).At.Ag (a.getD (Int.toNat 0) default).At.Func (a.getD (Int.toNat 0) default).At.Items (a.getD (Int.toNat 0) default).At.Op (a.getD (Int.toNat 0) default).At.Bd) (a.getD (Int.toNat 0) default).Exp].length)*128<=zG)) (.i (decide ((0:Int)<=(1:Int))&&decide (1<=Int.ofNat a.length)&&decide (Int.ofNat a.length<=Int.ofNat a.length)) (.h ((List.take ((Int.ofNat a.length).toNat - Int.toNat 1) (List.drop (Int.toNat 1) a)),b,(),()) ((out_++[FO.mk (At.mk (a.getD (Int.toNat 0) default).At.Kind (a.getD (Int.toNat 0) default).At.Row (a.getD (Int.toNat 0) default).At.Ag (a.getD (Int.toNat 0) default).At.Func (a.getD (Int.toNat 0) default).At.Items (a.getD (Int.toNat 0) default).At.Op (a.getD (Int.toNat 0) default).At.Bd) (a.getD (Int.toNat 0) default).Exp]),())) .d) .d) .d) (.i (decide (r1>0)) (.i (decide ((0:Int)<=(0:Int))&&decide (0<Int.ofNat b.length)) (.i (decide ((out_.length+[FO.mk (At.mk (b.getD (Int.toNat 0) default).At.Kind (b.getD (Int.toNat 0) default).At.Row (b.getD (Int.toNat 0) default).At.Ag (b.getD (Int.toNat 0) default).At.Func (b.getD (Int.toNat 0) default).At.Items (b.getD (Int.toNat 0) default).At.Op (b.getD (Int.toNat 0) default).At.Bd) (b.getD (Int.toNat 0) default).Exp].length)*128<=zG)) (.i (decide ((0:Int)<=(1:Int))&&decide (1<=Int.ofNat b.length)&&decide (Int.ofNat b.length<=Int.ofNat b.length)) (.h (a,(List.take ((Int.ofNat b.length).toNat - Int.toNat 1) (List.drop (Int.toNat 1) b)),(),()) ((out_++[FO.mk (At.mk (b.getD (Int.toNat 0) default).At.Kind (b.getD (Int.toNat 0) default).At.Row (b.getD (Int.toNat 0) default).At.Ag (b.getD (Int.toNat 0) default).At.Func (b.getD (Int.toNat 0) default).At.Items (b.getD (Int.toNat 0) default).At.Op (b.getD (Int.toNat 0) default).At.Bd) (b.getD (Int.toNat 0) default).Exp]),())) .d) .d) .d) (.i (decide ((0:Int)<=(0:Int))&&decide (0<Int.ofNat a.length)) (.bn (zfS (At.mk (a.getD (Int.toNat 0) default).At.Kind (a.getD (Int.toNat 0) default).At.Row (a.getD (Int.toNat 0) default).At.Ag (a.getD (Int.toNat 0) default).At.Func (a.getD (Int.toNat 0) default).At.Items (a.getD (Int.toNat 0) default).At.Op (a.getD (Int.toNat 0) default).At.Bd)) λr0=>.i (!r0) (.i (decide ((0:Int)<=(0:Int))&&decide (0<Int.ofNat b.length)) (.i (decide ((out_.length+[FO.mk (At.mk (a.getD (Int.toNat 0) default).At.Kind (a.getD (Int.toNat 0) default).At.Row (a.getD (Int.toNat 0) default).At.Ag (a.getD (Int.toNat 0) default).At.Func (a.getD (Int.toNat 0) default).At.Items (a.getD (Int.toNat 0) default).At.Op (a.getD (Int.toNat 0) default).At.Bd) (IntKind.i64.wrap ((a.getD (Int.toNat 0) default).Exp+(b.getD (Int.toNat 0) default).Exp))].length)*128<=zG)) (.i (decide ((0:Int)<=(1:Int))&&decide (1<=Int.ofNat a.length)&&decide (Int.ofNat a.length<=Int.ofNat a.length)) (.i (decide ((0:Int)<=(1:Int))&&decide (1<=Int.ofNat b.length)&&decide (Int.ofNat b.length<=Int.ofNat b.length)) (.h ((List.take ((Int.ofNat a.length).toNat - Int.toNat 1) (List.drop (Int.toNat 1) a)),(List.take ((Int.ofNat b.length).toNat - Int.toNat 1) (List.drop (Int.toNat 1) b)),(),()) ((out_++[FO.mk (At.mk (a.getD (Int.toNat 0) default).At.Kind (a.getD (Int.toNat 0) default).At.Row (a.getD (Int.toNat 0) default).At.Ag (a.getD (Int.toNat 0) default).At.Func (a.getD (Int.toNat 0) default).At.Items (a.getD (Int.toNat 0) default).At.Op (a.getD (Int.toNat 0) default).At.Bd) (IntKind.i64.wrap ((a.getD (Int.toNat 0) default).Exp+(b.getD (Int.toNat 0) default).Exp))]),())) .d) .d) .d) .d) (.i (decide ((out_.length+[FO.mk (At.mk (a.getD (Int.toNat 0) default).At.Kind (a.getD (Int.toNat 0) default).At.Row (a.getD (Int.toNat 0) default).At.Ag (a.getD (Int.toNat 0) default).At.Func (a.getD (Int.toNat 0) default).At.Items (a.getD (Int.toNat 0) default).At.Op (a.getD (Int.toNat 0) default).At.Bd) (a.getD (Int.toNat 0) default).Exp].length)*128<=zG)) (.i (decide ((0:Int)<=(1:Int))&&decide (1<=Int.ofNat a.length)&&decide (Int.ofNat a.length<=Int.ofNat a.length)) (.i (decide ((0:Int)<=(1:Int))&&decide (1<=Int.ofNat b.length)&&decide (Int.ofNat b.length<=Int.ofNat b.length)) (.h ((List.take ((Int.ofNat a.length).toNat - Int.toNat 1) (List.drop (Int.toNat 1) a)),(List.take ((Int.ofNat b.length).toNat - Int.toNat 1) (List.drop (Int.toNat 1) b)),(),()) ((out_++[FO.mk (At.mk (a.getD (Int.toNat 0) default).At.Kind (a.getD (Int.toNat 0) default).At.Row (a.getD (Int.toNat 0) default).At.Ag (a.getD (Int.toNat 0) default).At.Func (a.getD (Int.toNat 0) default).At.Items (a.getD (Int.toNat 0) default).At.Op (a.getD (Int.toNat 0) default).At.Bd) (a.getD (Int.toNat 0) default).Exp]),())) .d) .d) .d)) .d))) .d) .d) (.k (a,b,out_))) (.k (a,b,out_))
def zFS (x:zsS) (y:zs7):=zym x.1 x.2.1 y.1
def zyi (n:Nat) (a:yC) (b:yC) (out_:yC):=zA (zFS) default n (a,b,(),()) (out_,())
def zR3 (r:zF8):LTree ty:=.done (.exit 0) [.sl 145 r.1,.sl 145 r.2.1,.own 300] [.arr 145 r.2.2 false]
def zTY:LL ty zsS:=za (lSl 145) (za (lSl 145) (za (zeZ 300) zr))
def zSD:BL ty zs7:=ze2 145 false (zbD)
def zRZ (x:zsS) (y:zs7):Nat:=(x.1.length+x.2.1.length+y.1.length+1)
def zGc:=zc6 base 75 [(105,zkk),(106,zmC),(282,zk6)] [] [(2,[(0,.keep),(1,.keep),(5,.own 145)])] [(2,1,(kpL [0,1,5]))] [(2,spW zTY zSD (zFS) default zR3 zRZ)] []
theorem zR6:zS zGc (lp (body f239) 0):=zI (id:=2) (hl:=rfl)
def zHP (a:yC) (b:yC):Wy0 (yC):=.bn (zyi (a.length+b.length+0+1) a b []) λr5=>.bn (zdR [r5.2.2,r5.1,r5.2.1]) λr4=>.k r4
def zop (a:yC) (b:yC):=(zHP a b).fin default
def zVX:AL base (yC×yC×Unit):=zg (zh (vSl 145)) (zg (zh (vSl 145)) zC)
def zCR:=zi zVX λx=>((zop x.1 x.2.1).1,zxt (zop x.1 x.2.1).2)
theorem zNO:SdP 239 zCR:=
 sT (cx':=zGc) (zm ⟨znm,zub,zuZ,trivial⟩) call239 func239 (lOK (aC zR6 aN)) (sg:=⟨[.own 145],[]⟩)
def zRR:=zbN base 12 []
def zF0 (a:Int) (b:Int):Wy0 (Int):=.i (!decide (b=0)) (.i (decide (a>IntKind.i64.wrap (Int.tdiv 1152921504606846976 b))) (.k 1152921504606846976) (.k (IntKind.i64.wrap (a*b)))) .d
def zrd (a:Int) (b:Int):=(zF0 a b).fin default
def zCf:=zi zSe λx=>((zrd x.1 x.2.1).1,zNi (zrd x.1 x.2.1).2)
theorem zMr:SdP 238 zCf:=
 sT (cx':=zRR) (zm trivial) call238 func238 (lOK aN)
abbrev zun:=yB×Unit×Unit×yB×Int×Int×yB×Int×Int×Unit
abbrev zuh:=yB×Term×Unit
abbrev zHz:=yB×yB×Int×Int×yB
abbrev zug:=yB×Unit×yB×Int×Int×Unit
abbrev zuj:=yB×Unit
def zoX (b:yB) (t19:yB) (t20:Int) (t21:Int) (t25:yB) (t26:Int) (t27:Int) (terms:yB) (x_:Term):Wy zun zuh zHz:=.i (decide (t27<t26)) (.i (decide (0<=t27)&&decide (t27<Int.ofNat t25.length)) (.bn (zrd x_.Cf (t25.getD t27.toNat default).Cf) λr5=>.bn (zop x_.Fs (t25.getD t27.toNat default).Fs) λr4=>.i (decide ((terms.length+[TO.mk r5 r4].length)*32<=zG)) (.h (b,(),(),t19,t20,t21,t25,t26,(IntKind.i64.wrap (t27+1)),()) ((terms++[TO.mk r5 r4]),x_,())) .d) .d) (.k (b,t19,t20,t21,terms))
def zz9 (x:zun) (y:zuh):=zoX x.1 x.2.2.2.1 x.2.2.2.2.1 x.2.2.2.2.2.1 x.2.2.2.2.2.2.1 x.2.2.2.2.2.2.2.1 x.2.2.2.2.2.2.2.2.1 y.1 y.2.1
def zHI (n:Nat) (b:yB) (t19:yB) (t20:Int) (t21:Int) (t25:yB) (t26:Int) (t27:Int) (terms:yB) (x_:Term):=zA (zz9) default n (b,(),(),t19,t20,t21,t25,t26,t27,()) (terms,x_,())
def zSM (r:zHz):LTree ty:=.done (.exit 2) [.sl 107 r.1,.own 208,.sl 107 r.2.1,.lit (.int .i64 r.2.2.1),.lit (.int .i64 r.2.2.2.1)] [.arr 107 r.2.2.2.2 false]
def zVB:LL ty zun:=za (lSl 107) (za (zeZ 208) (za (zfi 209 0) (za (lSl 107) (za zj (za zj (za (lSl 107) (za zj (za zj zr))))))))
def zVQ:BL ty zuh:=ze2 107 false (ziu (zg7 (λx=>(⟨x.1,x.2.1⟩:Term)) (λx=>(x.Cf,x.Fs,())) (λ_=>rfl) (za (zbL .i64) (za (lSl 145) zr))) false (zbD))
def zo7 (b:yB) (t19:yB) (t20:Int) (t21:Int) (terms:yB):Wy zug zuj (yB):=.i (decide (t21<t20)) (.i (decide (0<=t21)&&decide (t21<Int.ofNat t19.length)) (.bn (zHI (b.length+t19.length+t20.toNat +t21.toNat +b.length+(Int.ofNat b.length).toNat +Int.toNat 0+terms.length+(t19.getD t21.toNat default).Fs.length+1) b t19 t20 t21 b (Int.ofNat b.length) 0 terms (t19.getD t21.toNat default)) λr8=>.h ((r8.1),(),(r8.2.1),(r8.2.2.1),(IntKind.i64.wrap (r8.2.2.2.1+1)),()) ((r8.2.2.2.2),())) .d) (.k terms)
def zAB (x:zug) (y:zuj):=zo7 x.1 x.2.2.1 x.2.2.2.1 x.2.2.2.2.1 y.1
def zz7 (n:Nat) (b:yB) (t19:yB) (t20:Int) (t21:Int) (terms:yB):=zA (zAB) default n (b,(),t19,t20,t21,()) (terms,())
def zVR:LL ty zug:=za (lSl 107) (za (zeZ 208) (za (lSl 107) (za zj (za zj zr))))
def zVD:BL ty zuj:=ze2 107 false (zbD)
def zSR (x:zun) (y:zuh):Nat:=(x.1.length+x.2.2.2.1.length+Int.toNat x.2.2.2.2.1+Int.toNat x.2.2.2.2.2.1+x.2.2.2.2.2.2.1.length+Int.toNat x.2.2.2.2.2.2.2.1+Int.toNat x.2.2.2.2.2.2.2.2.1+y.1.length+y.2.1.Fs.length+1)
def zTF (x:zug) (y:zuj):Nat:=(x.1.length+x.2.2.1.length+Int.toNat x.2.2.2.1+Int.toNat x.2.2.2.2.1+y.1.length+1)
def zAq:=zc6 zbp 52 [(52,zcr),(124,ze0),(125,zsd),(238,zCf),(239,zCR)] [] [(5,[(1,.keep),(6,.own 107),(19,.keep),(20,.keep),(21,.keep)]),(8,[(1,.keep),(6,.own 107),(8,.keep),(19,.keep),(20,.keep),(21,.keep),(25,.keep),(26,.keep),(27,.keep)])] [(5,1,(kpL [6])),(8,3,(kpL [1,6,19,20,21]))] [(8,spW zVB zVQ (zz9) default zSM zSR),(5,spW zVR zVD (zAB) default zM5 zTF)] []
theorem zTb:zS zAq (lp (body f199) 1):=zI (id:=8) (hl:=rfl)
theorem zTl:zS zAq (lp (body f199) 0):=zI (id:=5) (hl:=rfl)
def zKk (a:yB) (b:yB):Wy0 (yB×Int):=.bn (zb9 a) λr14=>.i (!r14) (.k ([],1)) (.bn (zb9 b) λr13=>.i (!r13) (.k ([],1)) (.bn (zz7 (b.length+a.length+(Int.ofNat a.length).toNat +Int.toNat 0+0+1) b a (Int.ofNat a.length) 0 []) λr12=>.bn (ziK r12) λr11=>.bn (zeA r11) λr10=>.k (r10.1,r10.2)))
def zu5 (a:yB) (b:yB):=(zKk a b).fin default
def zEj:=zi zXJ λx=>((zu5 x.1 x.2.1).1,zNs (zu5 x.1 x.2.1).2)
theorem zQG:Sound Tryz.prog zbp 199 zEj:=
 sU (cx':=zAq) (zm ⟨zcz.nodr,zf4.nodr,zyE,zMr.nodr,zNO.nodr,trivial⟩) call199 func199 (lOK (aC zTl (aC zTb aN))) (sg:=⟨[.own 107,.pure],[]⟩)
def zDg:=zbN base 8 []
def zt6 (b:Bg) (p1:RowID):Wy0 (Bool):=.k (b.Row.Table==p1.Table&&(b.Row.Seq==p1.Seq&&true))
def zgl (b:Bg) (p1:RowID):=(zt6 b p1).fin default
def zDP:AL base (Bg×RowID×Unit):=zg (zh (zda 65)) (zg (zh (zYX 63)) zC)
def zku:=zi zDP λx=>((zgl x.1 x.2.1).1,zSj (zgl x.1 x.2.1).2)
theorem zqs:SdP 140 zku:=
 sT (cx':=zDg) (zm trivial) call140 func140 (lOK aN)
def zPF:=zbN base 8 []
def zEa (x_:At):Wy0 (yB):=.k [TO.mk 1 [FO.mk (At.mk x_.Kind x_.Row x_.Ag x_.Func x_.Items x_.Op x_.Bd) 1]]
def zfL (x_:At):=(zEa x_).fin default
def zhj:=zi z3t λx=>((zfL x.1).1,zZH (zfL x.1).2)
theorem zjq:SdP 117 zhj:=
 sT (cx':=zPF) (zm trivial) call117 func117 (lOK aN) (sg:=⟨[.own 107],[]⟩)
def zVL:=zbN base 9 [(116,zum),(117,zhj)]
def zJQ (id:RowID):Wy0 (yB):=.bn (zro id) λr0=>.i (!r0) (.k []) (.k ((zfL (At.mk 0 id [] 0 [] 0 (Value.mk 0 0 (ByteArray.mk #[])))).2))
def zuq (id:RowID):=(zJQ id).fin default
def zD2:=zi z4X λx=>((zuq x.1).1,zZH (zuq x.1).2)
theorem zQL:SdP 63 zD2:=
 sT (cx':=zVL) (zm ⟨zyV,zjq,trivial⟩) call63 func63 (lOK aN) (sg:=⟨[.own 107],[]⟩)
abbrev zd6:=yE×(RowID×Unit)×Int×Int×Unit
def zrW (s:yE) (f:RowID) (t7:Int) (t8:Int):Wy zd6 Unit (Int⊕Unit):=.i (decide (t8<t7)) (.i (decide (0<=t8)&&decide (t8<Int.ofNat s.length)) (.i ((zgl (s.getD t8.toNat default) f).2) (.k (.inl t8)) (.h (s,(f,()),t7,(IntKind.i64.wrap (t8+1)),()) ())) .d) (.k (.inr ()))
def ziY (x:zd6) (y:Unit):=zrW x.1 x.2.1.1 x.2.2.1 x.2.2.2.1
def zr4 (n:Nat) (s:yE) (f:RowID) (t7:Int) (t8:Int):=zA (ziY) (.inl default) n (s,(f,()),t7,t8,()) ()
def zrP:LL ty zd6:=za (lSl 65) (za (lFn 140 (za (zGf (zg7 (λx=>(⟨x.1,x.2.1⟩:RowID)) (λx=>(x.Table,x.Seq,())) (λ_=>rfl) (za zj (za zj zr))) 0) zr)) (za zj (za zj zr)))
def zrl (x:zd6) (y:Unit):Nat:=(x.1.length+Int.toNat x.2.2.1+Int.toNat x.2.2.2.1+1)
def zi3:=zc6 base 19 [(140,zku)] [] [(2,(kpL [0,1,7,8]))] [(2,1,[]),(2,0,(kpL [4]))] [(2,spW zrP z2k (ziY) (.inl default) zsy zrl)] []
theorem zrc:zS zi3 (lp (body f139) 0):=zI (id:=2) (hl:=rfl)
def zsg (s:yE) (f:RowID):Wy0 (Int):=.bn (zr4 (s.length+(Int.ofNat s.length).toNat +Int.toNat 0+1) s f (Int.ofNat s.length) 0) λr0=>.i (isL r0) (.k (getL r0)) (.k (-1:Int))
def zcv (s:yE) (f:RowID):=(zsg s f).fin default
def zsK:AL base (yE×(RowID×Unit)×Unit):=zg (zh (vSl 65)) (zg (zh (vFn 140 (zzF (zYX 63) zcX))) zC)
def zia:=zi zsK λx=>((zcv x.1 x.2.1.1).1,zNi (zcv x.1 x.2.1.1).2)
theorem zp4:SdP 139 zia:=
 sT (cx':=zi3) (zm ⟨zqs,trivial⟩) call139 func139 (lOK (aC zrc aN))
def zFk:=zbN base 18 [(63,zD2),(139,zia),(140,zku),(141,zg8)]
def zwQ (id:RowID) (p1:yE):Wy0 (yB):=.bn (zcv p1 id) λr2=>.i (decide (r2≥0)) (.i (decide (0<=r2)&&decide (r2<Int.ofNat p1.length)) (.bn (zho (p1.getD r2.toNat default).To) λr0=>.k r0) .d) (.bn (zuq id) λr1=>.k r1)
def ziy (id:RowID) (p1:yE):=(zwQ id p1).fin default
def zHl:AL base (RowID×(yE×Unit)×Unit):=zg (zh (zda 63)) (zg (zh (zZY (zzF (vSl 65) zcX))) zC)
def ziq:=zi zHl λx=>((ziy x.1 x.2.1.1).1,zZH (ziy x.1 x.2.1.1).2)
theorem zlk:SdP 138 ziq:=
 sT (cx':=zFk) (zm ⟨zQL,zp4,zqs,zjw,trivial⟩) call138 func138 (lOK aN) (sg:=⟨[.own 107],[]⟩)
abbrev znZ:=((yE×Unit)×Unit)×Unit×Unit×yB×Int×yB×Int×Int×yC×Int×Int×Int×Int×Unit
abbrev zeU:=yB×yB×Unit
abbrev zBY:=yE×Int×yB×Int×Int×yC×Int×Int×yB×yB
abbrev zn9:=((yE×Unit)×Unit)×Unit×Unit×yB×Int×Int×yC×Int×Int×Unit
abbrev zB4:=Int⊕(yE×yB×Int×Int×yB×yB)
abbrev zn8:=((yE×Unit)×Unit)×Unit×yB×Int×Int×Unit
abbrev znV:=yB×Unit
abbrev zB2:=Int⊕yB
def zqW (zn:At->yE->Bool×(yB×Int)) (to:yE) (b:yB) (e:Int) (t16:yB) (t17:Int) (t18:Int) (t26:yC) (t27:Int) (t28:Int) (t40:Int) (t41:Int) (sum:yB) (product:yB):Wy znZ zeU zBY:=.i (decide (t41<t40)) (.i (e==0) (.bn (zu5 product b) λr6=>.h (((to,()),()),(),(),b,(r6.2),t16,t17,t18,t26,t27,t28,t40,(IntKind.i64.wrap (t41+1)),()) (sum,(r6.1),())) (.h (((to,()),()),(),(),b,e,t16,t17,t18,t26,t27,t28,t40,(IntKind.i64.wrap (t41+1)),()) (sum,product,()))) (.k (to,e,t16,t17,t18,t26,t27,t28,sum,product))
def zyz (zn:At->yE->Bool×(yB×Int)) (x:znZ) (y:zeU):=zqW zn x.1.1.1 x.2.2.2.1 x.2.2.2.2.1 x.2.2.2.2.2.1 x.2.2.2.2.2.2.1 x.2.2.2.2.2.2.2.1 x.2.2.2.2.2.2.2.2.1 x.2.2.2.2.2.2.2.2.2.1 x.2.2.2.2.2.2.2.2.2.2.1 x.2.2.2.2.2.2.2.2.2.2.2.1 x.2.2.2.2.2.2.2.2.2.2.2.2.1 y.1 y.2.1
def zq6 (zn:At->yE->Bool×(yB×Int)) (n:Nat) (to:yE) (b:yB) (e:Int) (t16:yB) (t17:Int) (t18:Int) (t26:yC) (t27:Int) (t28:Int) (t40:Int) (t41:Int) (sum:yB) (product:yB):=zA (zyz zn) default n (((to,()),()),(),(),b,e,t16,t17,t18,t26,t27,t28,t40,t41,()) (sum,product,())
def zIe (r:zBY):LTree ty:=.done (.exit 4) [.fn 138 ([.bptr ([.sl 65 r.1]) 0]),.own 272,.own 273,.lit (.int .i64 r.2.1),.sl 107 r.2.2.1,.lit (.int .i64 r.2.2.2.1),.lit (.int .i64 r.2.2.2.2.1),.sl 145 r.2.2.2.2.2.1,.lit (.int .i64 r.2.2.2.2.2.2.1),.lit (.int .i64 r.2.2.2.2.2.2.2.1)] [.arr 107 r.2.2.2.2.2.2.2.2.1 false,.arr 107 r.2.2.2.2.2.2.2.2.2 false]
def zKi:LL ty znZ:=za (lFn 138 (za (zGf (za (lSl 65) zr) 0) zr)) (za (zeZ 272) (za (zeZ 273) (za (lSl 107) (za zj (za (lSl 107) (za zj (za zj (za (lSl 145) (za zj (za zj (za zj (za zj zr))))))))))))
def zKg:BL ty zeU:=ze2 107 false (ze2 107 false (zbD))
def zst (zn:At->yE->Bool×(yB×Int)) (to:yE) (t16:yB) (t17:Int) (t18:Int) (t26:yC) (t27:Int) (t28:Int) (sum:yB) (product:yB):Wy zn9 zeU zB4:=.i (decide (t28<t27)) (.i (decide (0<=t28)&&decide (t28<Int.ofNat t26.length)) (.bn (zn (At.mk (t26.getD t28.toNat default).At.Kind (t26.getD t28.toNat default).At.Row (t26.getD t28.toNat default).At.Ag (t26.getD t28.toNat default).At.Func (t26.getD t28.toNat default).At.Items (t26.getD t28.toNat default).At.Op (t26.getD t28.toNat default).At.Bd) to) λr9=>.bn (zq6 zn (to.length+r9.1.length+r9.2.toNat +t16.length+t17.toNat +t18.toNat +t26.length+t27.toNat +t28.toNat +(t26.getD t28.toNat default).Exp.toNat +Int.toNat 0+sum.length+product.length+1) to r9.1 r9.2 t16 t17 t18 t26 t27 t28 (t26.getD t28.toNat default).Exp 0 sum product) λr8=>.i (r8.2.1 != 0) (.k (.inl (r8.2.1))) (.h ((((r8.1),()),()),(),(),(r8.2.2.1),(r8.2.2.2.1),(r8.2.2.2.2.1),(r8.2.2.2.2.2.1),(r8.2.2.2.2.2.2.1),(IntKind.i64.wrap (r8.2.2.2.2.2.2.2.1+1)),()) ((r8.2.2.2.2.2.2.2.2.1),(r8.2.2.2.2.2.2.2.2.2),()))) .d) (.k (.inr (to,t16,t17,t18,sum,product)))
def zz6 (zn:At->yE->Bool×(yB×Int)) (x:zn9) (y:zeU):=zst zn x.1.1.1 x.2.2.2.1 x.2.2.2.2.1 x.2.2.2.2.2.1 x.2.2.2.2.2.2.1 x.2.2.2.2.2.2.2.1 x.2.2.2.2.2.2.2.2.1 y.1 y.2.1
def zse (zn:At->yE->Bool×(yB×Int)) (n:Nat) (to:yE) (t16:yB) (t17:Int) (t18:Int) (t26:yC) (t27:Int) (t28:Int) (sum:yB) (product:yB):=zA (zz6 zn) (.inl default) n (((to,()),()),(),(),t16,t17,t18,t26,t27,t28,()) (sum,product,())
def zKa (r:zB4):LTree ty:=.ite (isL r) (.done .ret [.lit (.slice none 0 0),.lit (.int .i64 (getL r))] []) (.done (.exit 2) [.fn 138 ([.bptr ([.sl 65 (getR r).1]) 0]),.own 272,.own 273,.sl 107 (getR r).2.1,.lit (.int .i64 (getR r).2.2.1),.lit (.int .i64 (getR r).2.2.2.1)] [.arr 107 (getR r).2.2.2.2.1 false,.arr 107 (getR r).2.2.2.2.2 false])
def zLd:LL ty zn9:=za (lFn 138 (za (zGf (za (lSl 65) zr) 0) zr)) (za (zeZ 272) (za (zeZ 273) (za (lSl 107) (za zj (za zj (za (lSl 145) (za zj (za zj zr))))))))
def zsj (zn:At->yE->Bool×(yB×Int)) (to:yE) (t16:yB) (t17:Int) (t18:Int) (sum:yB):Wy zn8 znV zB2:=.i (decide (t18<t17)) (.i (decide (0<=t18)&&decide (t18<Int.ofNat t16.length)) (.bn (zq3 (t16.getD t18.toNat default).Cf) λr14=>.bn (zse zn (to.length+t16.length+t17.toNat +t18.toNat +(t16.getD t18.toNat default).Fs.length+(Int.ofNat (t16.getD t18.toNat default).Fs.length).toNat +Int.toNat 0+sum.length+r14.length+1) to t16 t17 t18 (t16.getD t18.toNat default).Fs (Int.ofNat (t16.getD t18.toNat default).Fs.length) 0 sum r14) λr13=>.i (isL r13) (.k (.inl (getL r13))) (.bn (zqx (getR r13).2.2.2.2.1 (getR r13).2.2.2.2.2) λr12=>.i (r12.2 != 0) (.k (.inl (r12.2))) (.h ((((getR r13).1,()),()),(),(getR r13).2.1,(getR r13).2.2.1,(IntKind.i64.wrap ((getR r13).2.2.2.1+1)),()) ((r12.1),())))) .d) (.k (.inr sum))
def zzW (zn:At->yE->Bool×(yB×Int)) (x:zn8) (y:znV):=zsj zn x.1.1.1 x.2.2.1 x.2.2.2.1 x.2.2.2.2.1 y.1
def zsw (zn:At->yE->Bool×(yB×Int)) (n:Nat) (to:yE) (t16:yB) (t17:Int) (t18:Int) (sum:yB):=zA (zzW zn) (.inl default) n (((to,()),()),(),t16,t17,t18,()) (sum,())
def zJT (r:zB2):LTree ty:=.ite (isL r) (.done .ret [.lit (.slice none 0 0),.lit (.int .i64 (getL r))] []) (.done (.exit 0) [.own 272] [.arr 107 (getR r) false])
def zLa:LL ty zn8:=za (lFn 138 (za (zGf (za (lSl 65) zr) 0) zr)) (za (zeZ 272) (za (lSl 107) (za zj (za zj zr))))
def zK0:BL ty znV:=ze2 107 false (zbD)
def zH8 (x:znZ) (y:zeU):Nat:=(x.1.1.1.length+x.2.2.2.1.length+Int.toNat x.2.2.2.2.1+x.2.2.2.2.2.1.length+Int.toNat x.2.2.2.2.2.2.1+Int.toNat x.2.2.2.2.2.2.2.1+x.2.2.2.2.2.2.2.2.1.length+Int.toNat x.2.2.2.2.2.2.2.2.2.1+Int.toNat x.2.2.2.2.2.2.2.2.2.2.1+Int.toNat x.2.2.2.2.2.2.2.2.2.2.2.1+Int.toNat x.2.2.2.2.2.2.2.2.2.2.2.2.1+y.1.length+y.2.1.length+1)
def zKv (x:zn9) (y:zeU):Nat:=(x.1.1.1.length+x.2.2.2.1.length+Int.toNat x.2.2.2.2.1+Int.toNat x.2.2.2.2.2.1+x.2.2.2.2.2.2.1.length+Int.toNat x.2.2.2.2.2.2.2.1+Int.toNat x.2.2.2.2.2.2.2.2.1+y.1.length+y.2.1.length+1)
def zKF (x:zn8) (y:znV):Nat:=(x.1.1.1.length+x.2.2.1.length+Int.toNat x.2.2.2.1+Int.toNat x.2.2.2.2.1+y.1.length+1)
def zl9 (zn:At->yE->Bool×(yB×Int)):=zc6 zbp 68 [(72,zxn),(138,ziq),(197,zCe),(198,(zlb zn)),(199,zEj)] [] [(3,[(1,.keep),(6,.own 107),(16,.keep),(17,.keep),(18,.keep)]),(7,(kpL [1,6,9,16,17,18,26,27,28])),(11,[(1,.keep),(6,.keep),(9,.keep),(12,.sl 107),(13,.keep),(16,.keep),(17,.keep),(18,.keep),(26,.keep),(27,.keep),(28,.keep),(40,.keep),(41,.keep)])] [(3,1,(kpL [6])),(3,0,(kpL [4,5])),(7,3,(kpL [1,6,9,16,17,18])),(7,0,(kpL [4,5])),(11,5,(kpL [1,6,9,13,16,17,18,26,27,28]))] [(11,spW zKi zKg (zyz zn) default zIe zH8),(7,spW zLd zKg (zz6 zn) (.inl default) zKa zKv),(3,spW zLa zK0 (zzW zn) (.inl default) zJT zKF)] []
theorem zIA (zn:At->yE->Bool×(yB×Int)):zS (zl9 zn) (lp (body f137) 2):=zI (id:=11) (hl:=rfl)
theorem zJI (zn:At->yE->Bool×(yB×Int)):zS (zl9 zn) (lp (body f137) 1):=zI (id:=7) (hl:=rfl)
theorem zJa (zn:At->yE->Bool×(yB×Int)):zS (zl9 zn) (lp (body f137) 0):=zI (id:=3) (hl:=rfl)
def zAW (zn:At->yE->Bool×(yB×Int)) (a:yB) (to:yE):Wy0 (yB×Int):=.bn (zsw zn (to.length+a.length+(Int.ofNat a.length).toNat +Int.toNat 0+0+1) to a (Int.ofNat a.length) 0 []) λr18=>.i (isL r18) (.k ([],getL r18)) (.k (getR r18,0))
def zlu (zn:At->yE->Bool×(yB×Int)) (a:yB) (to:yE):=(zAW zn a to).fin default
theorem zHj (zn:At->yE->Bool×(yB×Int)) (zHp:Sound Tryz.prog zbp 198 (zlb zn)):Sound Tryz.prog zbp 137 (zlf (zlu zn)):=
 sU (cx':=(zl9 zn)) (zm ⟨zDD,zlk.nodr,zMm.nodr,zHp,zQG,trivial⟩) call137 func137 (lOK (aC (zJa zn) (aC (zJI zn) (aC (zIA zn) aN)))) (sg:=⟨[.own 107,.pure],[]⟩)
def zVN:=zbN base 3 []
def zXy:Wy0 (yB):=.k [TO.mk 1 []]
def zuY:Bool×yB:=(zXy).fin default
def zrH:=zi z0b λx=>((zuY ).1,zZH (zuY ).2)
theorem zvX:SdP 278 zrH:=
 sT (cx':=zVN) (zm trivial) call278 func278 (lOK aN) (sg:=⟨[.own 107],[]⟩)
def zPx:=zbN base 23 [(52,zcr),(117,zhj),(124,ze0),(177,zne),(278,zrH)]
def zDZ (a:yB):Wy0 (yB×Int):=.bn (zb9 a) λr2=>.i (!r2) (.k ([],1)) (.i (Int.ofNat a.length==0) (.k (zuY.2,0)) (.bn (zfl a) λr1=>.i (r1) (.k ([],0)) (.bn (zeA (zfL (At.mk 3 (RowID.mk 0 0) [a] 0 [] 0 (Value.mk 0 0 (ByteArray.mk #[])))).2) λr0=>.k (r0.1,r0.2))))
def zo9 (a:yB):=(zDZ a).fin default
def zA2:=zi zT6 λx=>((zo9 x.1).1,zNs (zo9 x.1).2)
theorem zLp:SdP 236 zA2:=
 sT (cx':=zPx) (zm ⟨zcz,zjq,zf4,zuN,zvX,trivial⟩) call236 func236 (lOK aN) (sg:=⟨[.own 107,.pure],[]⟩)
def zRU:=zbN base 29 [(52,zcr),(117,zhj),(124,ze0),(141,zg8),(175,zoU),(176,ztU),(278,zrH)]
def zGA (a:yB):Wy0 (yB×Int):=.bn (zb9 a) λr5=>.i (!r5) (.k ([],1)) (.i (Int.ofNat a.length==0) (.bn (zho a) λr0=>.k (r0,0)) (.bn (zlJ a) λr4=>.i (r4) (.bn (zho a) λr1=>.k (r1,0)) (.bn (zh4 a) λr3=>.i (r3) (.k (zuY.2,0)) (.bn (zeA (zfL (At.mk 2 (RowID.mk 0 0) [a] 0 [] 0 (Value.mk 0 0 (ByteArray.mk #[])))).2) λr2=>.k (r2.1,r2.2)))))
def zrC (a:yB):=(zGA a).fin default
def zB8:=zi zT6 λx=>((zrC x.1).1,zNs (zrC x.1).2)
theorem zMt:SdP 235 zB8:=
 sT (cx':=zRU) (zm ⟨zcz,zjq,zf4,zjw,zvz,zzQ,zvX,trivial⟩) call235 func235 (lOK aN) (sg:=⟨[.own 107,.pure],[]⟩)
def zSB:=zbN base 38 [(52,zcr),(115,zoq),(117,zhj),(124,ze0),(141,zg8)]
def zGr (a:yB) (b:yB):Wy0 (yB×Int):=.bn (zb9 a) λr4=>.i (!r4) (.k ([],1)) (.bn (zb9 b) λr3=>.i (!r3) (.k ([],1)) (.i (Int.ofNat b.length==0) (.bn (zho a) λr0=>.k (r0,0)) (.i (Int.ofNat a.length==0) (.k ([],0)) (.bn (zgB a b) λr2=>.i (r2) (.k ([],0)) (.bn (zeA (zfL (At.mk 1 (RowID.mk 0 0) [a,b] 0 [] 0 (Value.mk 0 0 (ByteArray.mk #[])))).2) λr1=>.k (r1.1,r1.2))))))
def zqU (a:yB) (b:yB):=(zGr a b).fin default
def zBS:=zi zQd λx=>((zqU x.1 x.2.1).1,zNs (zqU x.1 x.2.1).2)
theorem zNa:SdP 234 zBS:=
 sT (cx':=zSB) (zm ⟨zcz,zt3,zjq,zf4,zjw,trivial⟩) call234 func234 (lOK aN) (sg:=⟨[.own 107,.pure],[]⟩)
def zgD (x:yD) (a b:Int):Bool×yD:=z0r zX x a b
def ztp:Ab.Spec ty:=zi (cx:=base) (zg (zpX 169) (zg (zh (zg0 .i64)) (zg (zh (zg0 .i64)) (zg (zh (vFn 172 zcX)) zC)))) λx=>((zgD x.1 x.2.1 x.2.2.1).1,⟨[],[some ⟨169,(zgD x.1 x.2.1 x.2.2.1).2⟩]⟩)
theorem ztQ (c:Unit) (x y:Wd) (h:(zX x y).1=true):zfX ((AV.agg (base.enc 169 x)::AV.agg (base.enc 169 y)::(zcX:VL base Unit).enc c).map Arg.pure)=some (true,⟨[.pure (.lit (.int .i64 (zX x y).2))],[]⟩):=by
 rw [<- h]; kernel_rfl
theorem zsm:SdP 309 ztp:=by
 letI:DecidableEq (ty 169):=inferInstanceAs (DecidableEq Wd)
 exact z69 (T:=169) zfB rfl Go.Proofs.Tryz.insW Tryz.isAgg169 (by unfold zq; exact Tryz.sizeOf169) call309 zig zcX (λc=>zX) ztQ
open Go.Proofs Go.RowKit
def zcx (x:yD) (m:Int):Bool×yD:=(decide (SortOK zX x)&&(decide (m=x.length)&&decide (m<20)),zod zX x)
def zmh:Ab.Spec ty:=zi (cx:=base) (zg (zpX 169) (zg (zh (zg0 .i64)) (zg (zh (vFn 172 zcX)) zC))) λx=>((zcx x.1 x.2.1).1,⟨[],[some ⟨169,(zcx x.1 x.2.1).2⟩]⟩)
set_option maxHeartbeats 1000000 in
theorem zwv:SdP 308 zmh where
 enters:=call308
 calls:=λavs r hsp w F vs hF ha hsep=>by
  unfold zmh zi at hsp;split at hsp
  ·rename_i x hx;simp only [qa,qb] at hsp;obtain ⟨hpre,rfl⟩:=hsp;have hk:=(zg (zpX 169) (zg (zh (zg0 .i64)) (zg (zh (vFn 172 zcX)) zC)):AL base _).kind vs avs x hx;have ha':=(zg (zpX 169) (zg (zh (zg0 .i64)) (zg (zh (vFn 172 zcX)) zC)):AL base _).ok Tryz.prog zfB F w vs avs x hx ha;rw [hk] at hsep ⊢;clear hk hx ha;obtain ⟨l0,m,c,u0⟩:=x;obtain ⟨l,rfl⟩:∃ l:yD,l=l0:=⟨l0,rfl⟩;obtain ⟨v,vs',rfl,hv,hv'⟩:=ha'.inv;obtain ⟨mv,vs1,rfl,hm,hv1⟩:=hv'.inv;obtain ⟨fv,vs'',rfl,hfv,h0⟩:=hv1.inv;obtain rfl:=h0.nil_left.1;have hm:Rep base F w mv (.lit (.int .i64 m)):=hm;obtain rfl:mv=.int .i64 m:=by cases hm; rfl
   have hsl:∃ p cap,v=.slice p l.length cap:=by
    obtain ⟨⟨xs,hown,_⟩,_⟩:=(show zdk base F w v 169 l/\∀ b,zbb v=some b->¬ F b from hv)
    rcases hown.2 with ⟨h1,h2⟩ | ⟨g0,cap,cur,h1,_⟩
    ·exact ⟨none,0,by rw [h1,show l.length=0 from h2]⟩
    ·exact ⟨_,cap,h1⟩
   have hpre:(decide (SortOK (α:=Wd) zX l)&&(decide (m=l.length)&&decide (m<20)))=true:=hpre;simp only [qc,qe] at hpre;obtain ⟨hok,rfl,h20⟩:=hpre
   have hpp:(zgD l 0 (l.length:Int)).1=true:=by
    show (decide (SortOK (α:=Wd) zX l)&&(decide ((0:Int)=0)&&decide ((l.length:Int)=l.length)))=true;simp only [qc,qe];exact ⟨hok,trivial,trivial⟩
   have hp:=(zsm).calls [.own 169 l,.pure (.lit (.int .i64 0)),.pure (.lit (.int .i64 (l.length:Int))),.pure (.fn 172 [])] ⟨[],[some ⟨169,(zcx l (l.length:Int)).2⟩]⟩
    (by rw [<- hpp]; kernel_rfl) w F [v,.int .i64 0,.int .i64 (l.length:Int),fv] hF (.cons hv (.cons (Rep.lit _) (.cons (Rep.lit _) (.cons hfv .nil)))) hsep
   replace hp:Calls Tryz.prog 309 #[v,.int .i64 0,.int .i64 (l.length:Int),fv] w λe w'=>∃ u,e=.returned u/\Post base F w [v] ⟨[],[some ⟨169,(zcx l (l.length:Int)).2⟩]⟩ u w':=hp
   show Calls Tryz.prog 308 #[v,.int .i64 (l.length:Int),fv] w λe w'=>∃ u,e=.returned u/\Post base F w [v] ⟨[],[some ⟨169,(zcx l (l.length:Int)).2⟩]⟩ u w'
   generalize (zcx l (l.length:Int)).2=res at hp ⊢;generalize hn:l.length=m at *;clear hpp hv hfv hsep hok hF hm;obtain ⟨p,cap,rfl⟩:=hsl;clear hn
   go_enter func308,ntmps308
   go_wp2
   refine wp_loop_rounds 1 ?_;rw [rounds_succ]
   go_wp2_with (go_at_call 309; refine hp.mono ?_; rintro e w' ⟨u,rfl,hpost⟩; obtain rfl:=hpost.unit)
   refine wp_loop_rounds 1 ?_;rw [rounds_succ]
   go_wp2
   all_goals first | (exfalso; omega) | (go_end0; exact ⟨_,rfl,hpost⟩)
  ·cases hsp
end Go.Proofs.YtoknknbmfmddbaaGreatDoor
namespace Go.Proofs.YtoknknbmfmddbaaGreatDoor
open Go Go.Ab
open Go.Proofs Go.RowKit
open Go.Proofs.Tryz
def zZ (x:yD):Bool×yD:=(decide (SortOK zX x)&&decide (x.length<20),zod zX x)
def zdZ:Ab.Spec ty:=zi (cx:=base) (zg (zpX 169) (zg (zh (vFn 172 zcX)) zC)) λx=>((zZ x.1).1,⟨[],[some ⟨169,(zZ x.1).2⟩]⟩)
set_option maxHeartbeats 1000000 in
theorem znD:SdP 302 zdZ where
 enters:=call302
 calls:=λavs r hsp w F vs hF ha hsep=>by
  unfold zdZ zi at hsp;split at hsp
  ·rename_i x hx;simp only [qa,qb] at hsp;obtain ⟨hpre,rfl⟩:=hsp;have hk:=(zg (zpX 169) (zg (zh (vFn 172 zcX)) zC):AL base _).kind vs avs x hx;have ha':=(zg (zpX 169) (zg (zh (vFn 172 zcX)) zC):AL base _).ok Tryz.prog zfB F w vs avs x hx ha;rw [hk] at hsep ⊢;clear hk hx ha;obtain ⟨l0,c,u0⟩:=x;obtain ⟨l,rfl⟩:∃ l:yD,l=l0:=⟨l0,rfl⟩;obtain ⟨v,vs',rfl,hv,hv'⟩:=ha'.inv;obtain ⟨fv,vs'',rfl,hfv,h0⟩:=hv'.inv;obtain rfl:=h0.nil_left.1
   have hsl:∃ p cap,v=.slice p l.length cap:=by
    obtain ⟨⟨xs,hown,_⟩,_⟩:=(show zdk base F w v 169 l/\∀ b,zbb v=some b->¬ F b from hv)
    rcases hown.2 with ⟨h1,h2⟩ | ⟨g0,cap,cur,h1,_⟩
    ·exact ⟨none,0,by rw [h1,show l.length=0 from h2]⟩
    ·exact ⟨_,cap,h1⟩
   have hpre:(decide (SortOK (α:=Wd) zX l)&&decide (l.length<20))=true:=hpre;simp only [qc,qe] at hpre;obtain ⟨hok,h20⟩:=hpre
   have hpp:(zcx l (l.length:Int)).1=true:=by
    show (decide (SortOK (α:=Wd) zX l)&&(decide ((l.length:Int)=l.length)&&decide ((l.length:Int)<20)))=true;simp only [qc,qe];exact ⟨hok,trivial,by omega⟩
   have hp:=(zwv).calls [.own 169 l,.pure (.lit (.int .i64 (l.length:Int))),.pure (.fn 172 [])] ⟨[],[some ⟨169,(zZ l).2⟩]⟩
    (by rw [<- hpp]; kernel_rfl) w F [v,.int .i64 (l.length:Int),fv] hF (.cons hv (.cons (Rep.lit _) (.cons hfv .nil))) hsep
   replace hp:Calls Tryz.prog 308 #[v,.int .i64 (l.length:Int),fv] w λe w'=>∃ u,e=.returned u/\Post base F w [v] ⟨[],[some ⟨169,(zZ l).2⟩]⟩ u w':=hp
   show Calls Tryz.prog 302 #[v,fv] w λe w'=>∃ u,e=.returned u/\Post base F w [v] ⟨[],[some ⟨169,(zZ l).2⟩]⟩ u w'
   generalize (zZ l).2=res at hp ⊢;generalize hn:l.length=m at *;clear hpp hv hfv hsep hok hF;obtain ⟨p,cap,rfl⟩:=hsl;clear hn
   go_enter func302,ntmps302
   go_wp2_with (go_at_call 308; refine hp.mono ?_; rintro e w' ⟨u,rfl,hpost⟩; obtain rfl:=hpost.unit)
   go_end0
   exact ⟨_,rfl,hpost⟩
  ·cases hsp
end Go.Proofs.YtoknknbmfmddbaaGreatDoor
namespace Go.Proofs.YtoknknbmfmddbaaGreatDoor
open Go Go.Ab
open Go.Proofs.Tryz
abbrev zrJ:=Unit×yD×Int×Int×Unit
abbrev zma:=yD×Unit
def zmn (t6:yD) (t7:Int) (t8:Int) (out_:yD):Wy zrJ zma (yD):=.i (decide (t8<t7)) (.i (decide (0<=t8)&&decide (t8<Int.ofNat t6.length)) (.i (decide (Int.ofNat (t6.getD t8.toNat default).Ann.length>0)) (.bn (zho (t6.getD t8.toNat default).Ann) λr0=>.i (decide ((out_.length+[WO.mk (t6.getD t8.toNat default).Value r0].length)*56<=zG)) (.h ((),t6,t7,(IntKind.i64.wrap (t8+1)),()) ((out_++[WO.mk (t6.getD t8.toNat default).Value r0]),())) .d) (.h ((),t6,t7,(IntKind.i64.wrap (t8+1)),()) (out_,()))) .d) (.k out_)
def zxw (x:zrJ) (y:zma):=zmn x.2.1 x.2.2.1 x.2.2.2.1 y.1
def zEb (n:Nat) (t6:yD) (t7:Int) (t8:Int) (out_:yD):=zA (zxw) default n ((),t6,t7,t8,()) (out_,())
def zP8 (r:yD):LTree ty:=.done (.exit 0) [.own 116] [.arr 169 r false]
def zRP:LL ty zrJ:=za (zeZ 116) (za (lSl 169) (za zj (za zj zr)))
def zRV:BL ty zma:=ze2 169 false (zbD)
def zQh (x:zrJ) (y:zma):Nat:=(x.2.1.length+Int.toNat x.2.2.1+Int.toNat x.2.2.2.1+y.1.length+1)
def zD3:=zc6 base 29 [(141,zg8),(172,zfX),(302,zdZ)] [(302,[true,false])] [(3,[(3,.own 169),(6,.keep),(7,.keep),(8,.keep)])] [(3,1,(kpL [3]))] [(3,spW zRP zRV (zxw) default zP8 zQh)] []
theorem zPh:zS zD3 (lp (body f280) 0):=zI (id:=3) (hl:=rfl)
def zGn (l:yD):Wy0 (yD):=.bn (zEb (l.length+(Int.ofNat l.length).toNat +Int.toNat 0+0+1) l (Int.ofNat l.length) 0 []) λr3=>.bn (zZ r3) λr2=>.k r2
def zrA (l:yD):=(zGn l).fin default
def zP0 (r:yD):ARes ty:=⟨[.own 169 r],[]⟩
def zUM:AL base zma:=zg (zh (vSl 169)) zC
def zBK:=zi zUM λx=>((zrA x.1).1,zP0 (zrA x.1).2)
theorem zMM:SdP 280 zBK:=
 sT (cx':=zD3) (zm ⟨zjw,zig,znD,trivial⟩) call280 func280 (lOK (aC zPh aN)) (sg:=⟨[.own 169],[]⟩)
def zOY:=zbN base 7 [(52,zcr)]
def zDk (w:Wd):Wy0 (Bool):=.bn (zb9 w.Ann) λr0=>.k (!r0)
def znz (w:Wd):=(zDk w).fin default
def zl8:=zi zII λx=>((znz x.1).1,zSj (znz x.1).2)
theorem zre:SdP 279 zl8:=
 sT (cx':=zOY) (zm ⟨zcz,trivial⟩) call279 func279 (lOK aN)
def zR7:=zbN base 28 []
def zF9 (op:Int) (sign:Int):Wy0 (Bool):=.i (op==5) (.k (sign==0)) (.i (op==6) (.k (sign != 0)) (.i (op==7) (.k (decide (sign<0))) (.i (op==8) (.k (decide (sign<=0))) (.i (op==9) (.k (decide (sign>0))) (.k (decide (sign≥0)))))))
def zq0 (op:Int) (sign:Int):=(zF9 op sign).fin default
def zCa:=zi zSe λx=>((zq0 x.1 x.2.1).1,zSj (zq0 x.1 x.2.1).2)
theorem zNb:SdP 281 zCa:=
 sT (cx':=zR7) (zm trivial) call281 func281 (lOK aN)
abbrev zdI:=yD×Unit×Int×Int×Unit
def zqM (s:yD) (t7:Int) (t8:Int):Wy zdI Unit (Int⊕Unit):=.i (decide (t8<t7)) (.i (decide (0<=t8)&&decide (t8<Int.ofNat s.length)) (.bn (znz (s.getD t8.toNat default)) λr0=>.i (r0) (.k (.inl t8)) (.h (s,(),t7,(IntKind.i64.wrap (t8+1)),()) ())) .d) (.k (.inr ()))
def zh6 (x:zdI) (y:Unit):=zqM x.1 x.2.2.1 x.2.2.2.1
def zqv (n:Nat) (s:yD) (t7:Int) (t8:Int):=zA (zh6) (.inl default) n (s,(),t7,t8,()) ()
def zqN:LL ty zdI:=za (lSl 169) (za (lFn 279 (zr)) (za zj (za zj zr)))
def zp8 (x:zdI) (y:Unit):Nat:=(x.1.length+Int.toNat x.2.2.1+Int.toNat x.2.2.2.1+1)
def zh9:=zc6 base 19 [(279,zl8)] [] [(2,(kpL [0,1,7,8]))] [(2,1,[]),(2,0,(kpL [4]))] [(2,spW zqN z2k (zh6) (.inl default) zsy zp8)] []
theorem zpJ:zS zh9 (lp (body f228) 0):=zI (id:=2) (hl:=rfl)
def zrp (s:yD):Wy0 (Int):=.bn (zqv (s.length+(Int.ofNat s.length).toNat +Int.toNat 0+1) s (Int.ofNat s.length) 0) λr2=>.i (isL r2) (.k (getL r2)) (.k (-1:Int))
def zdi (s:yD):=(zrp s).fin default
def zrF:AL base (yD×Unit×Unit):=zg (zh (vSl 169)) (zg (zh (vFn 279 zcX)) zC)
def zht:=zi zrF λx=>((zdi x.1).1,zNi (zdi x.1).2)
theorem zoL:SdP 228 zht:=
 sT (cx':=zh9) (zm ⟨zre,trivial⟩) call228 func228 (lOK (aC zpJ aN))
def zoQ:=zbN base 9 [(228,zht),(279,zl8)]
def zhv (s:yD):Wy0 (Bool):=.bn (zdi s) λr0=>.k (decide (r0≥0))
def zb8 (s:yD):=(zhv s).fin default
def zgi:=zi zrF λx=>((zb8 x.1).1,zSj (zb8 x.1).2)
theorem zmW:SdP 178 zgi:=
 sT (cx':=zoQ) (zm ⟨zoL,zre,trivial⟩) call178 func178 (lOK aN)
def zTG:=zbN base 45 [(117,zhj),(124,ze0),(178,zgi),(181,zsq),(195,zmQ),(278,zrH),(279,zl8),(280,zBK),(281,zCa)]
def zHD (fn:Int) (items:yD) (op:Int) (bound:Value):Wy0 (yB×Int):=.bn (zkK fn items op bound) λr5=>.i (!r5) (.k ([],1)) (.bn (zb8 items) λr4=>.i (r4) (.k ([],1)) (.bn (zrA items) λr3=>.i (decide (Int.ofNat r3.length>0)) (.bn (zeA (zfL (At.mk 4 (RowID.mk 0 0) [] fn r3 op bound)).2) λr0=>.k (r0.1,r0.2)) (.i (fn==0) (.bn (zjH 0 bound.Int) λr2=>.bn (zq0 op r2) λr1=>.i (r1) (.k (zuY.2,0)) (.k ([],0))) (.k ([],0)))))
def zol (fn:Int) (items:yD) (op:Int) (bound:Value):=(zHD fn items op bound).fin default
def zDh:=zi zQB λx=>((zol x.1 x.2.1 x.2.2.1 x.2.2.2.1).1,zNs (zol x.1 x.2.1 x.2.2.1 x.2.2.2.1).2)
theorem zO4:SdP 237 zDh:=
 sT (cx':=zTG) (zm ⟨zjq,zf4,zmW,zyh,zsf,zvX,zre,zMM,zNb,trivial⟩) call237 func237 (lOK aN) (sg:=⟨[.own 107,.pure],[]⟩)
abbrev zkP:=((yE×Unit)×Unit)×Unit×Unit×yA×Int×Int×Unit
abbrev zkW:=At×yA×Unit
abbrev zxP:=Int⊕(yE×At×yA)
abbrev zkQ:=((yE×Unit)×Unit)×Unit×Unit×yD×Int×Int×Unit
abbrev zkO:=At×yD×Unit
abbrev zxZ:=Int⊕(At×yD)
def znK (zP:yB->yE->Bool×(yB×Int)) (to:yE) (t24:yA) (t25:Int) (t26:Int) (x_:At) (args:yA):Wy zkP zkW zxP:=.i (decide (t26<t25)) (.i (decide (0<=t26)&&decide (t26<Int.ofNat t24.length)) (.bn (zP (t24.getD t26.toNat default) to) λr2=>.i (r2.2 != 0) (.k (.inl (r2.2))) (.i (decide ((args.length+[r2.1].length)*24<=zG)) (.h (((to,()),()),(),(),t24,t25,(IntKind.i64.wrap (t26+1)),()) (x_,(args++[r2.1]),())) .d)) .d) (.k (.inr (to,x_,args)))
def zvq (zP:yB->yE->Bool×(yB×Int)) (x:zkP) (y:zkW):=znK zP x.1.1.1 x.2.2.2.1 x.2.2.2.2.1 x.2.2.2.2.2.1 y.1 y.2.1
def zjV (zP:yB->yE->Bool×(yB×Int)) (n:Nat) (to:yE) (t24:yA) (t25:Int) (t26:Int) (x_:At) (args:yA):=zA (zvq zP) (.inl default) n (((to,()),()),(),(),t24,t25,t26,()) (x_,args,())
def zE1 (r:zxP):LTree ty:=.ite (isL r) (.done .ret [.lit (.slice none 0 0),.lit (.int .i64 (getL r))] []) (.done (.exit 0) [.fn 138 ([.bptr ([.sl 65 (getR r).1]) 0]),.ptr 432 0,.own 433] [.box (base.enc 143 (getR r).2.1) false,.arr 51 (getR r).2.2 false])
def zGC:LL ty zkP:=za (lFn 138 (za (zGf (za (lSl 65) zr) 0) zr)) (za (zfi 432 0) (za (zeZ 433) (za (lSl 51) (za zj (za zj zr)))))
def zF2:BL ty zkW:=ziu (zg7 (λx=>(⟨x.1,⟨x.2.1,x.2.2.1⟩,x.2.2.2.1,x.2.2.2.2.1,x.2.2.2.2.2.1,x.2.2.2.2.2.2.1,⟨x.2.2.2.2.2.2.2.1,x.2.2.2.2.2.2.2.2.1,x.2.2.2.2.2.2.2.2.2.1⟩⟩:At)) (λx=>(x.Kind,x.Row.Table,x.Row.Seq,x.Ag,x.Func,x.Items,x.Op,x.Bd.Kind,x.Bd.Int,x.Bd.Text,())) (λ_=>rfl) (za (zbL .i64) (za (zbL .i64) (za (zbL .i64) (za (lSl 51) (za (zbL .i64) (za (lSl 169) (za (zbL .i64) (za (zbL .i64) (za (zbL .i64) (za zG5 zr))))))))))) false (ze2 51 false (zbD))
def zmD (zP:yB->yE->Bool×(yB×Int)) (to:yE) (t74:yD) (t75:Int) (t76:Int) (x_:At) (items:yD):Wy zkQ zkO zxZ:=.i (decide (t76<t75)) (.i (decide (0<=t76)&&decide (t76<Int.ofNat t74.length)) (.bn (zP (t74.getD t76.toNat default).Ann to) λr4=>.i (r4.2 != 0) (.k (.inl (r4.2))) (.i (decide ((items.length+[WO.mk (t74.getD t76.toNat default).Value r4.1].length)*56<=zG)) (.h (((to,()),()),(),(),t74,t75,(IntKind.i64.wrap (t76+1)),()) (x_,(items++[WO.mk (t74.getD t76.toNat default).Value r4.1]),())) .d)) .d) (.k (.inr (x_,items)))
def zux (zP:yB->yE->Bool×(yB×Int)) (x:zkQ) (y:zkO):=zmD zP x.1.1.1 x.2.2.2.1 x.2.2.2.2.1 x.2.2.2.2.2.1 y.1 y.2.1
def zjk (zP:yB->yE->Bool×(yB×Int)) (n:Nat) (to:yE) (t74:yD) (t75:Int) (t76:Int) (x_:At) (items:yD):=zA (zux zP) (.inl default) n (((to,()),()),(),(),t74,t75,t76,()) (x_,items,())
def zDX (r:zxZ):LTree ty:=.ite (isL r) (.done .ret [.lit (.slice none 0 0),.lit (.int .i64 (getL r))] []) (.done (.exit 3) [.ptr 432 0,.own 433] [.box (base.enc 143 (getR r).1) false,.arr 169 (getR r).2 false])
def zEm:LL ty zkQ:=za (lFn 138 (za (zGf (za (lSl 65) zr) 0) zr)) (za (zfi 432 0) (za (zeZ 433) (za (lSl 169) (za zj (za zj zr)))))
def zEz:BL ty zkO:=ziu (zg7 (λx=>(⟨x.1,⟨x.2.1,x.2.2.1⟩,x.2.2.2.1,x.2.2.2.2.1,x.2.2.2.2.2.1,x.2.2.2.2.2.2.1,⟨x.2.2.2.2.2.2.2.1,x.2.2.2.2.2.2.2.2.1,x.2.2.2.2.2.2.2.2.2.1⟩⟩:At)) (λx=>(x.Kind,x.Row.Table,x.Row.Seq,x.Ag,x.Func,x.Items,x.Op,x.Bd.Kind,x.Bd.Int,x.Bd.Text,())) (λ_=>rfl) (za (zbL .i64) (za (zbL .i64) (za (zbL .i64) (za (lSl 51) (za (zbL .i64) (za (lSl 169) (za (zbL .i64) (za (zbL .i64) (za (zbL .i64) (za zG5 zr))))))))))) false (ze2 169 false (zbD))
def zEy (x:zkP) (y:zkW):Nat:=(x.1.1.1.length+x.2.2.2.1.length+Int.toNat x.2.2.2.2.1+Int.toNat x.2.2.2.2.2.1+y.1.Ag.length+y.1.Items.length+y.2.1.length+1)
def zDM (x:zkQ) (y:zkO):Nat:=(x.1.1.1.length+x.2.2.2.1.length+Int.toNat x.2.2.2.2.1+Int.toNat x.2.2.2.2.2.1+y.1.Ag.length+y.1.Items.length+y.2.1.length+1)
def znc (zP:yB->yE->Bool×(yB×Int)):=zc6 zbp 108 [(137,(zlf zP)),(138,ziq),(234,zBS),(235,zB8),(236,zA2),(237,zDh)] [] [(5,[(1,.keep),(2,.keep),(6,.own 51),(24,.keep),(25,.keep),(26,.keep)]),(21,[(1,.keep),(2,.keep),(11,.own 169),(74,.keep),(75,.keep),(76,.keep)])] [(5,1,(kpL [1,2,6])),(5,0,(kpL [4,5])),(21,4,(kpL [2,11])),(21,0,(kpL [4,5]))] [(5,spW zGC zF2 (zvq zP) (.inl default) zE1 zEy),(21,spW zEm zEz (zux zP) (.inl default) zDX zDM)] []
theorem zEw (zP:yB->yE->Bool×(yB×Int)):zS (znc zP) (lp (body f198) 0):=zI (id:=5) (hl:=rfl)
theorem zDS (zP:yB->yE->Bool×(yB×Int)):zS (znc zP) (lp (body f198) 1):=zI (id:=21) (hl:=rfl)
def zwK (zP:yB->yE->Bool×(yB×Int)) (x_:At) (to:yE):Wy0 (yB×Int):=.i (x_.Kind==0) (.bn (ziy x_.Row to) λr6=>.k (r6,0)) (.bn (zjV zP (to.length+x_.Ag.length+(Int.ofNat x_.Ag.length).toNat +Int.toNat 0+x_.Ag.length+x_.Items.length+0+1) to x_.Ag (Int.ofNat x_.Ag.length) 0 (At.mk x_.Kind x_.Row x_.Ag x_.Func x_.Items x_.Op x_.Bd) []) λr12=>.i (isL r12) (.k ([],getL r12)) (.i ((getR r12).2.1.Kind==1) (.i (decide ((0:Int)<=(0:Int))&&decide (0<Int.ofNat (getR r12).2.2.length)) (.i (decide ((0:Int)<=(1:Int))&&decide (1<Int.ofNat (getR r12).2.2.length)) (.bn (zqU ((getR r12).2.2.getD (Int.toNat 0) default) ((getR r12).2.2.getD (Int.toNat 1) default)) λr7=>.k (r7.1,r7.2)) .d) .d) (.i ((getR r12).2.1.Kind==2) (.i (decide ((0:Int)<=(0:Int))&&decide (0<Int.ofNat (getR r12).2.2.length)) (.bn (zrC ((getR r12).2.2.getD (Int.toNat 0) default)) λr8=>.k (r8.1,r8.2)) .d) (.i ((getR r12).2.1.Kind==3) (.i (decide ((0:Int)<=(0:Int))&&decide (0<Int.ofNat (getR r12).2.2.length)) (.bn (zo9 ((getR r12).2.2.getD (Int.toNat 0) default)) λr9=>.k (r9.1,r9.2)) .d) (.bn (zjk zP ((getR r12).1.length+(getR r12).2.1.Items.length+(Int.ofNat (getR r12).2.1.Items.length).toNat +Int.toNat 0+(getR r12).2.1.Ag.length+(getR r12).2.1.Items.length+0+1) (getR r12).1 (getR r12).2.1.Items (Int.ofNat (getR r12).2.1.Items.length) 0 (At.mk (getR r12).2.1.Kind (getR r12).2.1.Row (getR r12).2.1.Ag (getR r12).2.1.Func (getR r12).2.1.Items (getR r12).2.1.Op (getR r12).2.1.Bd) []) λr11=>.i (isL r11) (.k ([],getL r11)) (.bn (zol (getR r11).1.Func (getR r11).2 (getR r11).1.Op (getR r11).1.Bd) λr10=>.k (r10.1,r10.2)))))))
def zix (zP:yB->yE->Bool×(yB×Int)) (x_:At) (to:yE):=(zwK zP x_ to).fin default
theorem zDJ (zP:yB->yE->Bool×(yB×Int)) (zMB:Sound Tryz.prog zbp 137 (zlf zP)):Sound Tryz.prog zbp 198 (zlb (zix zP)):=
 sU (cx':=(znc zP)) (zm ⟨zMB,zlk.nodr,zNa.nodr,zMt.nodr,zLp.nodr,zO4.nodr,trivial⟩) call198 func198 (lOK (aC (zEw zP) (aC (zDS zP) aN))) (sg:=⟨[.own 107,.pure],[]⟩)
def zFe:Nat->(yB->yE->Bool×(yB×Int))×(At->yE->Bool×(yB×Int))
 | 0=>(λ_ _=>(false,default),λ_ _=>(false,default))
 | n+1=>(zlu ((zFe n).2),zix ((zFe n).1))
def zlh (n:Nat):yB->yE->Bool×(yB×Int):=(zFe n).1
def ziz (n:Nat):At->yE->Bool×(yB×Int):=(zFe n).2
theorem zLi (n:Nat):zlh (n+1)=zlu (ziz n):=rfl
theorem zGg (n:Nat):ziz (n+1)=zix (zlh n):=rfl
theorem zRl:∀ n,Sound Tryz.prog zbp 137 (zlf (zlh n))/\Sound Tryz.prog zbp 198 (zlb (ziz n))
 | 0=>⟨zbQ call137 (λ_=>rfl),zbQ call198 (λ_=>rfl)⟩
 | n+1=>by
  have ih:=zRl n;exact ⟨zHj _ (ih.2),zDJ _ (ih.1)⟩
def zyL:yB->yE->Bool×(yB×Int):=zlh 1000
def zzT:Ab.Spec ty:=zlf zyL
theorem zJR:Sound Tryz.prog zbp 137 zzT:=(zRl 1000).1
def zGa:=zbN base 7 [(52,zcr)]
def zwo (b:Bg):Wy0 (Bool):=.bn (zb9 b.To) λr0=>.k (!r0)
def ziQ (b:Bg):=(zwo b).fin default
def zHf:AL base (Bg×Unit):=zg (zh (zda 65)) zC
def zih:=zi zHf λx=>((ziQ x.1).1,zSj (ziQ x.1).2)
theorem zll:SdP 136 zih:=
 sT (cx':=zGa) (zm ⟨zcz,trivial⟩) call136 func136 (lOK aN)
abbrev zd2:=yE×Unit×Int×Int×Unit
def zrZ (s:yE) (t7:Int) (t8:Int):Wy zd2 Unit (Int⊕Unit):=.i (decide (t8<t7)) (.i (decide (0<=t8)&&decide (t8<Int.ofNat s.length)) (.bn (ziQ (s.getD t8.toNat default)) λr0=>.i (r0) (.k (.inl t8)) (.h (s,(),t7,(IntKind.i64.wrap (t8+1)),()) ())) .d) (.k (.inr ()))
def ziX (x:zd2) (y:Unit):=zrZ x.1 x.2.2.1 x.2.2.2.1
def zrV (n:Nat) (s:yE) (t7:Int) (t8:Int):=zA (ziX) (.inl default) n (s,(),t7,t8,()) ()
def zrU:LL ty zd2:=za (lSl 65) (za (lFn 136 (zr)) (za zj (za zj zr)))
def zqV (x:zd2) (y:Unit):Nat:=(x.1.length+Int.toNat x.2.2.1+Int.toNat x.2.2.2.1+1)
def zi0:=zc6 base 19 [(136,zih)] [] [(2,(kpL [0,1,7,8]))] [(2,1,[]),(2,0,(kpL [4]))] [(2,spW zrU z2k (ziX) (.inl default) zsy zqV)] []
theorem zrB:zS zi0 (lp (body f139) 0):=zI (id:=2) (hl:=rfl)
def zss (s:yE):Wy0 (Int):=.bn (zrV (s.length+(Int.ofNat s.length).toNat +Int.toNat 0+1) s (Int.ofNat s.length) 0) λr2=>.i (isL r2) (.k (getL r2)) (.k (-1:Int))
def zdH (s:yE):=(zss s).fin default
def zsc:AL base (yE×Unit×Unit):=zg (zh (vSl 65)) (zg (zh (vFn 136 zcX)) zC)
def zh5:=zi zsc λx=>((zdH x.1).1,zNi (zdH x.1).2)
theorem zp3:SdP 139 zh5:=
 sT (cx':=zi0) (zm ⟨zll,trivial⟩) call139 func139 (lOK (aC zrB aN))
def zqe:=zbN base 9 [(136,zih),(139,zh5)]
def zh0 (s:yE):Wy0 (Bool):=.bn (zdH s) λr0=>.k (decide (r0≥0))
def zcd (s:yE):=(zh0 s).fin default
def zgN:=zi zsc λx=>((zcd x.1).1,zSj (zcd x.1).2)
theorem znP:SdP 135 zgN:=
 sT (cx':=zqe) (zm ⟨zll,zp3,trivial⟩) call135 func135 (lOK aN)
def zJH:=zbN zbp 18 [(52,zcr),(135,zgN),(136,zih),(137,zzT),(138,ziq)]
def zzR (a:yB) (l:yE):Wy0 (yB×Int):=.bn (zb9 a) λr2=>.i (!r2) (.k ([],1)) (.bn (zcd l) λr1=>.i (r1) (.k ([],1)) (.bn (zyL a l) λr0=>.k (r0.1,r0.2)))
def zkG (a:yB) (l:yE):=(zzR a l).fin default
def zLb:AL zbp (yB×yE×Unit):=zg (zh (vSl 107)) (zg (zh (vSl 65)) zC)
def zwD:=zi zLb λx=>((zkG x.1 x.2.1).1,zNs (zkG x.1 x.2.1).2)
theorem zFg:Sound Tryz.prog zbp 80 zwD:=
 sU (cx':=zJH) (zm ⟨zcz.nodr,znP.nodr,zll.nodr,zJR,zlk.nodr,trivial⟩) call80 func80 (lOK aN) (sg:=⟨[.own 107,.pure],[]⟩)
def zfa:Cx ty:={ base with nt:=8 }
def zgc (s:yG):Bool×yG:=(decide (s.length*32<=zG),s)
def zms:Ab.Spec ty:=zi (cx:=base) (zg (zh (vSl 79)) zC) λx=>((zgc x.1).1,⟨[.own 79 (zgc x.1).2],[]⟩)
theorem zx7:zeP zfa f62 (body f62) ⟨[.own 79],[]⟩ [.pure (.lit (.slice none 0 0))]=some ⟨[.own 79 []],[]⟩:=by kernel_rfl
theorem zw2 (p:Addr) (c:Nat):zeP zfa f62 (body f62) ⟨[.own 79],[]⟩ [.pure (.lit (.slice (some p) 0 c))]=some ⟨[.own 79 []],[]⟩:=by kernel_rfl
theorem zxy (l:yG):zeP zfa f62 (body f62) ⟨[.own 79],[]⟩ [.pure (.sl 79 l)]=bif !l.isEmpty then bif decide ((([]:List (ty 79)).length+l.length)*32<=zG) then some ⟨[.own 79 l],[]⟩ else none else none:=by kernel_rfl
theorem zwu:SdP 62 zms:=
 zw5 (cx':=zfa) (bytes:=32) zBb zfB ⟨⟨rfl,rfl,rfl,rfl,rfl,rfl⟩,rfl⟩ (λg s h=>by cases h) call62 func62 (c:=body f62) (by kernel_rfl) (zsX (l:=[]) (by kernel_rfl) trivial) zx7 zw2 zxy (by kernel_rfl)
def zT3:=zbN zbp 17 [(62,zms),(80,zwD)]
def zHU (x_:Row) (a:yB):Wy0 (Row):=.bn (zkG a []) λr1=>.bn (zgc x_.Values) λr0=>.k (⟨r0,r1.1⟩:Row)
def zoc (x_:Row) (a:yB):=(zHU x_ a).fin default
def zVs:AL zbp (Row×yB×Unit):=zg (zh (zda 54)) (zg (zh (vSl 107)) zC)
def zDq:=zi zVs λx=>((zoc x.1 x.2.1).1,zR0 (zoc x.1 x.2.1).2)
theorem zOI:Sound Tryz.prog zbp 71 zDq:=
 sU (cx':=zT3) (zm ⟨zwu.nodr,zFg,trivial⟩) call71 func71 (lOK aN)
def zeM:Cx ty:={ base with nt:=8 }
def zce (s:yH):Bool×yH:=(decide (s.length*24<=zG),s)
def zgy:Ab.Spec ty:=zi (cx:=base) (zg (zh (vSl 75)) zC) λx=>((zce x.1).1,⟨[.own 75 (zce x.1).2],[]⟩)
theorem zwn:zeP zeM f61 (body f61) ⟨[.own 75],[]⟩ [.pure (.lit (.slice none 0 0))]=some ⟨[.own 75 []],[]⟩:=by kernel_rfl
theorem zve (p:Addr) (c:Nat):zeP zeM f61 (body f61) ⟨[.own 75],[]⟩ [.pure (.lit (.slice (some p) 0 c))]=some ⟨[.own 75 []],[]⟩:=by kernel_rfl
theorem zv1 (l:yH):zeP zeM f61 (body f61) ⟨[.own 75],[]⟩ [.pure (.sl 75 l)]=bif !l.isEmpty then bif decide ((([]:List (ty 75)).length+l.length)*24<=zG) then some ⟨[.own 75 l],[]⟩ else none else none:=by kernel_rfl
theorem zk7:SdP 61 zgy:=
 zw5 (cx':=zeM) (bytes:=24) zBb zfB ⟨⟨rfl,rfl,rfl,rfl,rfl,rfl⟩,rfl⟩ (λg s h=>by cases h) call61 func61 (c:=body f61) (by kernel_rfl) (zsX (l:=[]) (by kernel_rfl) trivial) zwn zve zv1 (by kernel_rfl)
def zgA:Cx ty:={ base with nt:=8 }
def zfC (s:yF):Bool×yF:=(decide (s.length*48<=zG),s)
def zpn:Ab.Spec ty:=zi (cx:=base) (zg (zh (vSl 54)) zC) λx=>((zfC x.1).1,⟨[.own 54 (zfC x.1).2],[]⟩)
theorem zAZ:zeP zgA f68 (body f68) ⟨[.own 54],[]⟩ [.pure (.lit (.slice none 0 0))]=some ⟨[.own 54 []],[]⟩:=by kernel_rfl
theorem zzy (p:Addr) (c:Nat):zeP zgA f68 (body f68) ⟨[.own 54],[]⟩ [.pure (.lit (.slice (some p) 0 c))]=some ⟨[.own 54 []],[]⟩:=by kernel_rfl
theorem zAx (l:yF):zeP zgA f68 (body f68) ⟨[.own 54],[]⟩ [.pure (.sl 54 l)]=bif !l.isEmpty then bif decide ((([]:List (ty 54)).length+l.length)*48<=zG) then some ⟨[.own 54 l],[]⟩ else none else none:=by kernel_rfl
theorem zzM:SdP 68 zpn:=
 zw5 (cx':=zgA) (bytes:=48) zBb zfB ⟨⟨rfl,rfl,rfl,rfl,rfl,rfl⟩,rfl⟩ (λg s h=>by cases h) call68 func68 (c:=body f68) (by kernel_rfl) (zsX (l:=[]) (by kernel_rfl) trivial) zAZ zzy zAx (by kernel_rfl)
abbrev zfJ:=yF×Unit×Int×Int×Unit
def zws (s:yF) (t7:Int) (t8:Int):Wy zfJ Unit (Int⊕Unit):=.i (decide (t8<t7)) (.i (decide (0<=t8)&&decide (t8<Int.ofNat s.length)) (.i ((zh2 (s.getD t8.toNat default)).2) (.k (.inl t8)) (.h (s,(),t7,(IntKind.i64.wrap (t8+1)),()) ())) .d) (.k (.inr ()))
def zlN (x:zfJ) (y:Unit):=zws x.1 x.2.2.1 x.2.2.2.1
def zwM (n:Nat) (s:yF) (t7:Int) (t8:Int):=zA (zlN) (.inl default) n (s,(),t7,t8,()) ()
def zwi:LL ty zfJ:=za (lSl 54) (za (lFn 69 (zr)) (za zj (za zj zr)))
def zvT (x:zfJ) (y:Unit):Nat:=(x.1.length+Int.toNat x.2.2.1+Int.toNat x.2.2.2.1+1000)
def zlT:=zc6 base 19 [(69,zkj)] [] [(2,(kpL [0,1,7,8]))] [(2,1,[]),(2,0,(kpL [4]))] [(2,spW zwi z2k (zlN) (.inl default) zsy zvT)] []
theorem zwa:zS zlT (lp (body f122) 0):=zI (id:=2) (hl:=rfl)
def zxj (s:yF):Wy0 (Int):=.bn (zwM (s.length+(Int.ofNat s.length).toNat +Int.toNat 0+1000) s (Int.ofNat s.length) 0) λr0=>.i (isL r0) (.k (getL r0)) (.k (-1:Int))
def zdT (s:yF):=(zxj s).fin default
def zxi:AL base (yF×Unit×Unit):=zg (zh (vSl 54)) (zg (zh (vFn 69 zcX)) zC)
def zk5:=zi zxi λx=>((zdT x.1).1,zNi (zdT x.1).2)
theorem zuW:SdP 122 zk5:=
 sT (cx':=zlT) (zm ⟨znM,trivial⟩) call122 func122 (lOK (aC zwa aN))
abbrev zf8:=Unit×Unit×Int×Int×Unit
abbrev zge:=yF×Unit
abbrev zqj:=Int×yF
def zhX (i:Int) (j:Int) (s:yF):Wy zf8 zge zqj:=.i (decide (j<Int.ofNat s.length)) (.i (decide (0<=j)&&decide (j<Int.ofNat s.length)) (.i (!(zh2 (s.getD j.toNat default)).2) (.i (decide (0<=i)&&decide (i<Int.ofNat s.length)) (.i (decide (i.toNat<s.length)) (.h ((),(),(IntKind.i64.wrap (i+1)),(IntKind.i64.wrap (j+1)),()) ((s.set i.toNat (s.getD j.toNat default)),())) .d) .d) (.h ((),(),i,(IntKind.i64.wrap (j+1)),()) (s,()))) .d) (.k (i,s))
def zmJ (x:zf8) (y:zge):=zhX x.2.2.1 x.2.2.2.1 y.1
def zhW (n:Nat) (i:Int) (j:Int) (s:yF):=zA (zmJ) default n ((),(),i,j,()) (s,())
def zxq (r:zqj):LTree ty:=.done (.exit 0) [.own 168,.lit (.int .i64 r.1)] [.arr 54 r.2 false]
def zyf:LL ty zf8:=za (zeZ 168) (za (lFn 69 (zr)) (za zj (za zj zr)))
def zya:BL ty zge:=ze2 54 false (zbD)
def zxv (x:zf8) (y:zge):Nat:=(Int.toNat x.2.2.1+Int.toNat x.2.2.2.1+y.1.length+1000)
def zmM:=zc6 base 42 [(69,zkj),(122,zk5)] [] [(5,(kpL [0,1,5,6]))] [(5,1,(kpL [0,5]))] [(5,spW zyf zya (zmJ) default zxq zxv)] []
theorem zxm:zS zmM (lp (body f67) 0):=zI (id:=5) (hl:=rfl)
def znh (s:yF):Wy0 (yF):=.bn (zdT s) λr1=>.i (r1==(-1:Int)) (.k s) (.bn (zhW (r1.toNat +(IntKind.i64.wrap (r1+1)).toNat +s.length+1000) r1 (IntKind.i64.wrap (r1+1)) s) λr0=>.i (decide (0<=r0.1)&&decide (r0.1<=Int.ofNat r0.2.length)&&decide (Int.ofNat r0.2.length<=Int.ofNat r0.2.length)) (.i (decide (r0.1.toNat +((Int.ofNat r0.2.length).toNat - r0.1.toNat)<=r0.2.length)) (.i (decide ((0:Int)<=(0:Int))&&decide (0<=r0.1)&&decide (r0.1<=Int.ofNat (List.take r0.1.toNat r0.2++List.replicate ((Int.ofNat r0.2.length).toNat - r0.1.toNat) (Row.mk [] [])++List.drop (r0.1.toNat +((Int.ofNat r0.2.length).toNat - r0.1.toNat)) r0.2).length)) (.k (List.take (r0.1.toNat - Int.toNat 0) (List.take r0.1.toNat r0.2++List.replicate ((Int.ofNat r0.2.length).toNat - r0.1.toNat) (Row.mk [] [])++List.drop (r0.1.toNat +((Int.ofNat r0.2.length).toNat - r0.1.toNat)) r0.2))) .d) .d) .d)
def zel (s:yF):=(znh s).fin default
def zxe (r:yF):ARes ty:=⟨[.own 54 r],[none]⟩
def zzc:AL base (yF×Unit×Unit):=zg (zpX 54) (zg (zh (vFn 69 zcX)) zC)
def zlO:=zi zzc λx=>((zel x.1).1,zxe (zel x.1).2)
theorem zwf:SdP 67 zlO:=
 sT (cx':=zmM) (zm ⟨znM,zuW,trivial⟩) call67 func67 (lOK (aC zxm aN)) (sg:=⟨[.own 54],[false]⟩)
def zz8 (r:yF):ARes ty:=⟨[],[some ⟨54,r⟩]⟩
def zBl:AL base (yF×Int×Int×Int×Unit×Unit):=zg (zpX 54) (zg (zh (zg0 .i64)) (zg (zh (zg0 .i64)) (zg (zh (zg0 .i64)) (zg (zh (vFn 53 zcX)) zC))))
def zeI (F:yF->Int->Int->Int->Bool×yF):Ab.Spec ty:=zi zBl λx=>((F x.1 x.2.1 x.2.2.1 x.2.2.2.1).1,zz8 (F x.1 x.2.1 x.2.2.1 x.2.2.2.1).2)
abbrev zgE:=Unit×Int×Int×Int×Int×Unit
abbrev zgC:=yF×Unit
def zej (a:Int) (b:Int) (n_:Int) (i:Int) (data:yF):Wy zgE zgC (yF):=.i (decide (i<n_)) (.i (decide (0<=IntKind.i64.wrap (b+i))&&decide (IntKind.i64.wrap (b+i)<Int.ofNat data.length)) (.i (decide (0<=IntKind.i64.wrap (a+i))&&decide (IntKind.i64.wrap (a+i)<Int.ofNat data.length)) (.i (decide (0<=IntKind.i64.wrap (a+i))&&decide (IntKind.i64.wrap (a+i)<Int.ofNat data.length)) (.i (decide ((IntKind.i64.wrap (a+i)).toNat<data.length)) (.i (decide (0<=IntKind.i64.wrap (b+i))&&decide (IntKind.i64.wrap (b+i)<Int.ofNat (data.set (IntKind.i64.wrap (a+i)).toNat (data.getD (IntKind.i64.wrap (b+i)).toNat default)).length)) (.i (decide ((IntKind.i64.wrap (b+i)).toNat<(data.set (IntKind.i64.wrap (a+i)).toNat (data.getD (IntKind.i64.wrap (b+i)).toNat default)).length)) (.h ((),a,b,n_,(IntKind.i64.wrap (i+1)),()) (((data.set (IntKind.i64.wrap (a+i)).toNat (data.getD (IntKind.i64.wrap (b+i)).toNat default)).set (IntKind.i64.wrap (b+i)).toNat (data.getD (IntKind.i64.wrap (a+i)).toNat default)),())) .d) .d) .d) .d) .d) .d) (.k data)
def zjI (x:zgE) (y:zgC):=zej x.2.1 x.2.2.1 x.2.2.2.1 x.2.2.2.2.1 y.1
def zpa (n:Nat) (a:Int) (b:Int) (n_:Int) (i:Int) (data:yF):=zA (zjI) default n ((),a,b,n_,i,()) (data,())
def zzl (r:yF):LTree ty:=.done (.exit 0) [.own 152] [.arr 54 r false]
def zAz:LL ty zgE:=za (zeZ 152) (za zj (za zj (za zj (za zj zr))))
def zAv:BL ty zgC:=ze2 54 false (zbD)
def zzK (x:zgE) (y:zgC):Nat:=(Int.toNat x.2.1+Int.toNat x.2.2.1+Int.toNat x.2.2.2.1+Int.toNat x.2.2.2.2.1+y.1.length+1000)
def zo2:=zc6 base 38 [(53,zdf)] [] [(1,(kpL [0,1,2,3,10]))] [(1,1,(kpL [0]))] [(1,spW zAz zAv (zjI) default zzl zzK)] []
theorem zzI:zS zo2 (lp (body f268) 0):=zI (id:=1) (hl:=rfl)
def zqq (data:yF) (a:Int) (b:Int) (n_:Int):Wy0 (yF):=.bn (zpa (a.toNat +b.toNat +n_.toNat +Int.toNat 0+data.length+1000) a b n_ 0 data) λr0=>.k r0
def zcT (data:yF) (a:Int) (b:Int) (n_:Int):=(zqq data a b n_).fin default
def zAT:AL base (yF×Int×Int×Int×Unit×Unit):=zg (zpX 54) (zg (zh zhY) (zg (zh zhY) (zg (zh zhY) (zg (zh (vFn 53 zcX)) zC))))
def znG:=zi zAT λx=>((zcT x.1 x.2.1 x.2.2.1 x.2.2.2.1).1,zz8 (zcT x.1 x.2.1 x.2.2.1 x.2.2.2.1).2)
theorem zx4:SdP 268 znG:=
 sT (cx':=zo2) (zm ⟨zdN,trivial⟩) call268 func268 (lOK (aC zzI aN)) (sg:=⟨[],[true]⟩)
abbrev zif:=Unit×Int×Unit×Int×Int×Unit
abbrev zii:=yF×Unit
abbrev zt5:=Int×Int×yF
def zkY (m:Int) (i:Int) (j:Int) (data:yF):Wy zif zii zt5:=.i (i != j) (.i (decide (i>j)) (.bn (zcT data (IntKind.i64.wrap (m - i)) m j) λr0=>.h ((),m,(),(IntKind.i64.wrap (i - j)),j,()) ((r0),())) (.bn (zcT data (IntKind.i64.wrap (m - i)) (IntKind.i64.wrap (IntKind.i64.wrap (m+j) - i)) i) λr1=>.h ((),m,(),i,(IntKind.i64.wrap (j - i)),()) ((r1),()))) (.k (m,i,data))
def zr7 (x:zif) (y:zii):=zkY x.2.1 x.2.2.2.1 x.2.2.2.2.1 y.1
def zk3 (n:Nat) (m:Int) (i:Int) (j:Int) (data:yF):=zA (zr7) default n ((),m,(),i,j,()) (data,())
def zBn (r:zt5):LTree ty:=.done (.exit 0) [.own 232,.lit (.int .i64 r.1),.fn 53 ([]),.lit (.int .i64 r.2.1)] [.arr 54 r.2.2 false]
def zCp:LL ty zif:=za (zeZ 232) (za zj (za (lFn 53 (zr)) (za zj (za zj zr))))
def zCr:BL ty zii:=ze2 54 false (zbD)
def zBj (x:zif) (y:zii):Nat:=(Int.toNat x.2.1+Int.toNat x.2.2.2.1+Int.toNat x.2.2.2.2.1+y.1.length+1000)
def zr8:=zc6 base 58 [(53,zdf),(268,znG)] [(268,[true,false,false,false,false])] [(2,(kpL [0,2,4,10,11]))] [(2,1,(kpL [0,2,4,10]))] [(2,spW zCp zCr (zr7) default zBn zBj)] []
theorem zBz:zS zr8 (lp (body f230) 0):=zI (id:=2) (hl:=rfl)
def zs0 (data:yF) (a:Int) (m:Int) (b:Int):Wy0 (yF):=.bn (zk3 (m.toNat +(IntKind.i64.wrap (m - a)).toNat +(IntKind.i64.wrap (b - m)).toNat +data.length+1000) m (IntKind.i64.wrap (m - a)) (IntKind.i64.wrap (b - m)) data) λr5=>.bn (zcT r5.2.2 (IntKind.i64.wrap (r5.1 - r5.2.1)) r5.1 r5.2.1) λr4=>.k r4
def zdD (data:yF) (a:Int) (m:Int) (b:Int):=(zs0 data a m b).fin default
def zql:=zi zAT λx=>((zdD x.1 x.2.1 x.2.2.1 x.2.2.2.1).1,zz8 (zdD x.1 x.2.1 x.2.2.1 x.2.2.2.1).2)
theorem zAg:SdP 230 zql:=
 sT (cx':=zr8) (zm ⟨zdN,zx4,trivial⟩) call230 func230 (lOK (aC zBz aN)) (sg:=⟨[],[true]⟩)
end Go.Proofs.YtoknknbmfmddbaaGreatDoor
end
