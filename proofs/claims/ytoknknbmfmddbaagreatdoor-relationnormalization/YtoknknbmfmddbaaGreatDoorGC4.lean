/- Texts of this claim, joined (the program, its functions in plain words, and what they compute). -/
import Derived.Test.YtoknknbmfmddbaaGreatDoorGC3
set_option autoImplicit false
set_option linter.unusedVariables false
set_option linter.unusedSectionVars false
set_option linter.unusedSimpArgs false
set_option maxRecDepth 1000000
set_option maxHeartbeats 0
noncomputable section
namespace Go.Proofs.YtoknknbmfmddbaaGreatDoor
open Go Go.Ab
open Go.Proofs.Tryz
def zTC:=zbv base 9 []
def zHo (n_:Int):Wy0 (yB):=.i (decide (n_<1)) (.k []) (.k [TO.mk (if 1152921504606846976<n_ then 1152921504606846976 else n_) []])
def zqO (n_:Int):=(zHo n_).fin default
def zCi:=zh zYC λx=>((zqO x.1).1,z3K (zqO x.1).2)
theorem zOc:SdP 197 zCi:=
 sT (cx':=zTC) (zi trivial) call197 func197 (lOK aN) (sg:=⟨[.own 107],[]⟩)
def zyh:=zbv base 27 []
def zm7 (n_:Int):Wy0 (yC):=.i (decide (n_<0)) .d (.i (decide (IntKind.i64.wrap (n_ - IntKind.i64.wrap (0 - 0))>0)) (.i (decide (0<IntKind.i64.wrap (n_ - IntKind.i64.wrap (0 - 0)))&&(decide (IntKind.i64.wrap (n_ - IntKind.i64.wrap (0 - 0))*Int.ofNat 128<=Int.ofNat zA)&&(decide (IntKind.i64.wrap (n_ - IntKind.i64.wrap (0 - 0))<=Int.ofNat zA)&& !Nat.beq 11 0))) (.k (List.take (Int.toNat 0 - Int.toNat 0) (List.replicate (IntKind.i64.wrap (n_ - IntKind.i64.wrap (0 - 0))).toNat (FO.mk (At.mk 0 (RowID.mk 0 0) [] 0 [] 0 (Value.mk 0 0 (ByteArray.mk #[]))) 0)))) .d) (.k []))
def zea (n_:Int):=(zm7 n_).fin default
def zxs (r:yC):ARes ty:=⟨[.own 145 r],[]⟩
def zly:=zh zyg λx=>((zea x.2.1).1,zxs (zea x.2.1).2)
theorem zvU:SdP 303 zly:=
 sT (cx':=zyh) (zi trivial) call303 func303 (lOK aN) (sg:=⟨[.own 145],[]⟩)
abbrev zfb:=List (yC)×Int×List (yC)×Int×Int×Unit
abbrev zn7:=List (yC)×Int
abbrev ze4:=Unit×List (yC)×Int×Int×Unit
abbrev ze2:=yC×Unit
def zc4 (slices:List (yC)) (size:Int) (t9:List (yC)) (t10:Int) (t11:Int):Wy zfb Unit zn7:=.i (decide (t11<t10)) (.i (decide (0<=t11)&&decide (t11<Int.ofNat t9.length)) (.i (decide (IntKind.i64.wrap (size+Int.ofNat (List.length (t9.getD t11.toNat default)))<0)) .d (.h (slices,(IntKind.i64.wrap (size+Int.ofNat (List.length (t9.getD t11.toNat default)))),t9,t10,(IntKind.i64.wrap (t11+1)),()) ())) .d) (.k (slices,size))
def zgD (x:zfb) (y:Unit):=zc4 x.1 x.2.1 x.2.2.1 x.2.2.2.1 x.2.2.2.2.1
def zlD (n:Nat) (slices:List (yC)) (size:Int) (t9:List (yC)) (t10:Int) (t11:Int):=zB (zgD) default n (slices,size,t9,t10,t11,()) ()
def zvX (r:zn7):LTree ty:=.done (.exit 0) [.sl 105 r.1,.lit (.int .i64 r.2)] []
def zwJ:LL ty zfb:=za (lSl 105) (za zj (za (lSl 105) (za zj (za zj zl))))
def zcX (t25:List (yC)) (t26:Int) (t27:Int) (newslice:yC):Wy ze4 ze2 (yC):=.i (decide (t27<t26)) (.i (decide (0<=t27)&&decide (t27<Int.ofNat t25.length)) (.i (decide ((newslice.length+List.length (t25.getD t27.toNat default))*128<=zA)) (.h ((),t25,t26,(IntKind.i64.wrap (t27+1)),()) ((newslice++t25.getD t27.toNat default),())) .d) .d) (.k newslice)
def zgh (x:ze4) (y:ze2):=zcX x.2.1 x.2.2.1 x.2.2.2.1 y.1
def zle (n:Nat) (t25:List (yC)) (t26:Int) (t27:Int) (newslice:yC):=zB (zgh) default n ((),t25,t26,t27,()) (newslice,())
def zu1 (r:yC):LTree ty:=.done (.exit 2) [.own 144] [.arr 145 r false]
def zv3:LL ty ze4:=za (zgd 144) (za (lSl 105) (za zj (za zj zl)))
def zvC:BL ty ze2:=zge 145 false (zbe)
def zvY (x:zfb) (y:Unit):Nat:=(x.1.length+Int.toNat x.2.1+x.2.2.1.length+Int.toNat x.2.2.2.1+Int.toNat x.2.2.2.2.1+1)
def zvg (x:ze4) (y:ze2):Nat:=(x.2.1.length+Int.toNat x.2.2.1+Int.toNat x.2.2.2.1+y.1.length+1)
def zgp:=zbZ base 36 [(303,zly)] [] [(3,(kpL [0,3,9,10,11])),(11,(kpL [6,25,26,27]))] [(3,1,(kpL [0,3])),(11,3,(kpL [6]))] [(3,spW zwJ z6k (zgD) default zvX zvY),(11,spW zv3 zvC (zgh) default zu1 zvg)] [303]
theorem zv7:zI zgp (lp (body f282) 0):=zo (id:=3) (hl:=rfl)
theorem zu4:zI zgp (lp (body f282) 1):=zo (id:=11) (hl:=rfl)
def zl4 (slices:List (yC)):Wy0 (yC):=.bn (zlD (slices.length+Int.toNat 0+slices.length+(Int.ofNat slices.length).toNat +Int.toNat 0+1) slices 0 slices (Int.ofNat slices.length) 0) λr2=>.bn (zea r2.2) λr1=>.bn (zle (r2.1.length+(Int.ofNat r2.1.length).toNat +Int.toNat 0+r1.length+1) r2.1 (Int.ofNat r2.1.length) 0 r1) λr0=>.k r0
def zdE (slices:List (yC)):=(zl4 slices).fin default
def zxG:AL base (List (yC)×Unit):=zd (ze (vSl 105)) zr
def zkB:=zh zxG λx=>((zdE x.1).1,zxs (zdE x.1).2)
theorem zuV:SdP 282 zkB:=
 sT (cx':=zgp) (zi ⟨zvU,trivial⟩) call282 func282 (lOK (aC zv7 (aC zu4 aN))) (sg:=⟨[.own 145],[]⟩)
abbrev zsO:=yC×yC×Unit×Unit
abbrev zs0:=yC×Unit
abbrev zHp:=yC×yC×yC
def zyL (a:yC) (b:yC) (out_:yC):Wy zsO zs0 zHp:=.i (decide (Int.ofNat a.length>0)) (.i (decide (Int.ofNat b.length>0)) (.i (decide ((0:Int)<=(0:Int))&&decide (0<Int.ofNat a.length)) (.i (decide ((0:Int)<=(0:Int))&&decide (0<Int.ofNat b.length)) (.bn (ziU (At.mk (a.getD (Int.toNat 0) default).At.Kind (a.getD (Int.toNat 0) default).At.Row (a.getD (Int.toNat 0) default).At.Ag (a.getD (Int.toNat 0) default).At.Func (a.getD (Int.toNat 0) default).At.Items (a.getD (Int.toNat 0) default).At.Op (a.getD (Int.toNat 0) default).At.Bd) (At.mk (b.getD (Int.toNat 0) default).At.Kind (b.getD (Int.toNat 0) default).At.Row (b.getD (Int.toNat 0) default).At.Ag (b.getD (Int.toNat 0) default).At.Func (b.getD (Int.toNat 0) default).At.Items (b.getD (Int.toNat 0) default).At.Op (b.getD (Int.toNat 0) default).At.Bd)) λr1=>.i (decide (r1<0)) (.i (decide ((0:Int)<=(0:Int))&&decide (0<Int.ofNat a.length)) (.i (decide ((out_.length+[FO.mk (At.mk (a.getD (Int.toNat 0) default).At.Kind (a.getD (Int.toNat 0) default).At.Row (a.getD (Int.toNat 0) default).At.Ag (a.getD (Int.toNat 0) default).At.Func (a.getD (Int.toNat 0) default).At.Items (a.getD (Int.toNat 0) default).At.Op (a.getD (Int.toNat 0) default).At.Bd) (a.getD (Int.toNat 0) default).Exp].length)*128<=zA)) (.i (decide ((0:Int)<=(1:Int))&&decide (1<=Int.ofNat a.length)&&decide (Int.ofNat a.length<=Int.ofNat a.length)) (.h ((List.take ((Int.ofNat a.length).toNat - Int.toNat 1) (List.drop (Int.toNat 1) a)),b,(),()) ((out_++[FO.mk (At.mk (a.getD (Int.toNat 0) default).At.Kind (a.getD (Int.toNat 0) default).At.Row (a.getD (Int.toNat 0) default).At.Ag (a.getD (Int.toNat 0) default).At.Func (a.getD (Int.toNat 0) default).At.Items (a.getD (Int.toNat 0) default).At.Op (a.getD (Int.toNat 0) default).At.Bd) (a.getD (Int.toNat 0) default).Exp]),())) .d) .d) .d) (.i (decide (r1>0)) (.i (decide ((0:Int)<=(0:Int))&&decide (0<Int.ofNat b.length)) (.i (decide ((out_.length+[FO.mk (At.mk (b.getD (Int.toNat 0) default).At.Kind (b.getD (Int.toNat 0) default).At.Row (b.getD (Int.toNat 0) default).At.Ag (b.getD (Int.toNat 0) default).At.Func (b.getD (Int.toNat 0) default).At.Items (b.getD (Int.toNat 0) default).At.Op (b.getD (Int.toNat 0) default).At.Bd) (b.getD (Int.toNat 0) default).Exp].length)*128<=zA)) (.i (decide ((0:Int)<=(1:Int))&&decide (1<=Int.ofNat b.length)&&decide (Int.ofNat b.length<=Int.ofNat b.length)) (.h (a,(List.take ((Int.ofNat b.length).toNat - Int.toNat 1) (List.drop (Int.toNat 1) b)),(),()) ((out_++[FO.mk (At.mk (b.getD (Int.toNat 0) default).At.Kind (b.getD (Int.toNat 0) default).At.Row (b.getD (Int.toNat 0) default).At.Ag (b.getD (Int.toNat 0) default).At.Func (b.getD (Int.toNat 0) default).At.Items (b.getD (Int.toNat 0) default).At.Op (b.getD (Int.toNat 0) default).At.Bd) (b.getD (Int.toNat 0) default).Exp]),())) .d) .d) .d) (.i (decide ((0:Int)<=(0:Int))&&decide (0<Int.ofNat a.length)) (.bn (zfH (At.mk (a.getD (Int.toNat 0) default).At.Kind (a.getD (Int.toNat 0) default).At.Row (a.getD (Int.toNat 0) default).At.Ag (a.getD (Int.toNat 0) default).At.Func (a.getD (Int.toNat 0) default).At.Items (a.getD (Int.toNat 0) default).At.Op (a.getD (Int.toNat 0) default).At.Bd)) λr0=>.i (!r0) (.i (decide ((0:Int)<=(0:Int))&&decide (0<Int.ofNat b.length)) (.i (decide ((out_.length+[FO.mk (At.mk (a.getD (Int.toNat 0) default).At.Kind (a.getD (Int.toNat 0) default).At.Row (a.getD (Int.toNat 0) default).At.Ag (a.getD (Int.toNat 0) default).At.Func (a.getD (Int.toNat 0) default).At.Items (a.getD (Int.toNat 0) default).At.Op (a.getD (Int.toNat 0) default).At.Bd) (IntKind.i64.wrap ((a.getD (Int.toNat 0) default).Exp+(b.getD (Int.toNat 0) default).Exp))].length)*128<=zA)) (.i (decide ((0:Int)<=(1:Int))&&decide (1<=Int.ofNat a.length)&&decide (Int.ofNat a.length<=Int.ofNat a.length)) (.i (decide ((0:Int)<=(1:Int))&&decide (1<=Int.ofNat b.length)&&decide (Int.ofNat b.length<=Int.ofNat b.length)) (.h ((List.take ((Int.ofNat a.length).toNat - Int.toNat 1) (List.drop (Int.toNat 1) a)),(List.take ((Int.ofNat b.length).toNat - Int.toNat 1) (List.drop (Int.toNat 1) b)),(),()) ((out_++[FO.mk (At.mk (a.getD (Int.toNat 0) default).At.Kind (a.getD (Int.toNat 0) default).At.Row (a.getD (Int.toNat 0) default).At.Ag (a.getD (Int.toNat 0) default).At.Func (a.getD (Int.toNat 0) default).At.Items (a.getD (Int.toNat 0) default).At.Op (a.getD (Int.toNat 0) default).At.Bd) (IntKind.i64.wrap ((a.getD (Int.toNat 0) default).Exp+(b.getD (Int.toNat 0) default).Exp))]),())) .d) .d) .d) .d) (.i (decide ((out_.length+[FO.mk (At.mk (a.getD (Int.toNat 0) default).At.Kind (a.getD (Int.toNat 0) default).At.Row (a.getD (Int.toNat 0) default).At.Ag (a.getD (Int.toNat 0) default).At.Func (a.getD (Int.toNat 0) default).At.Items (a.getD (Int.toNat 0) default).At.Op (a.getD (Int.toNat 0) default).At.Bd) (a.getD (Int.toNat 0) default).Exp].length)*128<=zA)) (.i (decide ((0:Int)<=(1:Int))&&decide (1<=Int.ofNat a.length)&&decide (Int.ofNat a.length<=Int.ofNat a.length)) (.i (decide ((0:Int)<=(1:Int))&&decide (1<=Int.ofNat b.length)&&decide (Int.ofNat b.length<=Int.ofNat b.length)) (.h ((List.take ((Int.ofNat a.length).toNat - Int.toNat 1) (List.drop (Int.toNat 1) a)),(List.take ((Int.ofNat b.length).toNat - Int.toNat 1) (List.drop (Int.toNat 1) b)),(),()) ((out_++[FO.mk (At.mk (a.getD (Int.toNat 0) default).At.Kind (a.getD (Int.toNat 0) default).At.Row (a.getD (Int.toNat 0) default).At.Ag (a.getD (Int.toNat 0) default).At.Func (a.getD (Int.toNat 0) default).At.Items (a.getD (Int.toNat 0) default).At.Op (a.getD (Int.toNat 0) default).At.Bd) (a.getD (Int.toNat 0) default).Exp]),())) .d) .d) .d)) .d))) .d) .d) (.k (a,b,out_))) (.k (a,b,out_))
def zHe (x:zsO) (y:zs0):=zyL x.1 x.2.1 y.1
def zyS (n:Nat) (a:yC) (b:yC) (out_:yC):=zB (zHe) default n (a,b,(),()) (out_,())
def zTR (r:zHp):LTree ty:=.done (.exit 0) [.sl 145 r.1,.sl 145 r.2.1,.own 300] [.arr 145 r.2.2 false]
def zXz:LL ty zsO:=za (lSl 145) (za (lSl 145) (za (zgd 300) zl))
def zVT:BL ty zs0:=zge 145 false (zbe)
def zTD (x:zsO) (y:zs0):Nat:=(x.1.length+x.2.1.length+y.1.length+1)
def zGp:=zbZ base 75 [(105,zjI),(106,zmn),(282,zkB)] [] [(2,[(0,.keep),(1,.keep),(5,.own 145)])] [(2,1,(kpL [0,1,5]))] [(2,spW zXz zVT (zHe) default zTR zTD)] []
theorem zT5:zI zGp (lp (body f239) 0):=zo (id:=2) (hl:=rfl)
def zIz (a:yC) (b:yC):Wy0 (yC):=.bn (zyS (a.length+b.length+0+1) a b []) λr5=>.bn (zdE [r5.2.2,r5.1,r5.2.1]) λr4=>.k r4
def znU (a:yC) (b:yC):=(zIz a b).fin default
def zYI:AL base (yC×yC×Unit):=zd (ze (vSl 145)) (zd (ze (vSl 145)) zr)
def zC2:=zh zYI λx=>((znU x.1 x.2.1).1,zxs (znU x.1 x.2.1).2)
theorem zOT:SdP 239 zC2:=
 sT (cx':=zGp) (zi ⟨zm4,ztS,zuV,trivial⟩) call239 func239 (lOK (aC zT5 aN)) (sg:=⟨[.own 145],[]⟩)
def zUa:=zbv base 12 []
def zG5 (a:Int) (b:Int):Wy0 (Int):=.i (!decide (b=0)) (.i (decide (a>IntKind.i64.wrap (Int.tdiv 1152921504606846976 b))) (.k 1152921504606846976) (.k (IntKind.i64.wrap (a*b)))) .d
def zqN (a:Int) (b:Int):=(zG5 a b).fin default
def zB4:=zh zTs λx=>((zqN x.1 x.2.1).1,zOz (zqN x.1 x.2.1).2)
theorem zOu:SdP 238 zB4:=
 sT (cx':=zUa) (zi trivial) call238 func238 (lOK aN)
abbrev zt8:=yB×Unit×Unit×yB×Int×Int×yB×Int×Int×Unit
abbrev zub:=yB×Term×Unit
abbrev zIs:=yB×yB×Int×Int×yB
abbrev zuc:=yB×Unit×yB×Int×Int×Unit
abbrev zud:=yB×Unit
def zoJ (b:yB) (t19:yB) (t20:Int) (t21:Int) (t25:yB) (t26:Int) (t27:Int) (terms:yB) (x_:Term):Wy zt8 zub zIs:=.i (decide (t27<t26)) (.i (decide (0<=t27)&&decide (t27<Int.ofNat t25.length)) (.bn (zqN x_.Cf (t25.getD t27.toNat default).Cf) λr5=>.bn (znU x_.Fs (t25.getD t27.toNat default).Fs) λr4=>.i (decide ((terms.length+[TO.mk r5 r4].length)*32<=zA)) (.h (b,(),(),t19,t20,t21,t25,t26,(IntKind.i64.wrap (t27+1)),()) ((terms++[TO.mk r5 r4]),x_,())) .d) .d) (.k (b,t19,t20,t21,terms))
def zz0 (x:zt8) (y:zub):=zoJ x.1 x.2.2.2.1 x.2.2.2.2.1 x.2.2.2.2.2.1 x.2.2.2.2.2.2.1 x.2.2.2.2.2.2.2.1 x.2.2.2.2.2.2.2.2.1 y.1 y.2.1
def zIy (n:Nat) (b:yB) (t19:yB) (t20:Int) (t21:Int) (t25:yB) (t26:Int) (t27:Int) (terms:yB) (x_:Term):=zB (zz0) default n (b,(),(),t19,t20,t21,t25,t26,t27,()) (terms,x_,())
def zVX (r:zIs):LTree ty:=.done (.exit 2) [.sl 107 r.1,.own 208,.sl 107 r.2.1,.lit (.int .i64 r.2.2.1),.lit (.int .i64 r.2.2.2.1)] [.arr 107 r.2.2.2.2 false]
def zYP:LL ty zt8:=za (lSl 107) (za (zgd 208) (za (zcI 209 0) (za (lSl 107) (za zj (za zj (za (lSl 107) (za zj (za zj zl))))))))
def zYp:BL ty zub:=zge 107 false (zd7 (zdv (λx=>(⟨x.1,x.2.1⟩:Term)) (λx=>(x.Cf,x.Fs,())) (λ_=>rfl) (za (zT .i64) (za (lSl 145) zl))) false (zbe))
def zoH (b:yB) (t19:yB) (t20:Int) (t21:Int) (terms:yB):Wy zuc zud (yB):=.i (decide (t21<t20)) (.i (decide (0<=t21)&&decide (t21<Int.ofNat t19.length)) (.bn (zIy (b.length+t19.length+t20.toNat +t21.toNat +b.length+(Int.ofNat b.length).toNat +Int.toNat 0+terms.length+(t19.getD t21.toNat default).Fs.length+1) b t19 t20 t21 b (Int.ofNat b.length) 0 terms (t19.getD t21.toNat default)) λr8=>.h ((r8.1),(),(r8.2.1),(r8.2.2.1),(IntKind.i64.wrap (r8.2.2.2.1+1)),()) ((r8.2.2.2.2),())) .d) (.k terms)
def zAv (x:zuc) (y:zud):=zoH x.1 x.2.2.1 x.2.2.2.1 x.2.2.2.2.1 y.1
def zz1 (n:Nat) (b:yB) (t19:yB) (t20:Int) (t21:Int) (terms:yB):=zB (zAv) default n (b,(),t19,t20,t21,()) (terms,())
def zYu:LL ty zuc:=za (lSl 107) (za (zgd 208) (za (lSl 107) (za zj (za zj zl))))
def zYa:BL ty zud:=zge 107 false (zbe)
def zVs (x:zt8) (y:zub):Nat:=(x.1.length+x.2.2.2.1.length+Int.toNat x.2.2.2.2.1+Int.toNat x.2.2.2.2.2.1+x.2.2.2.2.2.2.1.length+Int.toNat x.2.2.2.2.2.2.2.1+Int.toNat x.2.2.2.2.2.2.2.2.1+y.1.length+y.2.1.Fs.length+1)
def zWe (x:zuc) (y:zud):Nat:=(x.1.length+x.2.2.1.length+Int.toNat x.2.2.2.1+Int.toNat x.2.2.2.2.1+y.1.length+1)
def zAs:=zbZ zbt 52 [(52,zcn),(124,zeF),(125,zrT),(238,zB4),(239,zC2)] [] [(5,[(1,.keep),(6,.own 107),(19,.keep),(20,.keep),(21,.keep)]),(8,[(1,.keep),(6,.own 107),(8,.keep),(19,.keep),(20,.keep),(21,.keep),(25,.keep),(26,.keep),(27,.keep)])] [(5,1,(kpL [6])),(8,3,(kpL [1,6,19,20,21]))] [(8,spW zYP zYp (zz0) default zVX zVs),(5,spW zYu zYa (zAv) default zN9 zWe)] []
theorem zXu:zI zAs (lp (body f199) 1):=zo (id:=8) (hl:=rfl)
theorem zWu:zI zAs (lp (body f199) 0):=zo (id:=5) (hl:=rfl)
def zJ9 (a:yB) (b:yB):Wy0 (yB×Int):=.bn (zb9 a) λr14=>.i (!r14) (.k ([],1)) (.bn (zb9 b) λr13=>.i (!r13) (.k ([],1)) (.bn (zz1 (b.length+a.length+(Int.ofNat a.length).toNat +Int.toNat 0+0+1) b a (Int.ofNat a.length) 0 []) λr12=>.bn (zh5 r12) λr11=>.bn (zek r11) λr10=>.k (r10.1,r10.2)))
def zuF (a:yB) (b:yB):=(zJ9 a b).fin default
def zEO:=zh z03 λx=>((zuF x.1 x.2.1).1,zOp (zuF x.1 x.2.1).2)
theorem zSe:Sound Tryz.prog zbt 199 zEO:=
 sU (cx':=zAs) (zi ⟨zcx.nodr,zft.nodr,zy3,zOu.nodr,zOT.nodr,trivial⟩) call199 func199 (lOK (aC zWu (aC zXu aN))) (sg:=⟨[.own 107,.pure],[]⟩)
def zDB:=zbv base 8 []
def ztR (b:Bg) (p1:RowID):Wy0 (Bool):=.k (b.Row.Table==p1.Table&&(b.Row.Seq==p1.Seq&&true))
def zfU (b:Bg) (p1:RowID):=(ztR b p1).fin default
def zEw:AL base (Bg×RowID×Unit):=zd (ze (zbX 65)) (zd (ze (z2i 63)) zr)
def zjW:=zh zEw λx=>((zfU x.1 x.2.1).1,zUI (zfU x.1 x.2.1).2)
theorem zpY:SdP 140 zjW:=
 sT (cx':=zDB) (zi trivial) call140 func140 (lOK aN)
def zRl:=zbv base 8 []
def zEZ (x_:At):Wy0 (yB):=.k [TO.mk 1 [FO.mk (At.mk x_.Kind x_.Row x_.Ag x_.Func x_.Items x_.Op x_.Bd) 1]]
def zfp (x_:At):=(zEZ x_).fin default
def zgI:=zh z9g λx=>((zfp x.1).1,z3K (zfp x.1).2)
theorem ziP:SdP 117 zgI:=
 sT (cx':=zRl) (zi trivial) call117 func117 (lOK aN) (sg:=⟨[.own 107],[]⟩)
def zYF:=zbv base 9 [(116,zt6),(117,zgI)]
def zJT (id:RowID):Wy0 (yB):=.bn (zqw id) λr0=>.i (!r0) (.k []) (.k ((zfp (At.mk 0 id [] 0 [] 0 (Value.mk 0 0 (ByteArray.mk #[])))).2))
def zuN (id:RowID):=(zJT id).fin default
def zEU:=zh z95 λx=>((zuN x.1).1,z3K (zuN x.1).2)
theorem zRA:SdP 63 zEU:=
 sT (cx':=zYF) (zi ⟨zyV,ziP,trivial⟩) call63 func63 (lOK aN) (sg:=⟨[.own 107],[]⟩)
abbrev zdW:=yE×(RowID×Unit)×Int×Int×Unit
def zrJ (s:yE) (f:RowID) (t7:Int) (t8:Int):Wy zdW Unit (Int⊕Unit):=.i (decide (t8<t7)) (.i (decide (0<=t8)&&decide (t8<Int.ofNat s.length)) (.i ((zfU (s.getD t8.toNat default) f).2) (.k (.inl t8)) (.h (s,(f,()),t7,(IntKind.i64.wrap (t8+1)),()) ())) .d) (.k (.inr ()))
def zii (x:zdW) (y:Unit):=zrJ x.1 x.2.1.1 x.2.2.1 x.2.2.2.1
def zrt (n:Nat) (s:yE) (f:RowID) (t7:Int) (t8:Int):=zB (zii) (.inl default) n (s,(f,()),t7,t8,()) ()
def zry:LL ty zdW:=za (lSl 65) (za (lFn 140 (za (zG3 (zdv (λx=>(⟨x.1,x.2.1⟩:RowID)) (λx=>(x.Table,x.Seq,())) (λ_=>rfl) (za zj (za zj zl))) 0) zl)) (za zj (za zj zl)))
def zqB (x:zdW) (y:Unit):Nat:=(x.1.length+Int.toNat x.2.2.1+Int.toNat x.2.2.2.1+1)
def zij:=zbZ base 19 [(140,zjW)] [] [(2,(kpL [0,1,7,8]))] [(2,1,[]),(2,0,(kpL [4]))] [(2,spW zry z6k (zii) (.inl default) zr4 zqB)] []
theorem zqR:zI zij (lp (body f139) 0):=zo (id:=2) (hl:=rfl)
def zsb (s:yE) (f:RowID):Wy0 (Int):=.bn (zrt (s.length+(Int.ofNat s.length).toNat +Int.toNat 0+1) s f (Int.ofNat s.length) 0) λr0=>.i (isL r0) (.k (getL r0)) (.k (-1:Int))
def zcw (s:yE) (f:RowID):=(zsb s f).fin default
def zsd:AL base (yE×(RowID×Unit)×Unit):=zd (ze (vSl 65)) (zd (ze (vFn 140 (zzd (z2i 63) zc3))) zr)
def zhE:=zh zsd λx=>((zcw x.1 x.2.1.1).1,zOz (zcw x.1 x.2.1.1).2)
theorem zpH:SdP 139 zhE:=
 sT (cx':=zij) (zi ⟨zpY,trivial⟩) call139 func139 (lOK (aC zqR aN))
def zF2:=zbv base 18 [(63,zEU),(139,zhE),(140,zjW),(141,zgK)]
def zw9 (id:RowID) (p1:yE):Wy0 (yB):=.bn (zcw p1 id) λr2=>.i (decide (r2≥0)) (.i (decide (0<=r2)&&decide (r2<Int.ofNat p1.length)) (.bn (zgT (p1.getD r2.toNat default).To) λr0=>.k r0) .d) (.bn (zuN id) λr1=>.k r1)
def zhQ (id:RowID) (p1:yE):=(zw9 id p1).fin default
def zHw:AL base (RowID×(yE×Unit)×Unit):=zd (ze (zbX 63)) (zd (ze (z3k (zzd (vSl 65) zc3))) zr)
def zhF:=zh zHw λx=>((zhQ x.1 x.2.1.1).1,z3K (zhQ x.1 x.2.1.1).2)
theorem zkF:SdP 138 zhF:=
 sT (cx':=zF2) (zi ⟨zRA,zpH,zpY,ziR,trivial⟩) call138 func138 (lOK aN) (sg:=⟨[.own 107],[]⟩)
abbrev znM:=((yE×Unit)×Unit)×Unit×Unit×yB×Int×yB×Int×Int×yC×Int×Int×Int×Int×Unit
abbrev zeD:=yB×yB×Unit
abbrev zCw:=yE×Int×yB×Int×Int×yC×Int×Int×yB×yB
abbrev znG:=((yE×Unit)×Unit)×Unit×Unit×yB×Int×Int×yC×Int×Int×Unit
abbrev zB8:=Int⊕(yE×yB×Int×Int×yB×yB)
abbrev zn2:=((yE×Unit)×Unit)×Unit×yB×Int×Int×Unit
abbrev znR:=yB×Unit
abbrev zBZ:=Int⊕yB
def zqA (zm:At->yE->Bool×(yB×Int)) (to:yE) (b:yB) (e:Int) (t16:yB) (t17:Int) (t18:Int) (t26:yC) (t27:Int) (t28:Int) (t40:Int) (t41:Int) (sum:yB) (product:yB):Wy znM zeD zCw:=.i (decide (t41<t40)) (.i (e==0) (.bn (zuF product b) λr6=>.h (((to,()),()),(),(),b,(r6.2),t16,t17,t18,t26,t27,t28,t40,(IntKind.i64.wrap (t41+1)),()) (sum,(r6.1),())) (.h (((to,()),()),(),(),b,e,t16,t17,t18,t26,t27,t28,t40,(IntKind.i64.wrap (t41+1)),()) (sum,product,()))) (.k (to,e,t16,t17,t18,t26,t27,t28,sum,product))
def zyK (zm:At->yE->Bool×(yB×Int)) (x:znM) (y:zeD):=zqA zm x.1.1.1 x.2.2.2.1 x.2.2.2.2.1 x.2.2.2.2.2.1 x.2.2.2.2.2.2.1 x.2.2.2.2.2.2.2.1 x.2.2.2.2.2.2.2.2.1 x.2.2.2.2.2.2.2.2.2.1 x.2.2.2.2.2.2.2.2.2.2.1 x.2.2.2.2.2.2.2.2.2.2.2.1 x.2.2.2.2.2.2.2.2.2.2.2.2.1 y.1 y.2.1
def zqP (zm:At->yE->Bool×(yB×Int)) (n:Nat) (to:yE) (b:yB) (e:Int) (t16:yB) (t17:Int) (t18:Int) (t26:yC) (t27:Int) (t28:Int) (t40:Int) (t41:Int) (sum:yB) (product:yB):=zB (zyK zm) default n (((to,()),()),(),(),b,e,t16,t17,t18,t26,t27,t28,t40,t41,()) (sum,product,())
def zI6 (r:zCw):LTree ty:=.done (.exit 4) [.fn 138 ([.bptr ([.sl 65 r.1]) 0]),.own 272,.own 273,.lit (.int .i64 r.2.1),.sl 107 r.2.2.1,.lit (.int .i64 r.2.2.2.1),.lit (.int .i64 r.2.2.2.2.1),.sl 145 r.2.2.2.2.2.1,.lit (.int .i64 r.2.2.2.2.2.2.1),.lit (.int .i64 r.2.2.2.2.2.2.2.1)] [.arr 107 r.2.2.2.2.2.2.2.2.1 false,.arr 107 r.2.2.2.2.2.2.2.2.2 false]
def zLz:LL ty znM:=za (lFn 138 (za (zG3 (za (lSl 65) zl) 0) zl)) (za (zgd 272) (za (zgd 273) (za (lSl 107) (za zj (za (lSl 107) (za zj (za zj (za (lSl 145) (za zj (za zj (za zj (za zj zl))))))))))))
def zKZ:BL ty zeD:=zge 107 false (zge 107 false (zbe))
def zr3 (zm:At->yE->Bool×(yB×Int)) (to:yE) (t16:yB) (t17:Int) (t18:Int) (t26:yC) (t27:Int) (t28:Int) (sum:yB) (product:yB):Wy znG zeD zB8:=.i (decide (t28<t27)) (.i (decide (0<=t28)&&decide (t28<Int.ofNat t26.length)) (.bn (zm (At.mk (t26.getD t28.toNat default).At.Kind (t26.getD t28.toNat default).At.Row (t26.getD t28.toNat default).At.Ag (t26.getD t28.toNat default).At.Func (t26.getD t28.toNat default).At.Items (t26.getD t28.toNat default).At.Op (t26.getD t28.toNat default).At.Bd) to) λr9=>.bn (zqP zm (to.length+r9.1.length+r9.2.toNat +t16.length+t17.toNat +t18.toNat +t26.length+t27.toNat +t28.toNat +(t26.getD t28.toNat default).Exp.toNat +Int.toNat 0+sum.length+product.length+1) to r9.1 r9.2 t16 t17 t18 t26 t27 t28 (t26.getD t28.toNat default).Exp 0 sum product) λr8=>.i (r8.2.1 != 0) (.k (.inl (r8.2.1))) (.h ((((r8.1),()),()),(),(),(r8.2.2.1),(r8.2.2.2.1),(r8.2.2.2.2.1),(r8.2.2.2.2.2.1),(r8.2.2.2.2.2.2.1),(IntKind.i64.wrap (r8.2.2.2.2.2.2.2.1+1)),()) ((r8.2.2.2.2.2.2.2.2.1),(r8.2.2.2.2.2.2.2.2.2),()))) .d) (.k (.inr (to,t16,t17,t18,sum,product)))
def zzO (zm:At->yE->Bool×(yB×Int)) (x:znG) (y:zeD):=zr3 zm x.1.1.1 x.2.2.2.1 x.2.2.2.2.1 x.2.2.2.2.2.1 x.2.2.2.2.2.2.1 x.2.2.2.2.2.2.2.1 x.2.2.2.2.2.2.2.2.1 y.1 y.2.1
def zr6 (zm:At->yE->Bool×(yB×Int)) (n:Nat) (to:yE) (t16:yB) (t17:Int) (t18:Int) (t26:yC) (t27:Int) (t28:Int) (sum:yB) (product:yB):=zB (zzO zm) (.inl default) n (((to,()),()),(),(),t16,t17,t18,t26,t27,t28,()) (sum,product,())
def zKI (r:zB8):LTree ty:=.ite (isL r) (.done .ret [.lit (.slice none 0 0),.lit (.int .i64 (getL r))] []) (.done (.exit 2) [.fn 138 ([.bptr ([.sl 65 (getR r).1]) 0]),.own 272,.own 273,.sl 107 (getR r).2.1,.lit (.int .i64 (getR r).2.2.1),.lit (.int .i64 (getR r).2.2.2.1)] [.arr 107 (getR r).2.2.2.2.1 false,.arr 107 (getR r).2.2.2.2.2 false])
def zMg:LL ty znG:=za (lFn 138 (za (zG3 (za (lSl 65) zl) 0) zl)) (za (zgd 272) (za (zgd 273) (za (lSl 107) (za zj (za zj (za (lSl 145) (za zj (za zj zl))))))))
def zrU (zm:At->yE->Bool×(yB×Int)) (to:yE) (t16:yB) (t17:Int) (t18:Int) (sum:yB):Wy zn2 znR zBZ:=.i (decide (t18<t17)) (.i (decide (0<=t18)&&decide (t18<Int.ofNat t16.length)) (.bn (zqO (t16.getD t18.toNat default).Cf) λr14=>.bn (zr6 zm (to.length+t16.length+t17.toNat +t18.toNat +(t16.getD t18.toNat default).Fs.length+(Int.ofNat (t16.getD t18.toNat default).Fs.length).toNat +Int.toNat 0+sum.length+r14.length+1) to t16 t17 t18 (t16.getD t18.toNat default).Fs (Int.ofNat (t16.getD t18.toNat default).Fs.length) 0 sum r14) λr13=>.i (isL r13) (.k (.inl (getL r13))) (.bn (zql (getR r13).2.2.2.2.1 (getR r13).2.2.2.2.2) λr12=>.i (r12.2 != 0) (.k (.inl (r12.2))) (.h ((((getR r13).1,()),()),(),(getR r13).2.1,(getR r13).2.2.1,(IntKind.i64.wrap ((getR r13).2.2.2.1+1)),()) ((r12.1),())))) .d) (.k (.inr sum))
def zzP (zm:At->yE->Bool×(yB×Int)) (x:zn2) (y:znR):=zrU zm x.1.1.1 x.2.2.1 x.2.2.2.1 x.2.2.2.2.1 y.1
def zr5 (zm:At->yE->Bool×(yB×Int)) (n:Nat) (to:yE) (t16:yB) (t17:Int) (t18:Int) (sum:yB):=zB (zzP zm) (.inl default) n (((to,()),()),(),t16,t17,t18,()) (sum,())
def zLG (r:zBZ):LTree ty:=.ite (isL r) (.done .ret [.lit (.slice none 0 0),.lit (.int .i64 (getL r))] []) (.done (.exit 0) [.own 272] [.arr 107 (getR r) false])
def zL0:LL ty zn2:=za (lFn 138 (za (zG3 (za (lSl 65) zl) 0) zl)) (za (zgd 272) (za (lSl 107) (za zj (za zj zl))))
def zMn:BL ty znR:=zge 107 false (zbe)
def zJr (x:znM) (y:zeD):Nat:=(x.1.1.1.length+x.2.2.2.1.length+Int.toNat x.2.2.2.2.1+x.2.2.2.2.2.1.length+Int.toNat x.2.2.2.2.2.2.1+Int.toNat x.2.2.2.2.2.2.2.1+x.2.2.2.2.2.2.2.2.1.length+Int.toNat x.2.2.2.2.2.2.2.2.2.1+Int.toNat x.2.2.2.2.2.2.2.2.2.2.1+Int.toNat x.2.2.2.2.2.2.2.2.2.2.2.1+Int.toNat x.2.2.2.2.2.2.2.2.2.2.2.2.1+y.1.length+y.2.1.length+1)
def zKY (x:znG) (y:zeD):Nat:=(x.1.1.1.length+x.2.2.2.1.length+Int.toNat x.2.2.2.2.1+Int.toNat x.2.2.2.2.2.1+x.2.2.2.2.2.2.1.length+Int.toNat x.2.2.2.2.2.2.2.1+Int.toNat x.2.2.2.2.2.2.2.2.1+y.1.length+y.2.1.length+1)
def zLb (x:zn2) (y:znR):Nat:=(x.1.1.1.length+x.2.2.1.length+Int.toNat x.2.2.2.1+Int.toNat x.2.2.2.2.1+y.1.length+1)
def zlR (zm:At->yE->Bool×(yB×Int)):=zbZ zbt 68 [(72,zxM),(138,zhF),(197,zCi),(198,(zk8 zm)),(199,zEO)] [] [(3,[(1,.keep),(6,.own 107),(16,.keep),(17,.keep),(18,.keep)]),(7,(kpL [1,6,9,16,17,18,26,27,28])),(11,[(1,.keep),(6,.keep),(9,.keep),(12,.sl 107),(13,.keep),(16,.keep),(17,.keep),(18,.keep),(26,.keep),(27,.keep),(28,.keep),(40,.keep),(41,.keep)])] [(3,1,(kpL [6])),(3,0,(kpL [4,5])),(7,3,(kpL [1,6,9,16,17,18])),(7,0,(kpL [4,5])),(11,5,(kpL [1,6,9,13,16,17,18,26,27,28]))] [(11,spW zLz zKZ (zyK zm) default zI6 zJr),(7,spW zMg zKZ (zzO zm) (.inl default) zKI zKY),(3,spW zL0 zMn (zzP zm) (.inl default) zLG zLb)] []
theorem zJu (zm:At->yE->Bool×(yB×Int)):zI (zlR zm) (lp (body f137) 2):=zo (id:=11) (hl:=rfl)
theorem zJW (zm:At->yE->Bool×(yB×Int)):zI (zlR zm) (lp (body f137) 1):=zo (id:=7) (hl:=rfl)
theorem zKs (zm:At->yE->Bool×(yB×Int)):zI (zlR zm) (lp (body f137) 0):=zo (id:=3) (hl:=rfl)
def zAN (zm:At->yE->Bool×(yB×Int)) (a:yB) (to:yE):Wy0 (yB×Int):=.bn (zr5 zm (to.length+a.length+(Int.ofNat a.length).toNat +Int.toNat 0+0+1) to a (Int.ofNat a.length) 0 []) λr18=>.i (isL r18) (.k ([],getL r18)) (.k (getR r18,0))
def zlr (zm:At->yE->Bool×(yB×Int)) (a:yB) (to:yE):=(zAN zm a to).fin default
theorem zHW (zm:At->yE->Bool×(yB×Int)) (zHx:Sound Tryz.prog zbt 198 (zk8 zm)):Sound Tryz.prog zbt 137 (zlk (zlr zm)):=
 sU (cx':=(zlR zm)) (zi ⟨zCX,zkF.nodr,zOc.nodr,zHx,zSe,trivial⟩) call137 func137 (lOK (aC (zKs zm) (aC (zJW zm) (aC (zJu zm) aN)))) (sg:=⟨[.own 107,.pure],[]⟩)
def zYd:=zbv base 3 []
def z0b:Wy0 (yB):=.k [TO.mk 1 []]
def zuM:Bool×yB:=(z0b).fin default
def zrk:=zh z4C λx=>((zuM ).1,z3K (zuM ).2)
theorem zvA:SdP 278 zrk:=
 sT (cx':=zYd) (zi trivial) call278 func278 (lOK aN) (sg:=⟨[.own 107],[]⟩)
def zQZ:=zbv base 23 [(52,zcn),(117,zgI),(124,zeF),(177,zne),(278,zrk)]
def zEK (a:yB):Wy0 (yB×Int):=.bn (zb9 a) λr2=>.i (!r2) (.k ([],1)) (.i (Int.ofNat a.length==0) (.k (zuM.2,0)) (.bn (zeY a) λr1=>.i (r1) (.k ([],0)) (.bn (zek (zfp (At.mk 3 (RowID.mk 0 0) [a] 0 [] 0 (Value.mk 0 0 (ByteArray.mk #[])))).2) λr0=>.k (r0.1,r0.2))))
def zo7 (a:yB):=(zEK a).fin default
def zAJ:=zh zVa λx=>((zo7 x.1).1,zOp (zo7 x.1).2)
theorem zLY:SdP 236 zAJ:=
 sT (cx':=zQZ) (zi ⟨zcx,ziP,zft,zuO,zvA,trivial⟩) call236 func236 (lOK aN) (sg:=⟨[.own 107,.pure],[]⟩)
def zTX:=zbv base 29 [(52,zcn),(117,zgI),(124,zeF),(141,zgK),(175,zoh),(176,ztP),(278,zrk)]
def zG6 (a:yB):Wy0 (yB×Int):=.bn (zb9 a) λr5=>.i (!r5) (.k ([],1)) (.i (Int.ofNat a.length==0) (.bn (zgT a) λr0=>.k (r0,0)) (.bn (zlu a) λr4=>.i (r4) (.bn (zgT a) λr1=>.k (r1,0)) (.bn (zhy a) λr3=>.i (r3) (.k (zuM.2,0)) (.bn (zek (zfp (At.mk 2 (RowID.mk 0 0) [a] 0 [] 0 (Value.mk 0 0 (ByteArray.mk #[])))).2) λr2=>.k (r2.1,r2.2)))))
def zqF (a:yB):=(zG6 a).fin default
def zBT:=zh zVa λx=>((zqF x.1).1,zOp (zqF x.1).2)
theorem zNY:SdP 235 zBT:=
 sT (cx':=zTX) (zi ⟨zcx,ziP,zft,ziR,zvi,zzN,zvA,trivial⟩) call235 func235 (lOK aN) (sg:=⟨[.own 107,.pure],[]⟩)
def zTw:=zbv base 38 [(52,zcn),(115,znL),(117,zgI),(124,zeF),(141,zgK)]
def zGk (a:yB) (b:yB):Wy0 (yB×Int):=.bn (zb9 a) λr4=>.i (!r4) (.k ([],1)) (.bn (zb9 b) λr3=>.i (!r3) (.k ([],1)) (.i (Int.ofNat b.length==0) (.bn (zgT a) λr0=>.k (r0,0)) (.i (Int.ofNat a.length==0) (.k ([],0)) (.bn (zhU a b) λr2=>.i (r2) (.k ([],0)) (.bn (zek (zfp (At.mk 1 (RowID.mk 0 0) [a,b] 0 [] 0 (Value.mk 0 0 (ByteArray.mk #[])))).2) λr1=>.k (r1.1,r1.2))))))
def zri (a:yB) (b:yB):=(zGk a b).fin default
def zCn:=zh zRo λx=>((zri x.1 x.2.1).1,zOp (zri x.1 x.2.1).2)
theorem zN4:SdP 234 zCn:=
 sT (cx':=zTw) (zi ⟨zcx,ztt,ziP,zft,ziR,trivial⟩) call234 func234 (lOK aN) (sg:=⟨[.own 107,.pure],[]⟩)
def zf9 (x:yD) (a b:Int):Bool×yD:=z4J z6 x a b
def zsC:Ab.Spec ty:=zh (cx:=base) (zd (zse 169) (zd (ze (zgu .i64)) (zd (ze (zgu .i64)) (zd (ze (vFn 172 zc3)) zr)))) λx=>((zf9 x.1 x.2.1 x.2.2.1).1,⟨[],[some ⟨169,(zf9 x.1 x.2.1 x.2.2.1).2⟩]⟩)
theorem ztO (c:Unit) (x y:Wd) (h:(z6 x y).1=true):zfy ((AV.agg (base.enc 169 x)::AV.agg (base.enc 169 y)::(zc3:VL base Unit).enc c).map Arg.pure)=some (true,⟨[.pure (.lit (.int .i64 (z6 x y).2))],[]⟩):=by
 rw [<- h]; kernel_rfl
theorem zrY:SdP 309 zsC:=by
 letI:DecidableEq (ty 169):=inferInstanceAs (DecidableEq Wd)
 exact zbbg (T:=169) ze3 rfl Go.Proofs.Tryz.insW Tryz.isAgg169 (by unfold zt; exact Tryz.sizeOf169) call309 zhG zc3 (λc=>z6) ztO
open Go.Proofs Go.RowKit
def zcu (x:yD) (m:Int):Bool×yD:=(decide (SortOK z6 x)&&(decide (m=x.length)&&decide (m<20)),znX z6 x)
def zmg:Ab.Spec ty:=zh (cx:=base) (zd (zse 169) (zd (ze (zgu .i64)) (zd (ze (vFn 172 zc3)) zr))) λx=>((zcu x.1 x.2.1).1,⟨[],[some ⟨169,(zcu x.1 x.2.1).2⟩]⟩)
set_option maxHeartbeats 1000000 in
theorem zwT:SdP 308 zmg where
 enters:=call308
 calls:=λavs r hsp w F vs hF ha hsep=>by
  unfold zmg zh at hsp;split at hsp
  ·rename_i x hx;simp only [qa,qb] at hsp;obtain ⟨hpre,rfl⟩:=hsp;have hk:=(zd (zse 169) (zd (ze (zgu .i64)) (zd (ze (vFn 172 zc3)) zr)):AL base _).kind vs avs x hx;have ha':=(zd (zse 169) (zd (ze (zgu .i64)) (zd (ze (vFn 172 zc3)) zr)):AL base _).ok Tryz.prog ze3 F w vs avs x hx ha;rw [hk] at hsep ⊢;clear hk hx ha;obtain ⟨l0,m,c,u0⟩:=x;obtain ⟨l,rfl⟩:∃ l:yD,l=l0:=⟨l0,rfl⟩;obtain ⟨v,vs',rfl,hv,hv'⟩:=ha'.inv;obtain ⟨mv,vs1,rfl,hm,hv1⟩:=hv'.inv;obtain ⟨fv,vs'',rfl,hfv,h0⟩:=hv1.inv;obtain rfl:=h0.nil_left.1;have hm:Rep base F w mv (.lit (.int .i64 m)):=hm;obtain rfl:mv=.int .i64 m:=by cases hm; rfl
   have hsl:∃ p cap,v=.slice p l.length cap:=by
    obtain ⟨⟨xs,hown,_⟩,_⟩:=(show zdc base F w v 169 l/\∀ b,zbf v=some b->¬ F b from hv)
    rcases hown.2 with ⟨h1,h2⟩ | ⟨g0,cap,cur,h1,_⟩
    ·exact ⟨none,0,by rw [h1,show l.length=0 from h2]⟩
    ·exact ⟨_,cap,h1⟩
   have hpre:(decide (SortOK (α:=Wd) z6 l)&&(decide (m=l.length)&&decide (m<20)))=true:=hpre;simp only [qc,qe] at hpre;obtain ⟨hok,rfl,h20⟩:=hpre
   have hpp:(zf9 l 0 (l.length:Int)).1=true:=by
    show (decide (SortOK (α:=Wd) z6 l)&&(decide ((0:Int)=0)&&decide ((l.length:Int)=l.length)))=true;simp only [qc,qe];exact ⟨hok,trivial,trivial⟩
   have hp:=(zrY).calls [.own 169 l,.pure (.lit (.int .i64 0)),.pure (.lit (.int .i64 (l.length:Int))),.pure (.fn 172 [])] ⟨[],[some ⟨169,(zcu l (l.length:Int)).2⟩]⟩
    (by rw [<- hpp]; kernel_rfl) w F [v,.int .i64 0,.int .i64 (l.length:Int),fv] hF (.cons hv (.cons (Rep.lit _) (.cons (Rep.lit _) (.cons hfv .nil)))) hsep
   replace hp:Calls Tryz.prog 309 #[v,.int .i64 0,.int .i64 (l.length:Int),fv] w λe w'=>∃ u,e=.returned u/\Post base F w [v] ⟨[],[some ⟨169,(zcu l (l.length:Int)).2⟩]⟩ u w':=hp
   show Calls Tryz.prog 308 #[v,.int .i64 (l.length:Int),fv] w λe w'=>∃ u,e=.returned u/\Post base F w [v] ⟨[],[some ⟨169,(zcu l (l.length:Int)).2⟩]⟩ u w'
   generalize (zcu l (l.length:Int)).2=res at hp ⊢;generalize hn:l.length=m at *;clear hpp hv hfv hsep hok hF hm;obtain ⟨p,cap,rfl⟩:=hsl;clear hn
   go_enter func308,ntmps308
   go_wp2
   refine wp_loop_rounds 1 ?_;rw [rounds_succ]
   go_wp2_with (go_at_call 309; refine hp.mono ?_; rintro e w' ⟨u,rfl,hpost⟩; obtain rfl:=hpost.unit)
   refine wp_loop_rounds 1 ?_;rw [rounds_succ]
   go_wp2
   all_goals first | (exfalso; omega) | (go_end0; exact ⟨_,rfl,hpost⟩)
  ·cases hsp
end Go.Proofs.YtoknknbmfmddbaaGreatDoor
namespace Go.Proofs.YtoknknbmfmddbaaGreatDoor
open Go Go.Ab
open Go.Proofs Go.RowKit
open Go.Proofs.Tryz
def z7 (x:yD):Bool×yD:=(decide (SortOK z6 x)&&decide (x.length<20),znX z6 x)
def zdL:Ab.Spec ty:=zh (cx:=base) (zd (zse 169) (zd (ze (vFn 172 zc3)) zr)) λx=>((z7 x.1).1,⟨[],[some ⟨169,(z7 x.1).2⟩]⟩)
set_option maxHeartbeats 1000000 in
theorem znr:SdP 302 zdL where
 enters:=call302
 calls:=λavs r hsp w F vs hF ha hsep=>by
  unfold zdL zh at hsp;split at hsp
  ·rename_i x hx;simp only [qa,qb] at hsp;obtain ⟨hpre,rfl⟩:=hsp;have hk:=(zd (zse 169) (zd (ze (vFn 172 zc3)) zr):AL base _).kind vs avs x hx;have ha':=(zd (zse 169) (zd (ze (vFn 172 zc3)) zr):AL base _).ok Tryz.prog ze3 F w vs avs x hx ha;rw [hk] at hsep ⊢;clear hk hx ha;obtain ⟨l0,c,u0⟩:=x;obtain ⟨l,rfl⟩:∃ l:yD,l=l0:=⟨l0,rfl⟩;obtain ⟨v,vs',rfl,hv,hv'⟩:=ha'.inv;obtain ⟨fv,vs'',rfl,hfv,h0⟩:=hv'.inv;obtain rfl:=h0.nil_left.1
   have hsl:∃ p cap,v=.slice p l.length cap:=by
    obtain ⟨⟨xs,hown,_⟩,_⟩:=(show zdc base F w v 169 l/\∀ b,zbf v=some b->¬ F b from hv)
    rcases hown.2 with ⟨h1,h2⟩ | ⟨g0,cap,cur,h1,_⟩
    ·exact ⟨none,0,by rw [h1,show l.length=0 from h2]⟩
    ·exact ⟨_,cap,h1⟩
   have hpre:(decide (SortOK (α:=Wd) z6 l)&&decide (l.length<20))=true:=hpre;simp only [qc,qe] at hpre;obtain ⟨hok,h20⟩:=hpre
   have hpp:(zcu l (l.length:Int)).1=true:=by
    show (decide (SortOK (α:=Wd) z6 l)&&(decide ((l.length:Int)=l.length)&&decide ((l.length:Int)<20)))=true;simp only [qc,qe];exact ⟨hok,trivial,by omega⟩
   have hp:=(zwT).calls [.own 169 l,.pure (.lit (.int .i64 (l.length:Int))),.pure (.fn 172 [])] ⟨[],[some ⟨169,(z7 l).2⟩]⟩
    (by rw [<- hpp]; kernel_rfl) w F [v,.int .i64 (l.length:Int),fv] hF (.cons hv (.cons (Rep.lit _) (.cons hfv .nil))) hsep
   replace hp:Calls Tryz.prog 308 #[v,.int .i64 (l.length:Int),fv] w λe w'=>∃ u,e=.returned u/\Post base F w [v] ⟨[],[some ⟨169,(z7 l).2⟩]⟩ u w':=hp
   show Calls Tryz.prog 302 #[v,fv] w λe w'=>∃ u,e=.returned u/\Post base F w [v] ⟨[],[some ⟨169,(z7 l).2⟩]⟩ u w'
   generalize (z7 l).2=res at hp ⊢;generalize hn:l.length=m at *;clear hpp hv hfv hsep hok hF;obtain ⟨p,cap,rfl⟩:=hsl;clear hn
   go_enter func302,ntmps302
   go_wp2_with (go_at_call 308; refine hp.mono ?_; rintro e w' ⟨u,rfl,hpost⟩; obtain rfl:=hpost.unit)
   go_end0
   exact ⟨_,rfl,hpost⟩
  ·cases hsp
end Go.Proofs.YtoknknbmfmddbaaGreatDoor
namespace Go.Proofs.YtoknknbmfmddbaaGreatDoor
open Go Go.Ab
open Go.Proofs.Tryz
abbrev zrp:=Unit×yD×Int×Int×Unit
abbrev zl7:=yD×Unit
def zl9 (t6:yD) (t7:Int) (t8:Int) (out_:yD):Wy zrp zl7 (yD):=.i (decide (t8<t7)) (.i (decide (0<=t8)&&decide (t8<Int.ofNat t6.length)) (.i (decide (Int.ofNat (t6.getD t8.toNat default).Ann.length>0)) (.bn (zgT (t6.getD t8.toNat default).Ann) λr0=>.i (decide ((out_.length+[WO.mk (t6.getD t8.toNat default).Value r0].length)*56<=zA)) (.h ((),t6,t7,(IntKind.i64.wrap (t8+1)),()) ((out_++[WO.mk (t6.getD t8.toNat default).Value r0]),())) .d) (.h ((),t6,t7,(IntKind.i64.wrap (t8+1)),()) (out_,()))) .d) (.k out_)
def zxu (x:zrp) (y:zl7):=zl9 x.2.1 x.2.2.1 x.2.2.2.1 y.1
def zES (n:Nat) (t6:yD) (t7:Int) (t8:Int) (out_:yD):=zB (zxu) default n ((),t6,t7,t8,()) (out_,())
def zRL (r:yD):LTree ty:=.done (.exit 0) [.own 116] [.arr 169 r false]
def zUn:LL ty zrp:=za (zgd 116) (za (lSl 169) (za zj (za zj zl)))
def zTL:BL ty zl7:=zge 169 false (zbe)
def zSJ (x:zrp) (y:zl7):Nat:=(x.2.1.length+Int.toNat x.2.2.1+Int.toNat x.2.2.2.1+y.1.length+1)
def zEF:=zbZ base 29 [(141,zgK),(172,zfy),(302,zdL)] [(302,[true,false])] [(3,[(3,.own 169),(6,.keep),(7,.keep),(8,.keep)])] [(3,1,(kpL [3]))] [(3,spW zUn zTL (zxu) default zRL zSJ)] []
theorem zRH:zI zEF (lp (body f280) 0):=zo (id:=3) (hl:=rfl)
def zGu (l:yD):Wy0 (yD):=.bn (zES (l.length+(Int.ofNat l.length).toNat +Int.toNat 0+0+1) l (Int.ofNat l.length) 0 []) λr3=>.bn (z7 r3) λr2=>.k r2
def zrg (l:yD):=(zGu l).fin default
def zSj (r:yD):ARes ty:=⟨[.own 169 r],[]⟩
def zVU:AL base zl7:=zd (ze (vSl 169)) zr
def zCp:=zh zVU λx=>((zrg x.1).1,zSj (zrg x.1).2)
theorem zOw:SdP 280 zCp:=
 sT (cx':=zEF) (zi ⟨ziR,zhG,znr,trivial⟩) call280 func280 (lOK (aC zRH aN)) (sg:=⟨[.own 169],[]⟩)
def zQb:=zbv base 7 [(52,zcn)]
def zEd (w:Wd):Wy0 (Bool):=.bn (zb9 w.Ann) λr0=>.k (!r0)
def znt (w:Wd):=(zEd w).fin default
def zlU:=zh zJe λx=>((znt x.1).1,zUI (znt x.1).2)
theorem zqx:SdP 279 zlU:=
 sT (cx':=zQb) (zi ⟨zcx,trivial⟩) call279 func279 (lOK aN)
def zTN:=zbv base 28 []
def zGa (op:Int) (sign:Int):Wy0 (Bool):=.i (op==5) (.k (sign==0)) (.i (op==6) (.k (sign != 0)) (.i (op==7) (.k (decide (sign<0))) (.i (op==8) (.k (decide (sign<=0))) (.i (op==9) (.k (decide (sign>0))) (.k (decide (sign≥0)))))))
def zq7 (op:Int) (sign:Int):=(zGa op sign).fin default
def zB6:=zh zTs λx=>((zq7 x.1 x.2.1).1,zUI (zq7 x.1 x.2.1).2)
theorem zOo:SdP 281 zB6:=
 sT (cx':=zTN) (zi trivial) call281 func281 (lOK aN)
abbrev zdB:=yD×Unit×Int×Int×Unit
def zp8 (s:yD) (t7:Int) (t8:Int):Wy zdB Unit (Int⊕Unit):=.i (decide (t8<t7)) (.i (decide (0<=t8)&&decide (t8<Int.ofNat s.length)) (.bn (znt (s.getD t8.toNat default)) λr0=>.i (r0) (.k (.inl t8)) (.h (s,(),t7,(IntKind.i64.wrap (t8+1)),()) ())) .d) (.k (.inr ()))
def zhA (x:zdB) (y:Unit):=zp8 x.1 x.2.2.1 x.2.2.2.1
def zqk (n:Nat) (s:yD) (t7:Int) (t8:Int):=zB (zhA) (.inl default) n (s,(),t7,t8,()) ()
def zqs:LL ty zdB:=za (lSl 169) (za (lFn 279 (zl)) (za zj (za zj zl)))
def zpp (x:zdB) (y:Unit):Nat:=(x.1.length+Int.toNat x.2.2.1+Int.toNat x.2.2.2.1+1)
def zhx:=zbZ base 19 [(279,zlU)] [] [(2,(kpL [0,1,7,8]))] [(2,1,[]),(2,0,(kpL [4]))] [(2,spW zqs z6k (zhA) (.inl default) zr4 zpp)] []
theorem zpx:zI zhx (lp (body f228) 0):=zo (id:=2) (hl:=rfl)
def zrj (s:yD):Wy0 (Int):=.bn (zqk (s.length+(Int.ofNat s.length).toNat +Int.toNat 0+1) s (Int.ofNat s.length) 0) λr2=>.i (isL r2) (.k (getL r2)) (.k (-1:Int))
def zdf (s:yD):=(zrj s).fin default
def zqJ:AL base (yD×Unit×Unit):=zd (ze (vSl 169)) (zd (ze (vFn 279 zc3)) zr)
def zgW:=zh zqJ λx=>((zdf x.1).1,zOz (zdf x.1).2)
theorem zow:SdP 228 zgW:=
 sT (cx':=zhx) (zi ⟨zqx,trivial⟩) call228 func228 (lOK (aC zpx aN))
def zoo:=zbv base 9 [(228,zgW),(279,zlU)]
def zg2 (s:yD):Wy0 (Bool):=.bn (zdf s) λr0=>.k (decide (r0≥0))
def zb8 (s:yD):=(zg2 s).fin default
def zf0:=zh zqJ λx=>((zb8 x.1).1,zUI (zb8 x.1).2)
theorem zmR:SdP 178 zf0:=
 sT (cx':=zoo) (zi ⟨zow,zqx,trivial⟩) call178 func178 (lOK aN)
def zWb:=zbv base 45 [(117,zgI),(124,zeF),(178,zf0),(181,zrW),(195,zmI),(278,zrk),(279,zlU),(280,zCp),(281,zB6)]
def zIB (fn:Int) (items:yD) (op:Int) (bound:Value):Wy0 (yB×Int):=.bn (zkc fn items op bound) λr5=>.i (!r5) (.k ([],1)) (.bn (zb8 items) λr4=>.i (r4) (.k ([],1)) (.bn (zrg items) λr3=>.i (decide (Int.ofNat r3.length>0)) (.bn (zek (zfp (At.mk 4 (RowID.mk 0 0) [] fn r3 op bound)).2) λr0=>.k (r0.1,r0.2)) (.i (fn==0) (.bn (zi3 0 bound.Int) λr2=>.bn (zq7 op r2) λr1=>.i (r1) (.k (zuM.2,0)) (.k ([],0))) (.k ([],0)))))
def zn9 (fn:Int) (items:yD) (op:Int) (bound:Value):=(zIB fn items op bound).fin default
def zDj:=zh zRB λx=>((zn9 x.1 x.2.1 x.2.2.1 x.2.2.2.1).1,zOp (zn9 x.1 x.2.1 x.2.2.1 x.2.2.2.1).2)
theorem zPe:SdP 237 zDj:=
 sT (cx':=zWb) (zi ⟨ziP,zft,zmR,zyI,zsm,zvA,zqx,zOw,zOo,trivial⟩) call237 func237 (lOK aN) (sg:=⟨[.own 107,.pure],[]⟩)
abbrev zkn:=((yE×Unit)×Unit)×Unit×Unit×yA×Int×Int×Unit
abbrev zkk:=At×yA×Unit
abbrev zxT:=Int⊕(yE×At×yA)
abbrev zkg:=((yE×Unit)×Unit)×Unit×Unit×yD×Int×Int×Unit
abbrev zki:=At×yD×Unit
abbrev zx9:=Int⊕(At×yD)
def zns (zP:yB->yE->Bool×(yB×Int)) (to:yE) (t24:yA) (t25:Int) (t26:Int) (x_:At) (args:yA):Wy zkn zkk zxT:=.i (decide (t26<t25)) (.i (decide (0<=t26)&&decide (t26<Int.ofNat t24.length)) (.bn (zP (t24.getD t26.toNat default) to) λr2=>.i (r2.2 != 0) (.k (.inl (r2.2))) (.i (decide ((args.length+[r2.1].length)*24<=zA)) (.h (((to,()),()),(),(),t24,t25,(IntKind.i64.wrap (t26+1)),()) (x_,(args++[r2.1]),())) .d)) .d) (.k (.inr (to,x_,args)))
def zvm (zP:yB->yE->Bool×(yB×Int)) (x:zkn) (y:zkk):=zns zP x.1.1.1 x.2.2.2.1 x.2.2.2.2.1 x.2.2.2.2.2.1 y.1 y.2.1
def zjh (zP:yB->yE->Bool×(yB×Int)) (n:Nat) (to:yE) (t24:yA) (t25:Int) (t26:Int) (x_:At) (args:yA):=zB (zvm zP) (.inl default) n (((to,()),()),(),(),t24,t25,t26,()) (x_,args,())
def zFb (r:zxT):LTree ty:=.ite (isL r) (.done .ret [.lit (.slice none 0 0),.lit (.int .i64 (getL r))] []) (.done (.exit 0) [.fn 138 ([.bptr ([.sl 65 (getR r).1]) 0]),.ptr 432 0,.own 433] [.box (base.enc 143 (getR r).2.1) false,.arr 51 (getR r).2.2 false])
def zHn:LL ty zkn:=za (lFn 138 (za (zG3 (za (lSl 65) zl) 0) zl)) (za (zcI 432 0) (za (zgd 433) (za (lSl 51) (za zj (za zj zl)))))
def zGo:BL ty zkk:=zd7 (zdv (λx=>(⟨x.1,⟨x.2.1,x.2.2.1⟩,x.2.2.2.1,x.2.2.2.2.1,x.2.2.2.2.2.1,x.2.2.2.2.2.2.1,⟨x.2.2.2.2.2.2.2.1,x.2.2.2.2.2.2.2.2.1,x.2.2.2.2.2.2.2.2.2.1⟩⟩:At)) (λx=>(x.Kind,x.Row.Table,x.Row.Seq,x.Ag,x.Func,x.Items,x.Op,x.Bd.Kind,x.Bd.Int,x.Bd.Text,())) (λ_=>rfl) (za (zT .i64) (za (zT .i64) (za (zT .i64) (za (lSl 51) (za (zT .i64) (za (lSl 169) (za (zT .i64) (za (zT .i64) (za (zT .i64) (za ztx zl))))))))))) false (zge 51 false (zbe))
def zmx (zP:yB->yE->Bool×(yB×Int)) (to:yE) (t74:yD) (t75:Int) (t76:Int) (x_:At) (items:yD):Wy zkg zki zx9:=.i (decide (t76<t75)) (.i (decide (0<=t76)&&decide (t76<Int.ofNat t74.length)) (.bn (zP (t74.getD t76.toNat default).Ann to) λr4=>.i (r4.2 != 0) (.k (.inl (r4.2))) (.i (decide ((items.length+[WO.mk (t74.getD t76.toNat default).Value r4.1].length)*56<=zA)) (.h (((to,()),()),(),(),t74,t75,(IntKind.i64.wrap (t76+1)),()) (x_,(items++[WO.mk (t74.getD t76.toNat default).Value r4.1]),())) .d)) .d) (.k (.inr (x_,items)))
def zuU (zP:yB->yE->Bool×(yB×Int)) (x:zkg) (y:zki):=zmx zP x.1.1.1 x.2.2.2.1 x.2.2.2.2.1 x.2.2.2.2.2.1 y.1 y.2.1
def ziz (zP:yB->yE->Bool×(yB×Int)) (n:Nat) (to:yE) (t74:yD) (t75:Int) (t76:Int) (x_:At) (items:yD):=zB (zuU zP) (.inl default) n (((to,()),()),(),(),t74,t75,t76,()) (x_,items,())
def zEy (r:zx9):LTree ty:=.ite (isL r) (.done .ret [.lit (.slice none 0 0),.lit (.int .i64 (getL r))] []) (.done (.exit 3) [.ptr 432 0,.own 433] [.box (base.enc 143 (getR r).1) false,.arr 169 (getR r).2 false])
def zE9:LL ty zkg:=za (lFn 138 (za (zG3 (za (lSl 65) zl) 0) zl)) (za (zcI 432 0) (za (zgd 433) (za (lSl 169) (za zj (za zj zl)))))
def zFq:BL ty zki:=zd7 (zdv (λx=>(⟨x.1,⟨x.2.1,x.2.2.1⟩,x.2.2.2.1,x.2.2.2.2.1,x.2.2.2.2.2.1,x.2.2.2.2.2.2.1,⟨x.2.2.2.2.2.2.2.1,x.2.2.2.2.2.2.2.2.1,x.2.2.2.2.2.2.2.2.2.1⟩⟩:At)) (λx=>(x.Kind,x.Row.Table,x.Row.Seq,x.Ag,x.Func,x.Items,x.Op,x.Bd.Kind,x.Bd.Int,x.Bd.Text,())) (λ_=>rfl) (za (zT .i64) (za (zT .i64) (za (zT .i64) (za (lSl 51) (za (zT .i64) (za (lSl 169) (za (zT .i64) (za (zT .i64) (za (zT .i64) (za ztx zl))))))))))) false (zge 169 false (zbe))
def zFg (x:zkn) (y:zkk):Nat:=(x.1.1.1.length+x.2.2.2.1.length+Int.toNat x.2.2.2.2.1+Int.toNat x.2.2.2.2.2.1+y.1.Ag.length+y.1.Items.length+y.2.1.length+1)
def zEm (x:zkg) (y:zki):Nat:=(x.1.1.1.length+x.2.2.2.1.length+Int.toNat x.2.2.2.2.1+Int.toNat x.2.2.2.2.2.1+y.1.Ag.length+y.1.Items.length+y.2.1.length+1)
def zno (zP:yB->yE->Bool×(yB×Int)):=zbZ zbt 108 [(137,(zlk zP)),(138,zhF),(234,zCn),(235,zBT),(236,zAJ),(237,zDj)] [] [(5,[(1,.keep),(2,.keep),(6,.own 51),(24,.keep),(25,.keep),(26,.keep)]),(21,[(1,.keep),(2,.keep),(11,.own 169),(74,.keep),(75,.keep),(76,.keep)])] [(5,1,(kpL [1,2,6])),(5,0,(kpL [4,5])),(21,4,(kpL [2,11])),(21,0,(kpL [4,5]))] [(5,spW zHn zGo (zvm zP) (.inl default) zFb zFg),(21,spW zE9 zFq (zuU zP) (.inl default) zEy zEm)] []
theorem zFC (zP:yB->yE->Bool×(yB×Int)):zI (zno zP) (lp (body f198) 0):=zo (id:=5) (hl:=rfl)
theorem zEx (zP:yB->yE->Bool×(yB×Int)):zI (zno zP) (lp (body f198) 1):=zo (id:=21) (hl:=rfl)
def zw2 (zP:yB->yE->Bool×(yB×Int)) (x_:At) (to:yE):Wy0 (yB×Int):=.i (x_.Kind==0) (.bn (zhQ x_.Row to) λr6=>.k (r6,0)) (.bn (zjh zP (to.length+x_.Ag.length+(Int.ofNat x_.Ag.length).toNat +Int.toNat 0+x_.Ag.length+x_.Items.length+0+1) to x_.Ag (Int.ofNat x_.Ag.length) 0 (At.mk x_.Kind x_.Row x_.Ag x_.Func x_.Items x_.Op x_.Bd) []) λr12=>.i (isL r12) (.k ([],getL r12)) (.i ((getR r12).2.1.Kind==1) (.i (decide ((0:Int)<=(0:Int))&&decide (0<Int.ofNat (getR r12).2.2.length)) (.i (decide ((0:Int)<=(1:Int))&&decide (1<Int.ofNat (getR r12).2.2.length)) (.bn (zri ((getR r12).2.2.getD (Int.toNat 0) default) ((getR r12).2.2.getD (Int.toNat 1) default)) λr7=>.k (r7.1,r7.2)) .d) .d) (.i ((getR r12).2.1.Kind==2) (.i (decide ((0:Int)<=(0:Int))&&decide (0<Int.ofNat (getR r12).2.2.length)) (.bn (zqF ((getR r12).2.2.getD (Int.toNat 0) default)) λr8=>.k (r8.1,r8.2)) .d) (.i ((getR r12).2.1.Kind==3) (.i (decide ((0:Int)<=(0:Int))&&decide (0<Int.ofNat (getR r12).2.2.length)) (.bn (zo7 ((getR r12).2.2.getD (Int.toNat 0) default)) λr9=>.k (r9.1,r9.2)) .d) (.bn (ziz zP ((getR r12).1.length+(getR r12).2.1.Items.length+(Int.ofNat (getR r12).2.1.Items.length).toNat +Int.toNat 0+(getR r12).2.1.Ag.length+(getR r12).2.1.Items.length+0+1) (getR r12).1 (getR r12).2.1.Items (Int.ofNat (getR r12).2.1.Items.length) 0 (At.mk (getR r12).2.1.Kind (getR r12).2.1.Row (getR r12).2.1.Ag (getR r12).2.1.Func (getR r12).2.1.Items (getR r12).2.1.Op (getR r12).2.1.Bd) []) λr11=>.i (isL r11) (.k ([],getL r11)) (.bn (zn9 (getR r11).1.Func (getR r11).2 (getR r11).1.Op (getR r11).1.Bd) λr10=>.k (r10.1,r10.2)))))))
def zhY (zP:yB->yE->Bool×(yB×Int)) (x_:At) (to:yE):=(zw2 zP x_ to).fin default
theorem zD4 (zP:yB->yE->Bool×(yB×Int)) (zNG:Sound Tryz.prog zbt 137 (zlk zP)):Sound Tryz.prog zbt 198 (zk8 (zhY zP)):=
 sU (cx':=(zno zP)) (zi ⟨zNG,zkF.nodr,zN4.nodr,zNY.nodr,zLY.nodr,zPe.nodr,trivial⟩) call198 func198 (lOK (aC (zFC zP) (aC (zEx zP) aN))) (sg:=⟨[.own 107,.pure],[]⟩)
def zFR:Nat->(yB->yE->Bool×(yB×Int))×(At->yE->Bool×(yB×Int))
 | 0=>(λ_ _=>(false,default),λ_ _=>(false,default))
 | n+1=>(zlr ((zFR n).2),zhY ((zFR n).1))
def zlg (n:Nat):yB->yE->Bool×(yB×Int):=(zFR n).1
def zh2 (n:Nat):At->yE->Bool×(yB×Int):=(zFR n).2
theorem zL6 (n:Nat):zlg (n+1)=zlr (zh2 n):=rfl
theorem zGX (n:Nat):zh2 (n+1)=zhY (zlg n):=rfl
theorem zSZ:∀ n,Sound Tryz.prog zbt 137 (zlk (zlg n))/\Sound Tryz.prog zbt 198 (zk8 (zh2 n))
 | 0=>⟨zbk call137 (λ_=>rfl),zbk call198 (λ_=>rfl)⟩
 | n+1=>by
  have ih:=zSZ n;exact ⟨zHW _ (ih.2),zD4 _ (ih.1)⟩
def zy4:yB->yE->Bool×(yB×Int):=zlg 1000
def zzJ:Ab.Spec ty:=zlk zy4
theorem zKT:Sound Tryz.prog zbt 137 zzJ:=(zSZ 1000).1
def zG8:=zbv base 7 [(52,zcn)]
def zw1 (b:Bg):Wy0 (Bool):=.bn (zb9 b.To) λr0=>.k (!r0)
def zhZ (b:Bg):=(zw1 b).fin default
def zIg:AL base (Bg×Unit):=zd (ze (zbX 65)) zr
def zhK:=zh zIg λx=>((zhZ x.1).1,zUI (zhZ x.1).2)
theorem zkX:SdP 136 zhK:=
 sT (cx':=zG8) (zi ⟨zcx,trivial⟩) call136 func136 (lOK aN)
abbrev zdS:=yE×Unit×Int×Int×Unit
def zrB (s:yE) (t7:Int) (t8:Int):Wy zdS Unit (Int⊕Unit):=.i (decide (t8<t7)) (.i (decide (0<=t8)&&decide (t8<Int.ofNat s.length)) (.bn (zhZ (s.getD t8.toNat default)) λr0=>.i (r0) (.k (.inl t8)) (.h (s,(),t7,(IntKind.i64.wrap (t8+1)),()) ())) .d) (.k (.inr ()))
def zim (x:zdS) (y:Unit):=zrB x.1 x.2.2.1 x.2.2.2.1
def zrs (n:Nat) (s:yE) (t7:Int) (t8:Int):=zB (zim) (.inl default) n (s,(),t7,t8,()) ()
def zrv:LL ty zdS:=za (lSl 65) (za (lFn 136 (zl)) (za zj (za zj zl)))
def zqU (x:zdS) (y:Unit):Nat:=(x.1.length+Int.toNat x.2.2.1+Int.toNat x.2.2.2.1+1)
def zin:=zbZ base 19 [(136,zhK)] [] [(2,(kpL [0,1,7,8]))] [(2,1,[]),(2,0,(kpL [4]))] [(2,spW zrv z6k (zim) (.inl default) zr4 zqU)] []
theorem zrb:zI zin (lp (body f139) 0):=zo (id:=2) (hl:=rfl)
def zrZ (s:yE):Wy0 (Int):=.bn (zrs (s.length+(Int.ofNat s.length).toNat +Int.toNat 0+1) s (Int.ofNat s.length) 0) λr2=>.i (isL r2) (.k (getL r2)) (.k (-1:Int))
def zdx (s:yE):=(zrZ s).fin default
def zsa:AL base (yE×Unit×Unit):=zd (ze (vSl 65)) (zd (ze (vFn 136 zc3)) zr)
def zhz:=zh zsa λx=>((zdx x.1).1,zOz (zdx x.1).2)
theorem zpi:SdP 139 zhz:=
 sT (cx':=zin) (zi ⟨zkX,trivial⟩) call139 func139 (lOK (aC zrb aN))
def zpI:=zbv base 9 [(136,zhK),(139,zhz)]
def zhu (s:yE):Wy0 (Bool):=.bn (zdx s) λr0=>.k (decide (r0≥0))
def zcd (s:yE):=(zhu s).fin default
def zgv:=zh zsa λx=>((zcd x.1).1,zUI (zcd x.1).2)
theorem zny:SdP 135 zgv:=
 sT (cx':=zpI) (zi ⟨zkX,zpi,trivial⟩) call135 func135 (lOK aN)
def zK3:=zbv zbt 18 [(52,zcn),(135,zgv),(136,zhK),(137,zzJ),(138,zhF)]
def zzW (a:yB) (l:yE):Wy0 (yB×Int):=.bn (zb9 a) λr2=>.i (!r2) (.k ([],1)) (.bn (zcd l) λr1=>.i (r1) (.k ([],1)) (.bn (zy4 a l) λr0=>.k (r0.1,r0.2)))
def zkd (a:yB) (l:yE):=(zzW a l).fin default
def zL4:AL zbt (yB×yE×Unit):=zd (ze (vSl 107)) (zd (ze (vSl 65)) zr)
def zwF:=zh zL4 λx=>((zkd x.1 x.2.1).1,zOp (zkd x.1 x.2.1).2)
theorem zG0:Sound Tryz.prog zbt 80 zwF:=
 sU (cx':=zK3) (zi ⟨zcx.nodr,zny.nodr,zkX.nodr,zKT,zkF.nodr,trivial⟩) call80 func80 (lOK aN) (sg:=⟨[.own 107,.pure],[]⟩)
def zeL:Cx ty:={ base with nt:=8 }
def zfR (s:yG):Bool×yG:=(decide (s.length*32<=zA),s)
def zme:Ab.Spec ty:=zh (cx:=base) (zd (ze (vSl 79)) zr) λx=>((zfR x.1).1,⟨[.own 79 (zfR x.1).2],[]⟩)
theorem zyi:zew zeL f62 (body f62) ⟨[.own 79],[]⟩ [.pure (.lit (.slice none 0 0))]=some ⟨[.own 79 []],[]⟩:=by kernel_rfl
theorem zwK (p:Addr) (c:Nat):zew zeL f62 (body f62) ⟨[.own 79],[]⟩ [.pure (.lit (.slice (some p) 0 c))]=some ⟨[.own 79 []],[]⟩:=by kernel_rfl
theorem zxl (l:yG):zew zeL f62 (body f62) ⟨[.own 79],[]⟩ [.pure (.sl 79 l)]=bif !l.isEmpty then bif decide ((([]:List (ty 79)).length+l.length)*32<=zA) then some ⟨[.own 79 l],[]⟩ else none else none:=by kernel_rfl
theorem zwL:SdP 62 zme:=
 zxj (cx':=zeL) (bytes:=32) zA5 ze3 ⟨⟨rfl,rfl,rfl,rfl,rfl,rfl⟩,rfl⟩ (λg s h=>by cases h) call62 func62 (c:=body f62) (by kernel_rfl) (zsB (l:=[]) (by kernel_rfl) trivial) zyi zwK zxl (by kernel_rfl)
def zVF:=zbv zbt 17 [(62,zme),(80,zwF)]
def zIF (x_:Row) (a:yB):Wy0 (Row):=.bn (zkd a []) λr1=>.bn (zfR x_.Values) λr0=>.k (⟨r0,r1.1⟩:Row)
def znW (x_:Row) (a:yB):=(zIF x_ a).fin default
def zXW:AL zbt (Row×yB×Unit):=zd (ze (zbX 54)) (zd (ze (vSl 107)) zr)
def zDK:=zh zXW λx=>((znW x.1 x.2.1).1,zTG (znW x.1 x.2.1).2)
theorem zOV:Sound Tryz.prog zbt 71 zDK:=
 sU (cx':=zVF) (zi ⟨zwL.nodr,zG0,trivial⟩) call71 func71 (lOK aN)
def zex:Cx ty:={ base with nt:=8 }
def zdR (s:yH):Bool×yH:=(decide (s.length*24<=zA),s)
def zkM:Ab.Spec ty:=zh (cx:=base) (zd (ze (vSl 75)) zr) λx=>((zdR x.1).1,⟨[.own 75 (zdR x.1).2],[]⟩)
theorem zwW:zew zex f61 (body f61) ⟨[.own 75],[]⟩ [.pure (.lit (.slice none 0 0))]=some ⟨[.own 75 []],[]⟩:=by kernel_rfl
theorem zvb (p:Addr) (c:Nat):zew zex f61 (body f61) ⟨[.own 75],[]⟩ [.pure (.lit (.slice (some p) 0 c))]=some ⟨[.own 75 []],[]⟩:=by kernel_rfl
theorem zwh (l:yH):zew zex f61 (body f61) ⟨[.own 75],[]⟩ [.pure (.sl 75 l)]=bif !l.isEmpty then bif decide ((([]:List (ty 75)).length+l.length)*24<=zA) then some ⟨[.own 75 l],[]⟩ else none else none:=by kernel_rfl
theorem zu2:SdP 61 zkM:=
 zxj (cx':=zex) (bytes:=24) zA5 ze3 ⟨⟨rfl,rfl,rfl,rfl,rfl,rfl⟩,rfl⟩ (λg s h=>by cases h) call61 func61 (c:=body f61) (by kernel_rfl) (zsB (l:=[]) (by kernel_rfl) trivial) zwW zvb zwh (by kernel_rfl)
def zgj:Cx ty:={ base with nt:=8 }
def zfd (s:yF):Bool×yF:=(decide (s.length*48<=zA),s)
def zoX:Ab.Spec ty:=zh (cx:=base) (zd (ze (vSl 54)) zr) λx=>((zfd x.1).1,⟨[.own 54 (zfd x.1).2],[]⟩)
theorem zAO:zew zgj f68 (body f68) ⟨[.own 54],[]⟩ [.pure (.lit (.slice none 0 0))]=some ⟨[.own 54 []],[]⟩:=by kernel_rfl
theorem zzi (p:Addr) (c:Nat):zew zgj f68 (body f68) ⟨[.own 54],[]⟩ [.pure (.lit (.slice (some p) 0 c))]=some ⟨[.own 54 []],[]⟩:=by kernel_rfl
theorem zAk (l:yF):zew zgj f68 (body f68) ⟨[.own 54],[]⟩ [.pure (.sl 54 l)]=bif !l.isEmpty then bif decide ((([]:List (ty 54)).length+l.length)*48<=zA) then some ⟨[.own 54 l],[]⟩ else none else none:=by kernel_rfl
theorem zzn:SdP 68 zoX:=
 zxj (cx':=zgj) (bytes:=48) zA5 ze3 ⟨⟨rfl,rfl,rfl,rfl,rfl,rfl⟩,rfl⟩ (λg s h=>by cases h) call68 func68 (c:=body f68) (by kernel_rfl) (zsB (l:=[]) (by kernel_rfl) trivial) zAO zzi zAk (by kernel_rfl)
abbrev zfq:=yF×Unit×Int×Int×Unit
def zwG (s:yF) (t7:Int) (t8:Int):Wy zfq Unit (Int⊕Unit):=.i (decide (t8<t7)) (.i (decide (0<=t8)&&decide (t8<Int.ofNat s.length)) (.i ((zhr (s.getD t8.toNat default)).2) (.k (.inl t8)) (.h (s,(),t7,(IntKind.i64.wrap (t8+1)),()) ())) .d) (.k (.inr ()))
def zlE (x:zfq) (y:Unit):=zwG x.1 x.2.2.1 x.2.2.2.1
def zwD (n:Nat) (s:yF) (t7:Int) (t8:Int):=zB (zlE) (.inl default) n (s,(),t7,t8,()) ()
def zwO:LL ty zfq:=za (lSl 54) (za (lFn 69 (zl)) (za zj (za zj zl)))
def zwm (x:zfq) (y:Unit):Nat:=(x.1.length+Int.toNat x.2.2.1+Int.toNat x.2.2.2.1+1000)
def zlB:=zbZ base 19 [(69,zjM)] [] [(2,(kpL [0,1,7,8]))] [(2,1,[]),(2,0,(kpL [4]))] [(2,spW zwO z6k (zlE) (.inl default) zr4 zwm)] []
theorem zvM:zI zlB (lp (body f122) 0):=zo (id:=2) (hl:=rfl)
def zxF (s:yF):Wy0 (Int):=.bn (zwD (s.length+(Int.ofNat s.length).toNat +Int.toNat 0+1000) s (Int.ofNat s.length) 0) λr0=>.i (isL r0) (.k (getL r0)) (.k (-1:Int))
def zdC (s:yF):=(zxF s).fin default
def zxC:AL base (yF×Unit×Unit):=zd (ze (vSl 54)) (zd (ze (vFn 69 zc3)) zr)
def zkz:=zh zxC λx=>((zdC x.1).1,zOz (zdC x.1).2)
theorem zuG:SdP 122 zkz:=
 sT (cx':=zlB) (zi ⟨znf,trivial⟩) call122 func122 (lOK (aC zvM aN))
abbrev zfM:=Unit×Unit×Int×Int×Unit
abbrev zfP:=yF×Unit
abbrev zp0:=Int×yF
def zhn (i:Int) (j:Int) (s:yF):Wy zfM zfP zp0:=.i (decide (j<Int.ofNat s.length)) (.i (decide (0<=j)&&decide (j<Int.ofNat s.length)) (.i (!(zhr (s.getD j.toNat default)).2) (.i (decide (0<=i)&&decide (i<Int.ofNat s.length)) (.i (decide (i.toNat<s.length)) (.h ((),(),(IntKind.i64.wrap (i+1)),(IntKind.i64.wrap (j+1)),()) ((s.set i.toNat (s.getD j.toNat default)),())) .d) .d) (.h ((),(),i,(IntKind.i64.wrap (j+1)),()) (s,()))) .d) (.k (i,s))
def zmB (x:zfM) (y:zfP):=zhn x.2.2.1 x.2.2.2.1 y.1
def zhm (n:Nat) (i:Int) (j:Int) (s:yF):=zB (zmB) default n ((),(),i,j,()) (s,())
def zxE (r:zp0):LTree ty:=.done (.exit 0) [.own 168,.lit (.int .i64 r.1)] [.arr 54 r.2 false]
def zye:LL ty zfM:=za (zgd 168) (za (lFn 69 (zl)) (za zj (za zj zl)))
def zyf:BL ty zfP:=zge 54 false (zbe)
def zxH (x:zfM) (y:zfP):Nat:=(Int.toNat x.2.2.1+Int.toNat x.2.2.2.1+y.1.length+1000)
def zmA:=zbZ base 42 [(69,zjM),(122,zkz)] [] [(5,(kpL [0,1,5,6]))] [(5,1,(kpL [0,5]))] [(5,spW zye zyf (zmB) default zxE zxH)] []
theorem zxJ:zI zmA (lp (body f67) 0):=zo (id:=5) (hl:=rfl)
def zm8 (s:yF):Wy0 (yF):=.bn (zdC s) λr1=>.i (r1==(-1:Int)) (.k s) (.bn (zhm (r1.toNat +(IntKind.i64.wrap (r1+1)).toNat +s.length+1000) r1 (IntKind.i64.wrap (r1+1)) s) λr0=>.i (decide (0<=r0.1)&&decide (r0.1<=Int.ofNat r0.2.length)&&decide (Int.ofNat r0.2.length<=Int.ofNat r0.2.length)) (.i (decide (r0.1.toNat +((Int.ofNat r0.2.length).toNat - r0.1.toNat)<=r0.2.length)) (.i (decide ((0:Int)<=(0:Int))&&decide (0<=r0.1)&&decide (r0.1<=Int.ofNat (List.take r0.1.toNat r0.2++List.replicate ((Int.ofNat r0.2.length).toNat - r0.1.toNat) (Row.mk [] [])++List.drop (r0.1.toNat +((Int.ofNat r0.2.length).toNat - r0.1.toNat)) r0.2).length)) (.k (List.take (r0.1.toNat - Int.toNat 0) (List.take r0.1.toNat r0.2++List.replicate ((Int.ofNat r0.2.length).toNat - r0.1.toNat) (Row.mk [] [])++List.drop (r0.1.toNat +((Int.ofNat r0.2.length).toNat - r0.1.toNat)) r0.2))) .d) .d) .d)
def zd6 (s:yF):=(zm8 s).fin default
def zxN (r:yF):ARes ty:=⟨[.own 54 r],[none]⟩
def zyx:AL base (yF×Unit×Unit):=zd (zse 54) (zd (ze (vFn 69 zc3)) zr)
def zlC:=zh zyx λx=>((zd6 x.1).1,zxN (zd6 x.1).2)
theorem zvV:SdP 67 zlC:=
 sT (cx':=zmA) (zi ⟨znf,zuG,trivial⟩) call67 func67 (lOK (aC zxJ aN)) (sg:=⟨[.own 54],[false]⟩)
def zAt (r:yF):ARes ty:=⟨[],[some ⟨54,r⟩]⟩
def zBM:AL base (yF×Int×Int×Int×Unit×Unit):=zd (zse 54) (zd (ze (zgu .i64)) (zd (ze (zgu .i64)) (zd (ze (zgu .i64)) (zd (ze (vFn 53 zc3)) zr))))
def zBE (F:yF->Int->Int->Int->Bool×yF):Ab.Spec ty:=zh zBM λx=>((F x.1 x.2.1 x.2.2.1 x.2.2.2.1).1,zAt (F x.1 x.2.1 x.2.2.1 x.2.2.2.1).2)
def zkR:yF->Int->Int->Int->Bool×yF:=λa _ _ _=>(decide (a.length=a.length+1),default)
def zn5:Ab.Spec ty:=zBE zkR
theorem zyk:SdP 191 zn5:=zbk call191 (λ_=>decide_eq_false (Nat.ne_of_lt (Nat.lt_succ_self _)))
abbrev zeU:=Unit×Int×Int×Unit×Int×Int×Unit
abbrev zbV:=yF×Unit
abbrev zmZ:=Int×Int×Int×yF
abbrev zeR:=Unit×Int×Int×Unit×Int×Unit
def zg3 (a:Int) (b:Int) (i:Int) (j:Int) (data:yF):Wy zeU zbV zmZ:=.i (decide (j>a)) (.i (decide (0<=j)&&decide (j<Int.ofNat data.length)) (.i (decide (0<=IntKind.i64.wrap (j - 1))&&decide (IntKind.i64.wrap (j - 1)<Int.ofNat data.length)) (.bn (zcp (data.getD j.toNat default) (data.getD (IntKind.i64.wrap (j - 1)).toNat default)) λr0=>.i (decide (r0<0)) (.i (decide (0<=IntKind.i64.wrap (j - 1))&&decide (IntKind.i64.wrap (j - 1)<Int.ofNat data.length)) (.i (decide (0<=j)&&decide (j<Int.ofNat data.length)) (.i (decide (0<=j)&&decide (j<Int.ofNat data.length)) (.i (decide (j.toNat<data.length)) (.i (decide (0<=IntKind.i64.wrap (j - 1))&&decide (IntKind.i64.wrap (j - 1)<Int.ofNat (data.set j.toNat (data.getD (IntKind.i64.wrap (j - 1)).toNat default)).length)) (.i (decide ((IntKind.i64.wrap (j - 1)).toNat<(data.set j.toNat (data.getD (IntKind.i64.wrap (j - 1)).toNat default)).length)) (.h ((),a,b,(),i,(IntKind.i64.wrap (j - 1)),()) (((data.set j.toNat (data.getD (IntKind.i64.wrap (j - 1)).toNat default)).set (IntKind.i64.wrap (j - 1)).toNat (data.getD j.toNat default)),())) .d) .d) .d) .d) .d) .d) (.k (a,b,i,data))) .d) .d) (.k (a,b,i,data))
def zl2 (x:zeU) (y:zbV):=zg3 x.2.1 x.2.2.1 x.2.2.2.2.1 x.2.2.2.2.2.1 y.1
def zg4 (n:Nat) (a:Int) (b:Int) (i:Int) (j:Int) (data:yF):=zB (zl2) default n ((),a,b,(),i,j,()) (data,())
def zwt (r:zmZ):LTree ty:=.done (.exit 2) [.own 212,.lit (.int .i64 r.1),.lit (.int .i64 r.2.1),.fn 53 ([]),.lit (.int .i64 r.2.2.1)] [.arr 54 r.2.2.2 false]
def zxO:LL ty zeU:=za (zgd 212) (za zj (za zj (za (lFn 53 (zl)) (za zj (za zj zl)))))
def zxK:BL ty zbV:=zge 54 false (zbe)
def zdh (a:Int) (b:Int) (i:Int) (data:yF):Wy zeR zbV (yF):=.i (decide (i<b)) (.bn (zg4 (a.toNat +b.toNat +i.toNat +i.toNat +data.length+1000) a b i i data) λr2=>.h ((),(r2.1),(r2.2.1),(),(IntKind.i64.wrap (r2.2.2.1+1)),()) ((r2.2.2.2),())) (.k data)
def zl6 (x:zeR) (y:zbV):=zdh x.2.1 x.2.2.1 x.2.2.2.2.1 y.1
def zdj (n:Nat) (a:Int) (b:Int) (i:Int) (data:yF):=zB (zl6) default n ((),a,b,(),i,()) (data,())
def zw0 (r:yF):LTree ty:=.done (.exit 0) [.own 212] [.arr 54 r false]
def zxL:LL ty zeR:=za (zgd 212) (za zj (za zj (za (lFn 53 (zl)) (za zj zl))))
def zw8 (x:zeU) (y:zbV):Nat:=(Int.toNat x.2.1+Int.toNat x.2.2.1+Int.toNat x.2.2.2.2.1+Int.toNat x.2.2.2.2.2.1+y.1.length+1000)
def zwx (x:zeR) (y:zbV):Nat:=(Int.toNat x.2.1+Int.toNat x.2.2.1+Int.toNat x.2.2.2.2.1+y.1.length+1000)
def zg6:=zbZ base 53 [(53,zfF)] [] [(1,(kpL [0,1,2,3,8])),(4,(kpL [0,1,2,3,8,9]))] [(1,1,(kpL [0])),(4,3,(kpL [0,1,2,3,8]))] [(4,spW zxO zxK (zl2) default zwt zw8),(1,spW zxL zxK (zl6) default zw0 zwx)] []
theorem zwV:zI zg6 (lp (body f190) 1):=zo (id:=4) (hl:=rfl)
theorem zwn:zI zg6 (lp (body f190) 0):=zo (id:=1) (hl:=rfl)
def zmy (data:yF) (a:Int) (b:Int):Wy0 (yF):=.bn (zdj (a.toNat +b.toNat +(IntKind.i64.wrap (a+1)).toNat +data.length+1000) a b (IntKind.i64.wrap (a+1)) data) λr4=>.k r4
def zcS (data:yF) (a:Int) (b:Int):=(zmy data a b).fin default
def zyd:AL base (yF×Int×Int×Unit×Unit):=zd (zse 54) (zd (ze zgq) (zd (ze zgq) (zd (ze (vFn 53 zc3)) zr)))
def zld:=zh zyd λx=>((zcS x.1 x.2.1 x.2.2.1).1,zAt (zcS x.1 x.2.1 x.2.2.1).2)
theorem zu8:SdP 190 zld:=
 sT (cx':=zg6) (zi ⟨zgP,trivial⟩) call190 func190 (lOK (aC zwn (aC zwV aN))) (sg:=⟨[],[true]⟩)
abbrev zcA:=Unit×Int×Unit×Int×Int×Int×Unit
abbrev zbC:=yF×Unit
abbrev zhH:=Int×Int×Int×yF
abbrev zhN:=Unit×Int×Unit×Int×Unit
def zkw (n_:Int) (blockSize:Int) (a:Int) (b:Int) (data:yF):Wy zcA zbC zhH:=.i (decide (b<=n_)) (.bn (zcS data a b) λr0=>.h ((),n_,(),blockSize,b,(IntKind.i64.wrap (b+blockSize)),()) ((r0),())) (.k (n_,blockSize,a,data))
def zrN (x:zcA) (y:zbC):=zkw x.2.1 x.2.2.2.1 x.2.2.2.2.1 x.2.2.2.2.2.1 y.1
def zkr (n:Nat) (n_:Int) (blockSize:Int) (a:Int) (b:Int) (data:yF):=zB (zrN) default n ((),n_,(),blockSize,a,b,()) (data,())
def zBK (r:zhH):LTree ty:=.done (.exit 0) [.own 252,.lit (.int .i64 r.1),.fn 53 ([]),.lit (.int .i64 r.2.1),.lit (.int .i64 r.2.2.1)] [.arr 54 r.2.2.2 false]
def zCH:LL ty zcA:=za (zgd 252) (za zj (za (lFn 53 (zl)) (za zj (za zj (za zj zl)))))
def zCM:BL ty zbC:=zge 54 false (zbe)
def zCT (n_:Int) (blockSize:Int) (a:Int) (b:Int) (data:yF):Wy zcA zbC zhH:=.i (decide (b<=n_)) (.bn (zkR data a (IntKind.i64.wrap (a+blockSize)) b) λr2=>.h ((),n_,(),blockSize,b,(IntKind.i64.wrap (b+IntKind.i64.wrap (2*blockSize))),()) ((r2),())) (.k (n_,blockSize,a,data))
def zrM (x:zcA) (y:zbC):=zCT x.2.1 x.2.2.2.1 x.2.2.2.2.1 x.2.2.2.2.2.1 y.1
def zCD (n:Nat) (n_:Int) (blockSize:Int) (a:Int) (b:Int) (data:yF):=zB (zrM) default n ((),n_,(),blockSize,a,b,()) (data,())
def zBP (r:zhH):LTree ty:=.done (.exit 4) [.own 252,.lit (.int .i64 r.1),.fn 53 ([]),.lit (.int .i64 r.2.1),.lit (.int .i64 r.2.2.1)] [.arr 54 r.2.2.2 false]
def zkx (n_:Int) (blockSize:Int) (data:yF):Wy zhN zbC (yF):=.i (decide (blockSize<n_)) (.bn (zCD (n_.toNat +blockSize.toNat +Int.toNat 0+(IntKind.i64.wrap (2*blockSize)).toNat +data.length+1000) n_ blockSize 0 (IntKind.i64.wrap (2*blockSize)) data) λr5=>.i (decide (IntKind.i64.wrap (r5.2.2.1+r5.2.1)<r5.1)) (.bn (zkR r5.2.2.2 r5.2.2.1 (IntKind.i64.wrap (r5.2.2.1+r5.2.1)) r5.1) λr4=>.h ((),(r5.1),(),(IntKind.i64.wrap (r5.2.1*2)),()) ((r4),())) (.h ((),(r5.1),(),(IntKind.i64.wrap (r5.2.1*2)),()) ((r5.2.2.2),()))) (.k data)
def zrO (x:zhN) (y:zbC):=zkx x.2.1 x.2.2.2.1 y.1
def zky (n:Nat) (n_:Int) (blockSize:Int) (data:yF):=zB (zrO) default n ((),n_,(),blockSize,()) (data,())
def zBu (r:yF):LTree ty:=.done (.exit 2) [.own 252] [.arr 54 r false]
def zCy:LL ty zhN:=za (zgd 252) (za zj (za (lFn 53 (zl)) (za zj zl)))
def zBk (x:zcA) (y:zbC):Nat:=(Int.toNat x.2.1+Int.toNat x.2.2.2.1+Int.toNat x.2.2.2.2.1+Int.toNat x.2.2.2.2.2.1+y.1.length+1000)
def zBo (x:zhN) (y:zbC):Nat:=(Int.toNat x.2.1+Int.toNat x.2.2.2.1+y.1.length+1000)
def zgF:=zbZ base 63 [(53,zfF),(190,zld),(191,zn5)] [(190,[true,false,false,false]),(191,[true,false,false,false,false])] [(2,(kpL [0,1,2,6,7,8])),(7,(kpL [0,1,2,6])),(9,(kpL [0,1,2,6,7,8]))] [(2,1,(kpL [0,1,2,6,7])),(7,3,(kpL [0])),(9,5,(kpL [0,1,2,6,7]))] [(2,spW zCH zCM (zrN) default zBK zBk),(9,spW zCH zCM (zrM) default zBP zBk),(7,spW zCy zCM (zrO) default zBu zBo)] []
theorem zBA:zI zgF (lp (body f123) 0):=zo (id:=2) (hl:=rfl)
theorem zBG:zI zgF (lp (body f123) 2):=zo (id:=9) (hl:=rfl)
theorem zBh:zI zgF (lp (body f123) 1):=zo (id:=7) (hl:=rfl)
def zsG (data:yF) (n_:Int):Wy0 (yF):=.bn (zkr (n_.toNat +Int.toNat 20+Int.toNat 0+Int.toNat 20+data.length+1000) n_ 20 0 20 data) λr10=>.bn (zcS r10.2.2.2 r10.2.2.1 r10.1) λr9=>.bn (zky (r10.1.toNat +r10.2.1.toNat +r9.length+1000) r10.1 r10.2.1 r9) λr8=>.k r8
def zfu (data:yF) (n_:Int):=(zsG data n_).fin default
def zEj:AL base (yF×Int×Unit×Unit):=zd (zse 54) (zd (ze zgq) (zd (ze (vFn 53 zc3)) zr))
def zp4:=zh zEj λx=>((zfu x.1 x.2.1).1,zAt (zfu x.1 x.2.1).2)
theorem zz8:SdP 123 zp4:=
 sT (cx':=zgF) (zi ⟨zgP,zu8,zyk,trivial⟩) call123 func123 (lOK (aC zBA (aC zBh (aC zBG aN)))) (sg:=⟨[],[true]⟩)
def zu3:=zbZ base 9 [(53,zfF),(123,zp4)] [(123,[true,false,false])] [] [] [] []
def zkT (x_:yF):Wy0 (yF):=.bn (zfu x_ (Int.ofNat x_.length)) λr0=>.k r0
def zct (x_:yF):=(zkT x_).fin default
def zvH:AL base (yF×Unit×Unit):=zd (zse 54) (zd (ze (vFn 53 zc3)) zr)
def zjP:=zh zvH λx=>((zct x.1).1,zAt (zct x.1).2)
theorem ztL:SdP 70 zjP:=
 sT (cx':=zu3) (zi ⟨zgP,zz8,trivial⟩) call70 func70 (lOK aN) (sg:=⟨[],[true]⟩)
end Go.Proofs.YtoknknbmfmddbaaGreatDoor
end
