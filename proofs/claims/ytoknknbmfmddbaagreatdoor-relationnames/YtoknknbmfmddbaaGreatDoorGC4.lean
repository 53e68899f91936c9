/- Texts of this claim, joined (the program, its functions in plain words, and what they compute). -/
import Derived.Test.YtoknknbmfmddbaaGreatDoorGC3
set_option autoImplicit false
set_option linter.unusedVariables false
set_option linter.unusedSectionVars false
set_option linter.unusedSimpArgs false
set_option maxRecDepth 1000000
set_option maxHeartbeats 0
noncomputable section
namespace Go.Proofs.YtoknknbmfmddbaaGreatDoor
open Go Go.Ab
open Go.Proofs.Tryz
def zSP:=zbx base 9 []
def zFp (n_:Int):Wy0 (yB):=.i (decide (n_<1)) (.k []) (.k [TO.mk (if 1152921504606846976<n_ then 1152921504606846976 else n_) []])
def zpN (n_:Int):=(zFp n_).fin default
def zAD:=zh zWK λx=>((zpN x.1).1,z27 (zpN x.1).2)
theorem zMP:SdP 197 zAD:=
 sT (cx':=zSP) (zi trivial) call197 func197 (lOK aN) (sg:=⟨[.own 107],[]⟩)
def zxh:=zbx base 27 []
def zmx (n_:Int):Wy0 (yC):=.i (decide (n_<0)) .d (.i (decide (IntKind.i64.wrap (n_ - IntKind.i64.wrap (0 - 0))>0)) (.i (decide (0<IntKind.i64.wrap (n_ - IntKind.i64.wrap (0 - 0)))&&(decide (IntKind.i64.wrap (n_ - IntKind.i64.wrap (0 - 0))*Int.ofNat 128<=Int.ofNat zF)&&(decide (IntKind.i64.wrap (n_ - IntKind.i64.wrap (0 - 0))<=Int.ofNat zF)&& !Nat.beq 11 0))) (.k (List.take (Int.toNat 0 - Int.toNat 0) (List.replicate (IntKind.i64.wrap (n_ - IntKind.i64.wrap (0 - 0))).toNat (FO.mk (At.mk 0 (RowID.mk 0 0) [] 0 [] 0 (Value.mk 0 0 (ByteArray.mk #[]))) 0)))) .d) (.k []))
def zd0 (n_:Int):=(zmx n_).fin default
def zwp (r:yC):ARes ty:=⟨[.own 145 r],[]⟩
def zkW:=zh zxf λx=>((zd0 x.2.1).1,zwp (zd0 x.2.1).2)
theorem zuY:SdP 303 zkW:=
 sT (cx':=zxh) (zi trivial) call303 func303 (lOK aN) (sg:=⟨[.own 145],[]⟩)
abbrev zeL:=List (yC)×Int×List (yC)×Int×Int×Unit
abbrev znj:=List (yC)×Int
abbrev zeN:=Unit×List (yC)×Int×Int×Unit
abbrev zeK:=yC×Unit
def zcZ (slices:List (yC)) (size:Int) (t9:List (yC)) (t10:Int) (t11:Int):Wy zeL Unit znj:=.i (decide (t11<t10)) (.i (decide (0<=t11)&&decide (t11<Int.ofNat t9.length)) (.i (decide (IntKind.i64.wrap (size+Int.ofNat (List.length (t9.getD t11.toNat default)))<0)) .d (.h (slices,(IntKind.i64.wrap (size+Int.ofNat (List.length (t9.getD t11.toNat default)))),t9,t10,(IntKind.i64.wrap (t11+1)),()) ())) .d) (.k (slices,size))
def zf7 (x:zeL) (y:Unit):=zcZ x.1 x.2.1 x.2.2.1 x.2.2.2.1 x.2.2.2.2.1
def zkS (n:Nat) (slices:List (yC)) (size:Int) (t9:List (yC)) (t10:Int) (t11:Int):=zA (zf7) default n (slices,size,t9,t10,t11,()) ()
def zu6 (r:znj):LTree ty:=.done (.exit 0) [.sl 105 r.1,.lit (.int .i64 r.2)] []
def zvA:LL ty zeL:=za (lSl 105) (za zj (za (lSl 105) (za zj (za zj zm))))
def zcT (t25:List (yC)) (t26:Int) (t27:Int) (newslice:yC):Wy zeN zeK (yC):=.i (decide (t27<t26)) (.i (decide (0<=t27)&&decide (t27<Int.ofNat t25.length)) (.i (decide ((newslice.length+List.length (t25.getD t27.toNat default))*128<=zF)) (.h ((),t25,t26,(IntKind.i64.wrap (t27+1)),()) ((newslice++t25.getD t27.toNat default),())) .d) .d) (.k newslice)
def zfO (x:zeN) (y:zeK):=zcT x.2.1 x.2.2.1 x.2.2.2.1 y.1
def zj8 (n:Nat) (t25:List (yC)) (t26:Int) (t27:Int) (newslice:yC):=zA (zfO) default n ((),t25,t26,t27,()) (newslice,())
def zui (r:yC):LTree ty:=.done (.exit 2) [.own 144] [.arr 145 r false]
def zu3:LL ty zeN:=za (zfb 144) (za (lSl 105) (za zj (za zj zm)))
def zuW:BL ty zeK:=zfl 145 false (zbg)
def zu9 (x:zeL) (y:Unit):Nat:=(x.1.length+Int.toNat x.2.1+x.2.2.1.length+Int.toNat x.2.2.2.1+Int.toNat x.2.2.2.2.1+1)
def zt9 (x:zeN) (y:zeK):Nat:=(x.2.1.length+Int.toNat x.2.2.1+Int.toNat x.2.2.2.1+y.1.length+1)
def zgd:=zb1 base 36 [(303,zkW)] [] [(3,(kpL [0,3,9,10,11])),(11,(kpL [6,25,26,27]))] [(3,1,(kpL [0,3])),(11,3,(kpL [6]))] [(3,spW zvA z4x (zf7) default zu6 zu9),(11,spW zu3 zuW (zfO) default zui zt9)] [303]
theorem zvi:zJ zgd (lp (body f282) 0):=zq (id:=3) (hl:=rfl)
theorem zuf:zJ zgd (lp (body f282) 1):=zq (id:=11) (hl:=rfl)
def zls (slices:List (yC)):Wy0 (yC):=.bn (zkS (slices.length+Int.toNat 0+slices.length+(Int.ofNat slices.length).toNat +Int.toNat 0+1) slices 0 slices (Int.ofNat slices.length) 0) λr2=>.bn (zd0 r2.2) λr1=>.bn (zj8 (r2.1.length+(Int.ofNat r2.1.length).toNat +Int.toNat 0+r1.length+1) r2.1 (Int.ofNat r2.1.length) 0 r1) λr0=>.k r0
def zdx (slices:List (yC)):=(zls slices).fin default
def zwq:AL base (List (yC)×Unit):=zd (ze (vSl 105)) zt
def zj0:=zh zwq λx=>((zdx x.1).1,zwp (zdx x.1).2)
theorem ztP:SdP 282 zj0:=
 sT (cx':=zgd) (zi ⟨zuY,trivial⟩) call282 func282 (lOK (aC zvi (aC zuf aN))) (sg:=⟨[.own 145],[]⟩)
abbrev zsg:=yC×yC×Unit×Unit
abbrev zsk:=yC×Unit
abbrev zFU:=yC×yC×yC
def zxU (a:yC) (b:yC) (out_:yC):Wy zsg zsk zFU:=.i (decide (Int.ofNat a.length>0)) (.i (decide (Int.ofNat b.length>0)) (.i (decide ((0:Int)<=(0:Int))&&decide (0<Int.ofNat a.length)) (.i (decide ((0:Int)<=(0:Int))&&decide (0<Int.ofNat b.length)) (.bn (ziw (At.mk (a.getD (Int.toNat 0) default).At.Kind (a.getD (Int.toNat 0) default).At.Row (a.getD (Int.toNat 0) default).At.Ag (a.getD (Int.toNat 0) default).At.Func (a.getD (Int.toNat 0) default).At.Items (a.getD (Int.toNat 0) default).At.Op (a.getD (Int.toNat 0) default).At.Bd) (At.mk (b.getD (Int.toNat 0) default).At.Kind (b.getD (Int.toNat 0) default).At.Row (b.getD (Int.toNat 0) default).At.Ag (b.getD (Int.toNat 0) default).At.Func (b.getD (Int.toNat 0) default).At.Items (b.getD (Int.toNat 0) default).At.Op (b.getD (Int.toNat 0) default).At.Bd)) λr1=>.i (decide (r1<0)) (.i (decide ((0:Int)<=(0:Int))&&decide (0<Int.ofNat a.length)) (.i (decide ((out_.length+[FO.mk (At.mk (a.getD (Int.toNat 0) default).At.Kind (a.getD (Int.toNat 0) default).At.Row (a.getD (Int.toNat 0) default).At.Ag (a.getD (Int.toNat 0) default).At.Func (a.getD (Int.toNat 0) default).At.Items (a.getD (Int.toNat 0) default).At.Op (a.getD (Int.toNat 0) default).At.Bd) (a.getD (Int.toNat 0) default).Exp].length)*128<=zF)) (.i (decide ((0:Int)<=(1:Int))&&decide (1<=Int.ofNat a.length)&&decide (Int.ofNat a.length<=Int.ofNat a.length)) (.h ((List.take ((Int.ofNat a.length).toNat - Int.toNat 1) (List.drop (Int.toNat 1) a)),b,(),()) ((out_++[FO.mk (At.mk (a.getD (Int.toNat 0) default).At.Kind (a.getD (Int.toNat 0) default).At.Row (a.getD (Int.toNat 0) default).At.Ag (a.getD (Int.toNat 0) default).At.Func (a.getD (Int.toNat 0) default).At.Items (a.getD (Int.toNat 0) default).At.Op (a.getD (Int.toNat 0) default).At.Bd) (a.getD (Int.toNat 0) default).Exp]),())) .d) .d) .d) (.i (decide (r1>0)) (.i (decide ((0:Int)<=(0:Int))&&decide (0<Int.ofNat b.length)) (.i (decide ((out_.length+[FO.mk (At.mk (b.getD (Int.toNat 0) default).At.Kind (b.getD (Int.toNat 0) default).At.Row (b.getD (Int.toNat 0) default).At.Ag (b.getD (Int.toNat 0) default).At.Func (b.getD (Int.toNat 0) default).At.Items (b.getD (Int.toNat 0) default).At.Op (b.getD (Int.toNat 0) default).At.Bd) (b.getD (Int.toNat 0) default).Exp].length)*128<=zF)) (.i (decide ((0:Int)<=(1:Int))&&decide (1<=Int.ofNat b.length)&&decide (Int.ofNat b.length<=Int.ofNat b.length)) (.h (a,(List.take ((Int.ofNat b.length).toNat - Int.toNat 1) (List.drop (Int.toNat 1) b)),(),()) ((out_++[FO.mk (At.mk (b.getD (Int.toNat 0) default).At.Kind (b.getD (Int.toNat 0) default).At.Row (b.getD (Int.toNat 0) default).At.Ag (b.getD (Int.toNat 0) default).At.Func (b.getD (Int.toNat 0) default).At.Items (b.getD (Int.toNat 0) default).At.Op (b.getD (Int.toNat 0) default).At.Bd) (b.getD (Int.toNat 0) default).Exp]),())) .d) .d) .d) (.i (decide ((0:Int)<=(0:Int))&&decide (0<Int.ofNat a.length)) (.bn (zff (At.mk (a.getD (Int.toNat 0) default).At.Kind (a.getD (Int.toNat 0) default).At.Row (a.getD (Int.toNat 0) default).At.Ag (a.getD (Int.toNat 0) default).At.Func (a.getD (Int.toNat 0) default).At.Items (a.getD (Int.toNat 0) default).At.Op (a.getD (Int.toNat 0) default).At.Bd)) λr0=>.i (!r0) (.i (decide ((0:Int)<=(0:Int))&&decide (0<Int.ofNat b.length)) (.i (decide ((out_.length+[FO.mk (At.mk (a.getD (Int.toNat 0) default).At.Kind (a.getD (Int.toNat 0) default).At.Row (a.getD (Int.toNat 0) default).At.Ag (a.getD (Int.toNat 0) default).At.Func (a.getD (Int.toNat 0) default).At.Items (a.getD (Int.toNat 0) default).At.Op (a.getD (Int.toNat 0) default).At.Bd) (IntKind.i64.wrap ((a.getD (Int.toNat 0) default).Exp+(b.getD (Int.toNat 0) default).Exp))].length)*128<=zF)) (.i (decide ((0:Int)<=(1:Int))&&decide (1<=Int.ofNat a.length)&&decide (Int.ofNat a.length<=Int.ofNat a.length)) (.i (decide ((0:Int)<=(1:Int))&&decide (1<=Int.ofNat b.length)&&decide (Int.ofNat b.length<=Int.ofNat b.length)) (.h ((List.take ((Int.ofNat a.length).toNat - Int.toNat 1) (List.drop (Int.toNat 1) a)),(List.take ((Int.ofNat b.length).toNat - Int.toNat 1) (List.drop (Int.toNat 1) b)),(),()) ((out_++[FO.mk (At.mk (a.getD (Int.toNat 0) default).At.Kind (a.getD (Int.toNat 0) default).At.Row (a.getD (Int.toNat 0) default).At.Ag (a.getD (Int.toNat 0) default).At.Func (a.getD (Int.toNat 0) default).At.Items (a.getD (Int.toNat 0) default).At.Op (a.getD (Int.toNat 0) default).At.Bd) (IntKind.i64.wrap ((a.getD (Int.toNat 0) default).Exp+(b.getD (Int.toNat 0) default).Exp))]),())) .d) .d) .d) .d) (.i (decide ((out_.length+[FO.mk (At.mk (a.getD (Int.toNat 0) default).At.Kind (a.getD (Int.toNat 0) default).At.Row (a.getD (Int.toNat 0) default).At.Ag (a.getD (Int.toNat 0) default).At.Func (a.getD (Int.toNat 0) default).At.Items (a.getD (Int.toNat 0) default).At.Op (a.getD (Int.toNat 0) default).At.Bd) (a.getD (Int.toNat 0) default).Exp].length)*128<=zF)) (.i (decide ((0:Int)<=(1:Int))&&decide (1<=Int.ofNat a.length)&&decide (Int.ofNat a.length<=Int.ofNat a.length)) (.i (decide ((0:Int)<=(1:Int))&&decide (1<=Int.ofNat b.length)&&decide (Int.ofNat b.length<=Int.ofNat b.length)) (.h ((List.take ((Int.ofNat a.length).toNat - Int.toNat 1) (List.drop (Int.toNat 1) a)),(List.take ((Int.ofNat b.length).toNat - Int.toNat 1) (List.drop (Int.toNat 1) b)),(),()) ((out_++[FO.mk (At.mk (a.getD (Int.toNat 0) default).At.Kind (a.getD (Int.toNat 0) default).At.Row (a.getD (Int.toNat 0) default).At.Ag (a.getD (Int.toNat 0) default).At.Func (a.getD (Int.toNat 0) default).At.Items (a.getD (Int.toNat 0) default).At.Op (a.getD (Int.toNat 0) default).At.Bd) (a.getD (Int.toNat 0) default).Exp]),())) .d) .d) .d)) .d))) .d) .d) (.k (a,b,out_))) (.k (a,b,out_))
def zFD (x:zsg) (y:zsk):=zxU x.1 x.2.1 y.1
def zxm (n:Nat) (a:yC) (b:yC) (out_:yC):=zA (zFD) default n (a,b,(),()) (out_,())
def zSk (r:zFU):LTree ty:=.done (.exit 0) [.sl 145 r.1,.sl 145 r.2.1,.own 300] [.arr 145 r.2.2 false]
def zUm:LL ty zsg:=za (lSl 145) (za (lSl 145) (za (zfb 300) zm))
def zUZ:BL ty zsk:=zfl 145 false (zbg)
def zSg (x:zsg) (y:zsk):Nat:=(x.1.length+x.2.1.length+y.1.length+1)
def zEK:=zb1 base 75 [(105,zjg),(106,zlJ),(282,zj0)] [] [(2,[(0,.keep),(1,.keep),(5,.own 145)])] [(2,1,(kpL [0,1,5]))] [(2,spW zUm zUZ (zFD) default zSk zSg)] []
theorem zR6:zJ zEK (lp (body f239) 0):=zq (id:=2) (hl:=rfl)
def zHc (a:yC) (b:yC):Wy0 (yC):=.bn (zxm (a.length+b.length+0+1) a b []) λr5=>.bn (zdx [r5.2.2,r5.1,r5.2.1]) λr4=>.k r4
def zmX (a:yC) (b:yC):=(zHc a b).fin default
def zWz:AL base (yC×yC×Unit):=zd (ze (vSl 145)) (zd (ze (vSl 145)) zt)
def zCN:=zh zWz λx=>((zmX x.1 x.2.1).1,zwp (zmX x.1 x.2.1).2)
theorem zNx:SdP 239 zCN:=
 sT (cx':=zEK) (zi ⟨zmu,zs5,ztP,trivial⟩) call239 func239 (lOK (aC zR6 aN)) (sg:=⟨[.own 145],[]⟩)
def zSm:=zbx base 12 []
def zEP (a:Int) (b:Int):Wy0 (Int):=.i (!decide (b=0)) (.i (decide (a>IntKind.i64.wrap (Int.tdiv 1152921504606846976 b))) (.k 1152921504606846976) (.k (IntKind.i64.wrap (a*b)))) .d
def zqn (a:Int) (b:Int):=(zEP a b).fin default
def zBi:=zh zSX λx=>((zqn x.1 x.2.1).1,zMl (zqn x.1 x.2.1).2)
theorem zMi:SdP 238 zBi:=
 sT (cx':=zSm) (zi trivial) call238 func238 (lOK aN)
abbrev zta:=yB×Unit×Unit×yB×Int×Int×yB×Int×Int×Unit
abbrev ztl:=yB×Term×Unit
abbrev zG0:=yB×yB×Int×Int×yB
abbrev ztm:=yB×Unit×yB×Int×Int×Unit
abbrev ztf:=yB×Unit
def zoi (b:yB) (t19:yB) (t20:Int) (t21:Int) (t25:yB) (t26:Int) (t27:Int) (terms:yB) (x_:Term):Wy zta ztl zG0:=.i (decide (t27<t26)) (.i (decide (0<=t27)&&decide (t27<Int.ofNat t25.length)) (.bn (zqn x_.Cf (t25.getD t27.toNat default).Cf) λr5=>.bn (zmX x_.Fs (t25.getD t27.toNat default).Fs) λr4=>.i (decide ((terms.length+[TO.mk r5 r4].length)*32<=zF)) (.h (b,(),(),t19,t20,t21,t25,t26,(IntKind.i64.wrap (t27+1)),()) ((terms++[TO.mk r5 r4]),x_,())) .d) .d) (.k (b,t19,t20,t21,terms))
def zyT (x:zta) (y:ztl):=zoi x.1 x.2.2.2.1 x.2.2.2.2.1 x.2.2.2.2.2.1 x.2.2.2.2.2.2.1 x.2.2.2.2.2.2.2.1 x.2.2.2.2.2.2.2.2.1 y.1 y.2.1
def zG5 (n:Nat) (b:yB) (t19:yB) (t20:Int) (t21:Int) (t25:yB) (t26:Int) (t27:Int) (terms:yB) (x_:Term):=zA (zyT) default n (b,(),(),t19,t20,t21,t25,t26,t27,()) (terms,x_,())
def zUD (r:zG0):LTree ty:=.done (.exit 2) [.sl 107 r.1,.own 208,.sl 107 r.2.1,.lit (.int .i64 r.2.2.1),.lit (.int .i64 r.2.2.2.1)] [.arr 107 r.2.2.2.2 false]
def zXc:LL ty zta:=za (lSl 107) (za (zfb 208) (za (zdH 209 0) (za (lSl 107) (za zj (za zj (za (lSl 107) (za zj (za zj zm))))))))
def zWO:BL ty ztl:=zfl 107 false (zfj (zgi (λx=>(⟨x.1,x.2.1⟩:Term)) (λx=>(x.Cf,x.Fs,())) (λ_=>rfl) (za (zS .i64) (za (lSl 145) zm))) false (zbg))
def zoc (b:yB) (t19:yB) (t20:Int) (t21:Int) (terms:yB):Wy ztm ztf (yB):=.i (decide (t21<t20)) (.i (decide (0<=t21)&&decide (t21<Int.ofNat t19.length)) (.bn (zG5 (b.length+t19.length+t20.toNat +t21.toNat +b.length+(Int.ofNat b.length).toNat +Int.toNat 0+terms.length+(t19.getD t21.toNat default).Fs.length+1) b t19 t20 t21 b (Int.ofNat b.length) 0 terms (t19.getD t21.toNat default)) λr8=>.h ((r8.1),(),(r8.2.1),(r8.2.2.1),(IntKind.i64.wrap (r8.2.2.2.1+1)),()) ((r8.2.2.2.2),())) .d) (.k terms)
def zyU (x:ztm) (y:ztf):=zoc x.1 x.2.2.1 x.2.2.2.1 x.2.2.2.2.1 y.1
def zzd (n:Nat) (b:yB) (t19:yB) (t20:Int) (t21:Int) (terms:yB):=zA (zyU) default n (b,(),t19,t20,t21,()) (terms,())
def zWG:LL ty ztm:=za (lSl 107) (za (zfb 208) (za (lSl 107) (za zj (za zj zm))))
def zWA:BL ty ztf:=zfl 107 false (zbg)
def zUI (x:zta) (y:ztl):Nat:=(x.1.length+x.2.2.2.1.length+Int.toNat x.2.2.2.2.1+Int.toNat x.2.2.2.2.2.1+x.2.2.2.2.2.2.1.length+Int.toNat x.2.2.2.2.2.2.2.1+Int.toNat x.2.2.2.2.2.2.2.2.1+y.1.length+y.2.1.Fs.length+1)
def zVY (x:ztm) (y:ztf):Nat:=(x.1.length+x.2.2.1.length+Int.toNat x.2.2.2.1+Int.toNat x.2.2.2.2.1+y.1.length+1)
def zyV:=zb1 zbw 52 [(52,zcm),(124,zep),(125,zqX),(238,zBi),(239,zCN)] [] [(5,[(1,.keep),(6,.own 107),(19,.keep),(20,.keep),(21,.keep)]),(8,[(1,.keep),(6,.own 107),(8,.keep),(19,.keep),(20,.keep),(21,.keep),(25,.keep),(26,.keep),(27,.keep)])] [(5,1,(kpL [6])),(8,3,(kpL [1,6,19,20,21]))] [(8,spW zXc zWO (zyT) default zUD zUI),(5,spW zWG zWA (zyU) default zNc zVY)] []
theorem zUX:zJ zyV (lp (body f199) 1):=zq (id:=8) (hl:=rfl)
theorem zVK:zJ zyV (lp (body f199) 0):=zq (id:=5) (hl:=rfl)
def zIQ (a:yB) (b:yB):Wy0 (yB×Int):=.bn (zb8 a) λr14=>.i (!r14) (.k ([],1)) (.bn (zb8 b) λr13=>.i (!r13) (.k ([],1)) (.bn (zzd (b.length+a.length+(Int.ofNat a.length).toNat +Int.toNat 0+0+1) b a (Int.ofNat a.length) 0 []) λr12=>.bn (zhv r12) λr11=>.bn (zd7 r11) λr10=>.k (r10.1,r10.2)))
def ztV (a:yB) (b:yB):=(zIQ a b).fin default
def zDn:=zh zZo λx=>((ztV x.1 x.2.1).1,zMZ (ztV x.1 x.2.1).2)
theorem zRh:Sound Tryz.prog zbw 199 zDn:=
 sU (cx':=zyV) (zi ⟨zcu.nodr,zfa.nodr,zxX,zMi.nodr,zNx.nodr,trivial⟩) call199 func199 (lOK (aC zVK (aC zUX aN))) (sg:=⟨[.own 107,.pure],[]⟩)
def zBE:=zbx base 8 []
def zs2 (b:Bg) (p1:RowID):Wy0 (Bool):=.k (b.Row.Table==p1.Table&&(b.Row.Seq==p1.Seq&&true))
def zfG (b:Bg) (p1:RowID):=(zs2 b p1).fin default
def zC7:AL base (Bg×RowID×Unit):=zd (ze (zcd 65)) (zd (ze (zZ8 63)) zt)
def zjj:=zh zC7 λx=>((zfG x.1 x.2.1).1,zTe (zfG x.1 x.2.1).2)
theorem zpa:SdP 140 zjj:=
 sT (cx':=zBE) (zi trivial) call140 func140 (lOK aN)
def zPl:=zbx base 8 []
def zDe (x_:At):Wy0 (yB):=.k [TO.mk 1 [FO.mk (At.mk x_.Kind x_.Row x_.Ag x_.Func x_.Items x_.Op x_.Bd) 1]]
def ze8 (x_:At):=(zDe x_).fin default
def zgk:=zh z6N λx=>((ze8 x.1).1,z27 (ze8 x.1).2)
theorem ziA:SdP 117 zgk:=
 sT (cx':=zPl) (zi trivial) call117 func117 (lOK aN) (sg:=⟨[.own 107],[]⟩)
def zWU:=zbx base 9 [(116,zti),(117,zgk)]
def zJi (id:RowID):Wy0 (yB):=.bn (zp8 id) λr0=>.i (!r0) (.k []) (.k ((ze8 (At.mk 0 id [] 0 [] 0 (Value.mk 0 0 (ByteArray.mk #[])))).2))
def zpD (id:RowID):=(zJi id).fin default
def zwl:=zh z8l λx=>((zpD x.1).1,z27 (zpD x.1).2)
theorem zCk:SdP 63 zwl:=
 sT (cx':=zWU) (zi ⟨zx3,ziA,trivial⟩) call63 func63 (lOK aN) (sg:=⟨[.own 107],[]⟩)
abbrev zdL:=yE×(RowID×Unit)×Int×Int×Unit
def zqI (s:yE) (f:RowID) (t7:Int) (t8:Int):Wy zdL Unit (Int⊕Unit):=.i (decide (t8<t7)) (.i (decide (0<=t8)&&decide (t8<Int.ofNat s.length)) (.i ((zfG (s.getD t8.toNat default) f).2) (.k (.inl t8)) (.h (s,(f,()),t7,(IntKind.i64.wrap (t8+1)),()) ())) .d) (.k (.inr ()))
def zh1 (x:zdL) (y:Unit):=zqI x.1 x.2.1.1 x.2.2.1 x.2.2.2.1
def zqO (n:Nat) (s:yE) (f:RowID) (t7:Int) (t8:Int):=zA (zh1) (.inl default) n (s,(f,()),t7,t8,()) ()
def zqH:LL ty zdL:=za (lSl 65) (za (lFn 140 (za (zFw (zgi (λx=>(⟨x.1,x.2.1⟩:RowID)) (λx=>(x.Table,x.Seq,())) (λ_=>rfl) (za zj (za zj zm))) 0) zm)) (za zj (za zj zm)))
def zqq (x:zdL) (y:Unit):Nat:=(x.1.length+Int.toNat x.2.2.1+Int.toNat x.2.2.2.1+1)
def zhZ:=zb1 base 19 [(140,zjj)] [] [(2,(kpL [0,1,7,8]))] [(2,1,[]),(2,0,(kpL [4]))] [(2,spW zqH z4x (zh1) (.inl default) zrc zqq)] []
theorem zpP:zJ zhZ (lp (body f139) 0):=zq (id:=2) (hl:=rfl)
def zrq (s:yE) (f:RowID):Wy0 (Int):=.bn (zqO (s.length+(Int.ofNat s.length).toNat +Int.toNat 0+1) s f (Int.ofNat s.length) 0) λr0=>.i (isL r0) (.k (getL r0)) (.k (-1:Int))
def zct (s:yE) (f:RowID):=(zrq s f).fin default
def zri:AL base (yE×(RowID×Unit)×Unit):=zd (ze (vSl 65)) (zd (ze (vFn 140 (zyl (zZ8 63) zc1))) zt)
def zhj:=zh zri λx=>((zct x.1 x.2.1.1).1,zMl (zct x.1 x.2.1.1).2)
theorem zoN:SdP 139 zhj:=
 sT (cx':=zhZ) (zi ⟨zpa,trivial⟩) call139 func139 (lOK (aC zpP aN))
def zFv:=zbx base 18 [(63,zwl),(139,zhj),(140,zjj),(141,zgp)]
def zvx (id:RowID) (p1:yE):Wy0 (yB):=.bn (zct p1 id) λr2=>.i (decide (r2≥0)) (.i (decide (0<=r2)&&decide (r2<Int.ofNat p1.length)) (.bn (zgG (p1.getD r2.toNat default).To) λr0=>.k r0) .d) (.bn (zpD id) λr1=>.k r1)
def zhG (id:RowID) (p1:yE):=(zvx id p1).fin default
def zGf:AL base (RowID×(yE×Unit)×Unit):=zd (ze (zcd 63)) (zd (ze (z1O (zyl (vSl 65) zc1))) zt)
def zhs:=zh zGf λx=>((zhG x.1 x.2.1.1).1,z27 (zhG x.1 x.2.1.1).2)
theorem zkz:SdP 138 zhs:=
 sT (cx':=zFv) (zi ⟨zCk,zoN,zpa,zil,trivial⟩) call138 func138 (lOK aN) (sg:=⟨[.own 107],[]⟩)
abbrev zm1:=((yE×Unit)×Unit)×Unit×Unit×yB×Int×yB×Int×Int×yC×Int×Int×Int×Int×Unit
abbrev zem:=yB×yB×Unit
abbrev zBj:=yE×Int×yB×Int×Int×yC×Int×Int×yB×yB
abbrev zm2:=((yE×Unit)×Unit)×Unit×Unit×yB×Int×Int×yC×Int×Int×Unit
abbrev zA0:=Int⊕(yE×yB×Int×Int×yB×yB)
abbrev zm8:=((yE×Unit)×Unit)×Unit×yB×Int×Int×Unit
abbrev zng:=yB×Unit
abbrev zA2:=Int⊕yB
def zqd (zl:At->yE->Bool×(yB×Int)) (to:yE) (b:yB) (e:Int) (t16:yB) (t17:Int) (t18:Int) (t26:yC) (t27:Int) (t28:Int) (t40:Int) (t41:Int) (sum:yB) (product:yB):Wy zm1 zem zBj:=.i (decide (t41<t40)) (.i (e==0) (.bn (ztV product b) λr6=>.h (((to,()),()),(),(),b,(r6.2),t16,t17,t18,t26,t27,t28,t40,(IntKind.i64.wrap (t41+1)),()) (sum,(r6.1),())) (.h (((to,()),()),(),(),b,e,t16,t17,t18,t26,t27,t28,t40,(IntKind.i64.wrap (t41+1)),()) (sum,product,()))) (.k (to,e,t16,t17,t18,t26,t27,t28,sum,product))
def zxu (zl:At->yE->Bool×(yB×Int)) (x:zm1) (y:zem):=zqd zl x.1.1.1 x.2.2.2.1 x.2.2.2.2.1 x.2.2.2.2.2.1 x.2.2.2.2.2.2.1 x.2.2.2.2.2.2.2.1 x.2.2.2.2.2.2.2.2.1 x.2.2.2.2.2.2.2.2.2.1 x.2.2.2.2.2.2.2.2.2.2.1 x.2.2.2.2.2.2.2.2.2.2.2.1 x.2.2.2.2.2.2.2.2.2.2.2.2.1 y.1 y.2.1
def zp1 (zl:At->yE->Bool×(yB×Int)) (n:Nat) (to:yE) (b:yB) (e:Int) (t16:yB) (t17:Int) (t18:Int) (t26:yC) (t27:Int) (t28:Int) (t40:Int) (t41:Int) (sum:yB) (product:yB):=zA (zxu zl) default n (((to,()),()),(),(),b,e,t16,t17,t18,t26,t27,t28,t40,t41,()) (sum,product,())
def zHj (r:zBj):LTree ty:=.done (.exit 4) [.fn 138 ([.bptr ([.sl 65 r.1]) 0]),.own 272,.own 273,.lit (.int .i64 r.2.1),.sl 107 r.2.2.1,.lit (.int .i64 r.2.2.2.1),.lit (.int .i64 r.2.2.2.2.1),.sl 145 r.2.2.2.2.2.1,.lit (.int .i64 r.2.2.2.2.2.2.1),.lit (.int .i64 r.2.2.2.2.2.2.2.1)] [.arr 107 r.2.2.2.2.2.2.2.2.1 false,.arr 107 r.2.2.2.2.2.2.2.2.2 false]
def zJa:LL ty zm1:=za (lFn 138 (za (zFw (za (lSl 65) zm) 0) zm)) (za (zfb 272) (za (zfb 273) (za (lSl 107) (za zj (za (lSl 107) (za zj (za zj (za (lSl 145) (za zj (za zj (za zj (za zj zm))))))))))))
def zII:BL ty zem:=zfl 107 false (zfl 107 false (zbg))
def zrs (zl:At->yE->Bool×(yB×Int)) (to:yE) (t16:yB) (t17:Int) (t18:Int) (t26:yC) (t27:Int) (t28:Int) (sum:yB) (product:yB):Wy zm2 zem zA0:=.i (decide (t28<t27)) (.i (decide (0<=t28)&&decide (t28<Int.ofNat t26.length)) (.bn (zl (At.mk (t26.getD t28.toNat default).At.Kind (t26.getD t28.toNat default).At.Row (t26.getD t28.toNat default).At.Ag (t26.getD t28.toNat default).At.Func (t26.getD t28.toNat default).At.Items (t26.getD t28.toNat default).At.Op (t26.getD t28.toNat default).At.Bd) to) λr9=>.bn (zp1 zl (to.length+r9.1.length+r9.2.toNat +t16.length+t17.toNat +t18.toNat +t26.length+t27.toNat +t28.toNat +(t26.getD t28.toNat default).Exp.toNat +Int.toNat 0+sum.length+product.length+1) to r9.1 r9.2 t16 t17 t18 t26 t27 t28 (t26.getD t28.toNat default).Exp 0 sum product) λr8=>.i (r8.2.1 != 0) (.k (.inl (r8.2.1))) (.h ((((r8.1),()),()),(),(),(r8.2.2.1),(r8.2.2.2.1),(r8.2.2.2.2.1),(r8.2.2.2.2.2.1),(r8.2.2.2.2.2.2.1),(IntKind.i64.wrap (r8.2.2.2.2.2.2.2.1+1)),()) ((r8.2.2.2.2.2.2.2.2.1),(r8.2.2.2.2.2.2.2.2.2),()))) .d) (.k (.inr (to,t16,t17,t18,sum,product)))
def zyz (zl:At->yE->Bool×(yB×Int)) (x:zm2) (y:zem):=zrs zl x.1.1.1 x.2.2.2.1 x.2.2.2.2.1 x.2.2.2.2.2.1 x.2.2.2.2.2.2.1 x.2.2.2.2.2.2.2.1 x.2.2.2.2.2.2.2.2.1 y.1 y.2.1
def zq8 (zl:At->yE->Bool×(yB×Int)) (n:Nat) (to:yE) (t16:yB) (t17:Int) (t18:Int) (t26:yC) (t27:Int) (t28:Int) (sum:yB) (product:yB):=zA (zyz zl) (.inl default) n (((to,()),()),(),(),t16,t17,t18,t26,t27,t28,()) (sum,product,())
def zJX (r:zA0):LTree ty:=.ite (isL r) (.done .ret [.lit (.slice none 0 0),.lit (.int .i64 (getL r))] []) (.done (.exit 2) [.fn 138 ([.bptr ([.sl 65 (getR r).1]) 0]),.own 272,.own 273,.sl 107 (getR r).2.1,.lit (.int .i64 (getR r).2.2.1),.lit (.int .i64 (getR r).2.2.2.1)] [.arr 107 (getR r).2.2.2.2.1 false,.arr 107 (getR r).2.2.2.2.2 false])
def zKD:LL ty zm2:=za (lFn 138 (za (zFw (za (lSl 65) zm) 0) zm)) (za (zfb 272) (za (zfb 273) (za (lSl 107) (za zj (za zj (za (lSl 145) (za zj (za zj zm))))))))
def zrh (zl:At->yE->Bool×(yB×Int)) (to:yE) (t16:yB) (t17:Int) (t18:Int) (sum:yB):Wy zm8 zng zA2:=.i (decide (t18<t17)) (.i (decide (0<=t18)&&decide (t18<Int.ofNat t16.length)) (.bn (zpN (t16.getD t18.toNat default).Cf) λr14=>.bn (zq8 zl (to.length+t16.length+t17.toNat +t18.toNat +(t16.getD t18.toNat default).Fs.length+(Int.ofNat (t16.getD t18.toNat default).Fs.length).toNat +Int.toNat 0+sum.length+r14.length+1) to t16 t17 t18 (t16.getD t18.toNat default).Fs (Int.ofNat (t16.getD t18.toNat default).Fs.length) 0 sum r14) λr13=>.i (isL r13) (.k (.inl (getL r13))) (.bn (zpC (getR r13).2.2.2.2.1 (getR r13).2.2.2.2.2) λr12=>.i (r12.2 != 0) (.k (.inl (r12.2))) (.h ((((getR r13).1,()),()),(),(getR r13).2.1,(getR r13).2.2.1,(IntKind.i64.wrap ((getR r13).2.2.2.1+1)),()) ((r12.1),())))) .d) (.k (.inr sum))
def zyR (zl:At->yE->Bool×(yB×Int)) (x:zm8) (y:zng):=zrh zl x.1.1.1 x.2.2.1 x.2.2.2.1 x.2.2.2.2.1 y.1
def zq1 (zl:At->yE->Bool×(yB×Int)) (n:Nat) (to:yE) (t16:yB) (t17:Int) (t18:Int) (sum:yB):=zA (zyR zl) (.inl default) n (((to,()),()),(),t16,t17,t18,()) (sum,())
def zJu (r:zA2):LTree ty:=.ite (isL r) (.done .ret [.lit (.slice none 0 0),.lit (.int .i64 (getL r))] []) (.done (.exit 0) [.own 272] [.arr 107 (getR r) false])
def zKn:LL ty zm8:=za (lFn 138 (za (zFw (za (lSl 65) zm) 0) zm)) (za (zfb 272) (za (lSl 107) (za zj (za zj zm))))
def zKj:BL ty zng:=zfl 107 false (zbg)
def zHn (x:zm1) (y:zem):Nat:=(x.1.1.1.length+x.2.2.2.1.length+Int.toNat x.2.2.2.2.1+x.2.2.2.2.2.1.length+Int.toNat x.2.2.2.2.2.2.1+Int.toNat x.2.2.2.2.2.2.2.1+x.2.2.2.2.2.2.2.2.1.length+Int.toNat x.2.2.2.2.2.2.2.2.2.1+Int.toNat x.2.2.2.2.2.2.2.2.2.2.1+Int.toNat x.2.2.2.2.2.2.2.2.2.2.2.1+Int.toNat x.2.2.2.2.2.2.2.2.2.2.2.2.1+y.1.length+y.2.1.length+1)
def zIw (x:zm2) (y:zem):Nat:=(x.1.1.1.length+x.2.2.2.1.length+Int.toNat x.2.2.2.2.1+Int.toNat x.2.2.2.2.2.1+x.2.2.2.2.2.2.1.length+Int.toNat x.2.2.2.2.2.2.2.1+Int.toNat x.2.2.2.2.2.2.2.2.1+y.1.length+y.2.1.length+1)
def zI9 (x:zm8) (y:zng):Nat:=(x.1.1.1.length+x.2.2.1.length+Int.toNat x.2.2.2.1+Int.toNat x.2.2.2.2.1+y.1.length+1)
def zld (zl:At->yE->Bool×(yB×Int)):=zb1 zbw 68 [(72,zwE),(138,zhs),(197,zAD),(198,(zkk zl)),(199,zDn)] [] [(3,[(1,.keep),(6,.own 107),(16,.keep),(17,.keep),(18,.keep)]),(7,(kpL [1,6,9,16,17,18,26,27,28])),(11,[(1,.keep),(6,.keep),(9,.keep),(12,.sl 107),(13,.keep),(16,.keep),(17,.keep),(18,.keep),(26,.keep),(27,.keep),(28,.keep),(40,.keep),(41,.keep)])] [(3,1,(kpL [6])),(3,0,(kpL [4,5])),(7,3,(kpL [1,6,9,16,17,18])),(7,0,(kpL [4,5])),(11,5,(kpL [1,6,9,13,16,17,18,26,27,28]))] [(11,spW zJa zII (zxu zl) default zHj zHn),(7,spW zKD zII (zyz zl) (.inl default) zJX zIw),(3,spW zKn zKj (zyR zl) (.inl default) zJu zI9)] []
theorem zH1 (zl:At->yE->Bool×(yB×Int)):zJ (zld zl) (lp (body f137) 2):=zq (id:=11) (hl:=rfl)
theorem zI1 (zl:At->yE->Bool×(yB×Int)):zJ (zld zl) (lp (body f137) 1):=zq (id:=7) (hl:=rfl)
theorem zIU (zl:At->yE->Bool×(yB×Int)):zJ (zld zl) (lp (body f137) 0):=zq (id:=3) (hl:=rfl)
def zzz (zl:At->yE->Bool×(yB×Int)) (a:yB) (to:yE):Wy0 (yB×Int):=.bn (zq1 zl (to.length+a.length+(Int.ofNat a.length).toNat +Int.toNat 0+0+1) to a (Int.ofNat a.length) 0 []) λr18=>.i (isL r18) (.k ([],getL r18)) (.k (getR r18,0))
def zkh (zl:At->yE->Bool×(yB×Int)) (a:yB) (to:yE):=(zzz zl a to).fin default
theorem zGm (zl:At->yE->Bool×(yB×Int)) (zGt:Sound Tryz.prog zbw 198 (zkk zl)):Sound Tryz.prog zbw 137 (zj9 (zkh zl)):=
 sU (cx':=(zld zl)) (zi ⟨zCo,zkz.nodr,zMP.nodr,zGt,zRh,trivial⟩) call137 func137 (lOK (aC (zIU zl) (aC (zI1 zl) (aC (zH1 zl) aN)))) (sg:=⟨[.own 107,.pure],[]⟩)
def zXd:=zbx base 3 []
def zZF:Wy0 (yB):=.k [TO.mk 1 []]
def zt0:Bool×yB:=(zZF).fin default
def zqx:=zh z16 λx=>((zt0 ).1,z27 (zt0 ).2)
theorem zuQ:SdP 278 zqx:=
 sT (cx':=zXd) (zi trivial) call278 func278 (lOK aN) (sg:=⟨[.own 107],[]⟩)
def zPj:=zbx base 23 [(52,zcm),(117,zgk),(124,zep),(177,zmd),(278,zqx)]
def zDc (a:yB):Wy0 (yB×Int):=.bn (zb8 a) λr2=>.i (!r2) (.k ([],1)) (.i (Int.ofNat a.length==0) (.k (zt0.2,0)) (.bn (zeI a) λr1=>.i (r1) (.k ([],0)) (.bn (zd7 (ze8 (At.mk 3 (RowID.mk 0 0) [a] 0 [] 0 (Value.mk 0 0 (ByteArray.mk #[])))).2) λr0=>.k (r0.1,r0.2))))
def znV (a:yB):=(zDc a).fin default
def zzs:=zh zUU λx=>((znV x.1).1,zMZ (znV x.1).2)
theorem zKh:SdP 236 zzs:=
 sT (cx':=zPj) (zi ⟨zcu,ziA,zfa,ztE,zuQ,trivial⟩) call236 func236 (lOK aN) (sg:=⟨[.own 107,.pure],[]⟩)
def zR1:=zbx base 29 [(52,zcm),(117,zgk),(124,zep),(141,zgp),(175,znE),(176,zsw),(278,zqx)]
def zEx (a:yB):Wy0 (yB×Int):=.bn (zb8 a) λr5=>.i (!r5) (.k ([],1)) (.i (Int.ofNat a.length==0) (.bn (zgG a) λr0=>.k (r0,0)) (.bn (zkL a) λr4=>.i (r4) (.bn (zgG a) λr1=>.k (r1,0)) (.bn (zhh a) λr3=>.i (r3) (.k (zt0.2,0)) (.bn (zd7 (ze8 (At.mk 2 (RowID.mk 0 0) [a] 0 [] 0 (Value.mk 0 0 (ByteArray.mk #[])))).2) λr2=>.k (r2.1,r2.2)))))
def zpV (a:yB):=(zEx a).fin default
def zAG:=zh zUU λx=>((zpV x.1).1,zMZ (zpV x.1).2)
theorem zMs:SdP 235 zAG:=
 sT (cx':=zR1) (zi ⟨zcu,ziA,zfa,zil,zuz,zyL,zuQ,trivial⟩) call235 func235 (lOK aN) (sg:=⟨[.own 107,.pure],[]⟩)
def zR4:=zbx base 38 [(52,zcm),(115,zmZ),(117,zgk),(124,zep),(141,zgp)]
def zFH (a:yB) (b:yB):Wy0 (yB×Int):=.bn (zb8 a) λr4=>.i (!r4) (.k ([],1)) (.bn (zb8 b) λr3=>.i (!r3) (.k ([],1)) (.i (Int.ofNat b.length==0) (.bn (zgG a) λr0=>.k (r0,0)) (.i (Int.ofNat a.length==0) (.k ([],0)) (.bn (zhA a b) λr2=>.i (r2) (.k ([],0)) (.bn (zd7 (ze8 (At.mk 1 (RowID.mk 0 0) [a,b] 0 [] 0 (Value.mk 0 0 (ByteArray.mk #[])))).2) λr1=>.k (r1.1,r1.2))))))
def zpW (a:yB) (b:yB):=(zFH a b).fin default
def zA3:=zh zPO λx=>((zpW x.1 x.2.1).1,zMZ (zpW x.1 x.2.1).2)
theorem zM7:SdP 234 zA3:=
 sT (cx':=zR4) (zi ⟨zcu,zsC,ziA,zfa,zil,trivial⟩) call234 func234 (lOK aN) (sg:=⟨[.own 107,.pure],[]⟩)
def zfS (x:yD) (a b:Int):Bool×yD:=z12 z6 x a b
def zr4:Ab.Spec ty:=zh (cx:=base) (zd (zra 169) (zd (ze (zf3 .i64)) (zd (ze (zf3 .i64)) (zd (ze (vFn 172 zc1)) zt)))) λx=>((zfS x.1 x.2.1 x.2.2.1).1,⟨[],[some ⟨169,(zfS x.1 x.2.1 x.2.2.1).2⟩]⟩)
theorem zsB (c:Unit) (x y:Wd) (h:(z6 x y).1=true):zfm ((AV.agg (base.enc 169 x)::AV.agg (base.enc 169 y)::(zc1:VL base Unit).enc c).map Arg.pure)=some (true,⟨[.pure (.lit (.int .i64 (z6 x y).2))],[]⟩):=by
 rw [<- h]; kernel_rfl
theorem zrp:SdP 309 zr4:=by
 letI:DecidableEq (ty 169):=inferInstanceAs (DecidableEq Wd)
 exact z9E (T:=169) zhf rfl Go.Proofs.Tryz.insW Tryz.isAgg169 (by unfold zr; exact Tryz.sizeOf169) call309 zhn zc1 (λc=>z6) zsB
open Go.Proofs Go.RowKit
def zcv (x:yD) (m:Int):Bool×yD:=(decide (SortOK z6 x)&&(decide (m=x.length)&&decide (m<20)),zm4 z6 x)
def zlq:Ab.Spec ty:=zh (cx:=base) (zd (zra 169) (zd (ze (zf3 .i64)) (zd (ze (vFn 172 zc1)) zt))) λx=>((zcv x.1 x.2.1).1,⟨[],[some ⟨169,(zcv x.1 x.2.1).2⟩]⟩)
set_option maxHeartbeats 1000000 in
theorem zvI:SdP 308 zlq where
 enters:=call308
 calls:=λavs r hsp w F vs hF ha hsep=>by
  unfold zlq zh at hsp;split at hsp
  ·rename_i x hx;simp only [qa,qb] at hsp;obtain ⟨hpre,rfl⟩:=hsp;have hk:=(zd (zra 169) (zd (ze (zf3 .i64)) (zd (ze (vFn 172 zc1)) zt)):AL base _).kind vs avs x hx;have ha':=(zd (zra 169) (zd (ze (zf3 .i64)) (zd (ze (vFn 172 zc1)) zt)):AL base _).ok Tryz.prog zhf F w vs avs x hx ha;rw [hk] at hsep ⊢;clear hk hx ha;obtain ⟨l0,m,c,u0⟩:=x;obtain ⟨l,rfl⟩:∃ l:yD,l=l0:=⟨l0,rfl⟩;obtain ⟨v,vs',rfl,hv,hv'⟩:=ha'.inv;obtain ⟨mv,vs1,rfl,hm,hv1⟩:=hv'.inv;obtain ⟨fv,vs'',rfl,hfv,h0⟩:=hv1.inv;obtain rfl:=h0.nil_left.1;have hm:Rep base F w mv (.lit (.int .i64 m)):=hm;obtain rfl:mv=.int .i64 m:=by cases hm; rfl
   have hsl:∃ p cap,v=.slice p l.length cap:=by
    obtain ⟨⟨xs,hown,_⟩,_⟩:=(show zc6 base F w v 169 l/\∀ b,zbe v=some b->¬ F b from hv)
    rcases hown.2 with ⟨h1,h2⟩ | ⟨g0,cap,cur,h1,_⟩
    ·exact ⟨none,0,by rw [h1,show l.length=0 from h2]⟩
    ·exact ⟨_,cap,h1⟩
   have hpre:(decide (SortOK (α:=Wd) z6 l)&&(decide (m=l.length)&&decide (m<20)))=true:=hpre;simp only [qc,qe] at hpre;obtain ⟨hok,rfl,h20⟩:=hpre
   have hpp:(zfS l 0 (l.length:Int)).1=true:=by
    show (decide (SortOK (α:=Wd) z6 l)&&(decide ((0:Int)=0)&&decide ((l.length:Int)=l.length)))=true;simp only [qc,qe];exact ⟨hok,trivial,trivial⟩
   have hp:=(zrp).calls [.own 169 l,.pure (.lit (.int .i64 0)),.pure (.lit (.int .i64 (l.length:Int))),.pure (.fn 172 [])] ⟨[],[some ⟨169,(zcv l (l.length:Int)).2⟩]⟩
    (by rw [<- hpp]; kernel_rfl) w F [v,.int .i64 0,.int .i64 (l.length:Int),fv] hF (.cons hv (.cons (Rep.lit _) (.cons (Rep.lit _) (.cons hfv .nil)))) hsep
   replace hp:Calls Tryz.prog 309 #[v,.int .i64 0,.int .i64 (l.length:Int),fv] w λe w'=>∃ u,e=.returned u/\Post base F w [v] ⟨[],[some ⟨169,(zcv l (l.length:Int)).2⟩]⟩ u w':=hp
   show Calls Tryz.prog 308 #[v,.int .i64 (l.length:Int),fv] w λe w'=>∃ u,e=.returned u/\Post base F w [v] ⟨[],[some ⟨169,(zcv l (l.length:Int)).2⟩]⟩ u w'
   generalize (zcv l (l.length:Int)).2=res at hp ⊢;generalize hn:l.length=m at *;clear hpp hv hfv hsep hok hF hm;obtain ⟨p,cap,rfl⟩:=hsl;clear hn
   go_enter func308,ntmps308
   go_wp2
   refine wp_loop_rounds 1 ?_;rw [rounds_succ]
   go_wp2_with (go_at_call 309; refine hp.mono ?_; rintro e w' ⟨u,rfl,hpost⟩; obtain rfl:=hpost.unit)
   refine wp_loop_rounds 1 ?_;rw [rounds_succ]
   go_wp2
   all_goals first | (exfalso; omega) | (go_end0; exact ⟨_,rfl,hpost⟩)
  ·cases hsp
end Go.Proofs.YtoknknbmfmddbaaGreatDoor
namespace Go.Proofs.YtoknknbmfmddbaaGreatDoor
open Go Go.Ab
open Go.Proofs Go.RowKit
open Go.Proofs.Tryz
def z8 (x:yD):Bool×yD:=(decide (SortOK z6 x)&&decide (x.length<20),zm4 z6 x)
def zdF:Ab.Spec ty:=zh (cx:=base) (zd (zra 169) (zd (ze (vFn 172 zc1)) zt)) λx=>((z8 x.1).1,⟨[],[some ⟨169,(z8 x.1).2⟩]⟩)
set_option maxHeartbeats 1000000 in
theorem zme:SdP 302 zdF where
 enters:=call302
 calls:=λavs r hsp w F vs hF ha hsep=>by
  unfold zdF zh at hsp;split at hsp
  ·rename_i x hx;simp only [qa,qb] at hsp;obtain ⟨hpre,rfl⟩:=hsp;have hk:=(zd (zra 169) (zd (ze (vFn 172 zc1)) zt):AL base _).kind vs avs x hx;have ha':=(zd (zra 169) (zd (ze (vFn 172 zc1)) zt):AL base _).ok Tryz.prog zhf F w vs avs x hx ha;rw [hk] at hsep ⊢;clear hk hx ha;obtain ⟨l0,c,u0⟩:=x;obtain ⟨l,rfl⟩:∃ l:yD,l=l0:=⟨l0,rfl⟩;obtain ⟨v,vs',rfl,hv,hv'⟩:=ha'.inv;obtain ⟨fv,vs'',rfl,hfv,h0⟩:=hv'.inv;obtain rfl:=h0.nil_left.1
   have hsl:∃ p cap,v=.slice p l.length cap:=by
    obtain ⟨⟨xs,hown,_⟩,_⟩:=(show zc6 base F w v 169 l/\∀ b,zbe v=some b->¬ F b from hv)
    rcases hown.2 with ⟨h1,h2⟩ | ⟨g0,cap,cur,h1,_⟩
    ·exact ⟨none,0,by rw [h1,show l.length=0 from h2]⟩
    ·exact ⟨_,cap,h1⟩
   have hpre:(decide (SortOK (α:=Wd) z6 l)&&decide (l.length<20))=true:=hpre;simp only [qc,qe] at hpre;obtain ⟨hok,h20⟩:=hpre
   have hpp:(zcv l (l.length:Int)).1=true:=by
    show (decide (SortOK (α:=Wd) z6 l)&&(decide ((l.length:Int)=l.length)&&decide ((l.length:Int)<20)))=true;simp only [qc,qe];exact ⟨hok,trivial,by omega⟩
   have hp:=(zvI).calls [.own 169 l,.pure (.lit (.int .i64 (l.length:Int))),.pure (.fn 172 [])] ⟨[],[some ⟨169,(z8 l).2⟩]⟩
    (by rw [<- hpp]; kernel_rfl) w F [v,.int .i64 (l.length:Int),fv] hF (.cons hv (.cons (Rep.lit _) (.cons hfv .nil))) hsep
   replace hp:Calls Tryz.prog 308 #[v,.int .i64 (l.length:Int),fv] w λe w'=>∃ u,e=.returned u/\Post base F w [v] ⟨[],[some ⟨169,(z8 l).2⟩]⟩ u w':=hp
   show Calls Tryz.prog 302 #[v,fv] w λe w'=>∃ u,e=.returned u/\Post base F w [v] ⟨[],[some ⟨169,(z8 l).2⟩]⟩ u w'
   generalize (z8 l).2=res at hp ⊢;generalize hn:l.length=m at *;clear hpp hv hfv hsep hok hF;obtain ⟨p,cap,rfl⟩:=hsl;clear hn
   go_enter func302,ntmps302
   go_wp2_with (go_at_call 308; refine hp.mono ?_; rintro e w' ⟨u,rfl,hpost⟩; obtain rfl:=hpost.unit)
   go_end0
   exact ⟨_,rfl,hpost⟩
  ·cases hsp
end Go.Proofs.YtoknknbmfmddbaaGreatDoor
namespace Go.Proofs.YtoknknbmfmddbaaGreatDoor
open Go Go.Ab
open Go.Proofs.Tryz
abbrev zqw:=Unit×yD×Int×Int×Unit
abbrev zlw:=yD×Unit
def zlm (t6:yD) (t7:Int) (t8:Int) (out_:yD):Wy zqw zlw (yD):=.i (decide (t8<t7)) (.i (decide (0<=t8)&&decide (t8<Int.ofNat t6.length)) (.i (decide (Int.ofNat (t6.getD t8.toNat default).Ann.length>0)) (.bn (zgG (t6.getD t8.toNat default).Ann) λr0=>.i (decide ((out_.length+[WO.mk (t6.getD t8.toNat default).Value r0].length)*56<=zF)) (.h ((),t6,t7,(IntKind.i64.wrap (t8+1)),()) ((out_++[WO.mk (t6.getD t8.toNat default).Value r0]),())) .d) (.h ((),t6,t7,(IntKind.i64.wrap (t8+1)),()) (out_,()))) .d) (.k out_)
def zwM (x:zqw) (y:zlw):=zlm x.2.1 x.2.2.1 x.2.2.2.1 y.1
def zDf (n:Nat) (t6:yD) (t7:Int) (t8:Int) (out_:yD):=zA (zwM) default n ((),t6,t7,t8,()) (out_,())
def zQK (r:yD):LTree ty:=.done (.exit 0) [.own 116] [.arr 169 r false]
def zSv:LL ty zqw:=za (zfb 116) (za (lSl 169) (za zj (za zj zm)))
def zSS:BL ty zlw:=zfl 169 false (zbg)
def zQ0 (x:zqw) (y:zlw):Nat:=(x.2.1.length+Int.toNat x.2.2.1+Int.toNat x.2.2.2.1+y.1.length+1)
def zDk:=zb1 base 29 [(141,zgp),(172,zfm),(302,zdF)] [(302,[true,false])] [(3,[(3,.own 169),(6,.keep),(7,.keep),(8,.keep)])] [(3,1,(kpL [3]))] [(3,spW zSv zSS (zwM) default zQK zQ0)] []
theorem zPo:zJ zDk (lp (body f280) 0):=zq (id:=3) (hl:=rfl)
def zFd (l:yD):Wy0 (yD):=.bn (zDf (l.length+(Int.ofNat l.length).toNat +Int.toNat 0+0+1) l (Int.ofNat l.length) 0 []) λr3=>.bn (z8 r3) λr2=>.k r2
def zqi (l:yD):=(zFd l).fin default
def zQh (r:yD):ARes ty:=⟨[.own 169 r],[]⟩
def zTt:AL base zlw:=zd (ze (vSl 169)) zt
def zAY:=zh zTt λx=>((zqi x.1).1,zQh (zqi x.1).2)
theorem zL2:SdP 280 zAY:=
 sT (cx':=zDk) (zi ⟨zil,zhn,zme,trivial⟩) call280 func280 (lOK (aC zPo aN)) (sg:=⟨[.own 169],[]⟩)
def zOM:=zbx base 7 [(52,zcm)]
def zBW (w:Wd):Wy0 (Bool):=.bn (zb8 w.Ann) λr0=>.k (!r0)
def zmM (w:Wd):=(zBW w).fin default
def zlc:=zh zHz λx=>((zmM x.1).1,zTe (zmM x.1).2)
theorem zqg:SdP 279 zlc:=
 sT (cx':=zOM) (zi ⟨zcu,trivial⟩) call279 func279 (lOK aN)
def zS8:=zbx base 28 []
def zFK (op:Int) (sign:Int):Wy0 (Bool):=.i (op==5) (.k (sign==0)) (.i (op==6) (.k (sign != 0)) (.i (op==7) (.k (decide (sign<0))) (.i (op==8) (.k (decide (sign<=0))) (.i (op==9) (.k (decide (sign>0))) (.k (decide (sign≥0)))))))
def zpY (op:Int) (sign:Int):=(zFK op sign).fin default
def zBd:=zh zSX λx=>((zpY x.1 x.2.1).1,zTe (zpY x.1 x.2.1).2)
theorem zL3:SdP 281 zBd:=
 sT (cx':=zS8) (zi trivial) call281 func281 (lOK aN)
abbrev zdv:=yD×Unit×Int×Int×Unit
def zpe (s:yD) (t7:Int) (t8:Int):Wy zdv Unit (Int⊕Unit):=.i (decide (t8<t7)) (.i (decide (0<=t8)&&decide (t8<Int.ofNat s.length)) (.bn (zmM (s.getD t8.toNat default)) λr0=>.i (r0) (.k (.inl t8)) (.h (s,(),t7,(IntKind.i64.wrap (t8+1)),()) ())) .d) (.k (.inr ()))
def zg7 (x:zdv) (y:Unit):=zpe x.1 x.2.2.1 x.2.2.2.1
def zpf (n:Nat) (s:yD) (t7:Int) (t8:Int):=zA (zg7) (.inl default) n (s,(),t7,t8,()) ()
def zpn:LL ty zdv:=za (lSl 169) (za (lFn 279 (zm)) (za zj (za zj zm)))
def zoY (x:zdv) (y:Unit):Nat:=(x.1.length+Int.toNat x.2.2.1+Int.toNat x.2.2.2.1+1)
def zg6:=zb1 base 19 [(279,zlc)] [] [(2,(kpL [0,1,7,8]))] [(2,1,[]),(2,0,(kpL [4]))] [(2,spW zpn z4x (zg7) (.inl default) zrc zoY)] []
theorem zoU:zJ zg6 (lp (body f228) 0):=zq (id:=2) (hl:=rfl)
def zpL (s:yD):Wy0 (Int):=.bn (zpf (s.length+(Int.ofNat s.length).toNat +Int.toNat 0+1) s (Int.ofNat s.length) 0) λr2=>.i (isL r2) (.k (getL r2)) (.k (-1:Int))
def zdc (s:yD):=(zpL s).fin default
def zpR:AL base (yD×Unit×Unit):=zd (ze (vSl 169)) (zd (ze (vFn 279 zc1)) zt)
def zgC:=zh zpR λx=>((zdc x.1).1,zMl (zdc x.1).2)
theorem znz:SdP 228 zgC:=
 sT (cx':=zg6) (zi ⟨zqg,trivial⟩) call228 func228 (lOK (aC zoU aN))
def znx:=zbx base 9 [(228,zgC),(279,zlc)]
def zgy (s:yD):Wy0 (Bool):=.bn (zdc s) λr0=>.k (decide (r0≥0))
def zb6 (s:yD):=(zgy s).fin default
def zfB:=zh zpR λx=>((zb6 x.1).1,zTe (zb6 x.1).2)
theorem zlY:SdP 178 zfB:=
 sT (cx':=znx) (zi ⟨znz,zqg,trivial⟩) call178 func178 (lOK aN)
def zUH:=zbx base 45 [(117,zgk),(124,zep),(178,zfB),(181,zq3),(195,zlU),(278,zqx),(279,zlc),(280,zAY),(281,zBd)]
def zGR (fn:Int) (items:yD) (op:Int) (bound:Value):Wy0 (yB×Int):=.bn (zjx fn items op bound) λr5=>.i (!r5) (.k ([],1)) (.bn (zb6 items) λr4=>.i (r4) (.k ([],1)) (.bn (zqi items) λr3=>.i (decide (Int.ofNat r3.length>0)) (.bn (zd7 (ze8 (At.mk 4 (RowID.mk 0 0) [] fn r3 op bound)).2) λr0=>.k (r0.1,r0.2)) (.i (fn==0) (.bn (ziC 0 bound.Int) λr2=>.bn (zpY op r2) λr1=>.i (r1) (.k (zt0.2,0)) (.k ([],0))) (.k ([],0)))))
def zm9 (fn:Int) (items:yD) (op:Int) (bound:Value):=(zGR fn items op bound).fin default
def zCO:=zh zQ9 λx=>((zm9 x.1 x.2.1 x.2.2.1 x.2.2.2.1).1,zMZ (zm9 x.1 x.2.1 x.2.2.1 x.2.2.2.1).2)
theorem zNT:SdP 237 zCO:=
 sT (cx':=zUH) (zi ⟨ziA,zfa,zlY,zxz,zq9,zuQ,zqg,zL2,zL3,trivial⟩) call237 func237 (lOK aN) (sg:=⟨[.own 107,.pure],[]⟩)
abbrev zjQ:=((yE×Unit)×Unit)×Unit×Unit×yA×Int×Int×Unit
abbrev zjK:=At×yA×Unit
abbrev zw5:=Int⊕(yE×At×yA)
abbrev zjJ:=((yE×Unit)×Unit)×Unit×Unit×yD×Int×Int×Unit
abbrev zjI:=At×yD×Unit
abbrev zw3:=Int⊕(At×yD)
def zmm (zP:yB->yE->Bool×(yB×Int)) (to:yE) (t24:yA) (t25:Int) (t26:Int) (x_:At) (args:yA):Wy zjQ zjK zw5:=.i (decide (t26<t25)) (.i (decide (0<=t26)&&decide (t26<Int.ofNat t24.length)) (.bn (zP (t24.getD t26.toNat default) to) λr2=>.i (r2.2 != 0) (.k (.inl (r2.2))) (.i (decide ((args.length+[r2.1].length)*24<=zF)) (.h (((to,()),()),(),(),t24,t25,(IntKind.i64.wrap (t26+1)),()) (x_,(args++[r2.1]),())) .d)) .d) (.k (.inr (to,x_,args)))
def zuq (zP:yB->yE->Bool×(yB×Int)) (x:zjQ) (y:zjK):=zmm zP x.1.1.1 x.2.2.2.1 x.2.2.2.2.1 x.2.2.2.2.2.1 y.1 y.2.1
def ziK (zP:yB->yE->Bool×(yB×Int)) (n:Nat) (to:yE) (t24:yA) (t25:Int) (t26:Int) (x_:At) (args:yA):=zA (zuq zP) (.inl default) n (((to,()),()),(),(),t24,t25,t26,()) (x_,args,())
def zDH (r:zw5):LTree ty:=.ite (isL r) (.done .ret [.lit (.slice none 0 0),.lit (.int .i64 (getL r))] []) (.done (.exit 0) [.fn 138 ([.bptr ([.sl 65 (getR r).1]) 0]),.ptr 432 0,.own 433] [.box (base.enc 143 (getR r).2.1) false,.arr 51 (getR r).2.2 false])
def zFT:LL ty zjQ:=za (lFn 138 (za (zFw (za (lSl 65) zm) 0) zm)) (za (zdH 432 0) (za (zfb 433) (za (lSl 51) (za zj (za zj zm)))))
def zEy:BL ty zjK:=zfj (zgi (λx=>(⟨x.1,⟨x.2.1,x.2.2.1⟩,x.2.2.2.1,x.2.2.2.2.1,x.2.2.2.2.2.1,x.2.2.2.2.2.2.1,⟨x.2.2.2.2.2.2.2.1,x.2.2.2.2.2.2.2.2.1,x.2.2.2.2.2.2.2.2.2.1⟩⟩:At)) (λx=>(x.Kind,x.Row.Table,x.Row.Seq,x.Ag,x.Func,x.Items,x.Op,x.Bd.Kind,x.Bd.Int,x.Bd.Text,())) (λ_=>rfl) (za (zS .i64) (za (zS .i64) (za (zS .i64) (za (lSl 51) (za (zS .i64) (za (lSl 169) (za (zS .i64) (za (zS .i64) (za (zS .i64) (za znN zm))))))))))) false (zfl 51 false (zbg))
def zlN (zP:yB->yE->Bool×(yB×Int)) (to:yE) (t74:yD) (t75:Int) (t76:Int) (x_:At) (items:yD):Wy zjJ zjI zw3:=.i (decide (t76<t75)) (.i (decide (0<=t76)&&decide (t76<Int.ofNat t74.length)) (.bn (zP (t74.getD t76.toNat default).Ann to) λr4=>.i (r4.2 != 0) (.k (.inl (r4.2))) (.i (decide ((items.length+[WO.mk (t74.getD t76.toNat default).Value r4.1].length)*56<=zF)) (.h (((to,()),()),(),(),t74,t75,(IntKind.i64.wrap (t76+1)),()) (x_,(items++[WO.mk (t74.getD t76.toNat default).Value r4.1]),())) .d)) .d) (.k (.inr (x_,items)))
def ztQ (zP:yB->yE->Bool×(yB×Int)) (x:zjJ) (y:zjI):=zlN zP x.1.1.1 x.2.2.2.1 x.2.2.2.2.1 x.2.2.2.2.2.1 y.1 y.2.1
def zid (zP:yB->yE->Bool×(yB×Int)) (n:Nat) (to:yE) (t74:yD) (t75:Int) (t76:Int) (x_:At) (items:yD):=zA (ztQ zP) (.inl default) n (((to,()),()),(),(),t74,t75,t76,()) (x_,items,())
def zCZ (r:zw3):LTree ty:=.ite (isL r) (.done .ret [.lit (.slice none 0 0),.lit (.int .i64 (getL r))] []) (.done (.exit 3) [.ptr 432 0,.own 433] [.box (base.enc 143 (getR r).1) false,.arr 169 (getR r).2 false])
def zD3:LL ty zjJ:=za (lFn 138 (za (zFw (za (lSl 65) zm) 0) zm)) (za (zdH 432 0) (za (zfb 433) (za (lSl 169) (za zj (za zj zm)))))
def zDQ:BL ty zjI:=zfj (zgi (λx=>(⟨x.1,⟨x.2.1,x.2.2.1⟩,x.2.2.2.1,x.2.2.2.2.1,x.2.2.2.2.2.1,x.2.2.2.2.2.2.1,⟨x.2.2.2.2.2.2.2.1,x.2.2.2.2.2.2.2.2.1,x.2.2.2.2.2.2.2.2.2.1⟩⟩:At)) (λx=>(x.Kind,x.Row.Table,x.Row.Seq,x.Ag,x.Func,x.Items,x.Op,x.Bd.Kind,x.Bd.Int,x.Bd.Text,())) (λ_=>rfl) (za (zS .i64) (za (zS .i64) (za (zS .i64) (za (lSl 51) (za (zS .i64) (za (lSl 169) (za (zS .i64) (za (zS .i64) (za (zS .i64) (za znN zm))))))))))) false (zfl 169 false (zbg))
def zDG (x:zjQ) (y:zjK):Nat:=(x.1.1.1.length+x.2.2.2.1.length+Int.toNat x.2.2.2.2.1+Int.toNat x.2.2.2.2.2.1+y.1.Ag.length+y.1.Items.length+y.2.1.length+1)
def zC0 (x:zjJ) (y:zjI):Nat:=(x.1.1.1.length+x.2.2.2.1.length+Int.toNat x.2.2.2.2.1+Int.toNat x.2.2.2.2.2.1+y.1.Ag.length+y.1.Items.length+y.2.1.length+1)
def zmb (zP:yB->yE->Bool×(yB×Int)):=zb1 zbw 108 [(137,(zj9 zP)),(138,zhs),(234,zA3),(235,zAG),(236,zzs),(237,zCO)] [] [(5,[(1,.keep),(2,.keep),(6,.own 51),(24,.keep),(25,.keep),(26,.keep)]),(21,[(1,.keep),(2,.keep),(11,.own 169),(74,.keep),(75,.keep),(76,.keep)])] [(5,1,(kpL [1,2,6])),(5,0,(kpL [4,5])),(21,4,(kpL [2,11])),(21,0,(kpL [4,5]))] [(5,spW zFT zEy (zuq zP) (.inl default) zDH zDG),(21,spW zD3 zDQ (ztQ zP) (.inl default) zCZ zC0)] []
theorem zDY (zP:yB->yE->Bool×(yB×Int)):zJ (zmb zP) (lp (body f198) 0):=zq (id:=5) (hl:=rfl)
theorem zCY (zP:yB->yE->Bool×(yB×Int)):zJ (zmb zP) (lp (body f198) 1):=zq (id:=21) (hl:=rfl)
def zvv (zP:yB->yE->Bool×(yB×Int)) (x_:At) (to:yE):Wy0 (yB×Int):=.i (x_.Kind==0) (.bn (zhG x_.Row to) λr6=>.k (r6,0)) (.bn (ziK zP (to.length+x_.Ag.length+(Int.ofNat x_.Ag.length).toNat +Int.toNat 0+x_.Ag.length+x_.Items.length+0+1) to x_.Ag (Int.ofNat x_.Ag.length) 0 (At.mk x_.Kind x_.Row x_.Ag x_.Func x_.Items x_.Op x_.Bd) []) λr12=>.i (isL r12) (.k ([],getL r12)) (.i ((getR r12).2.1.Kind==1) (.i (decide ((0:Int)<=(0:Int))&&decide (0<Int.ofNat (getR r12).2.2.length)) (.i (decide ((0:Int)<=(1:Int))&&decide (1<Int.ofNat (getR r12).2.2.length)) (.bn (zpW ((getR r12).2.2.getD (Int.toNat 0) default) ((getR r12).2.2.getD (Int.toNat 1) default)) λr7=>.k (r7.1,r7.2)) .d) .d) (.i ((getR r12).2.1.Kind==2) (.i (decide ((0:Int)<=(0:Int))&&decide (0<Int.ofNat (getR r12).2.2.length)) (.bn (zpV ((getR r12).2.2.getD (Int.toNat 0) default)) λr8=>.k (r8.1,r8.2)) .d) (.i ((getR r12).2.1.Kind==3) (.i (decide ((0:Int)<=(0:Int))&&decide (0<Int.ofNat (getR r12).2.2.length)) (.bn (znV ((getR r12).2.2.getD (Int.toNat 0) default)) λr9=>.k (r9.1,r9.2)) .d) (.bn (zid zP ((getR r12).1.length+(getR r12).2.1.Items.length+(Int.ofNat (getR r12).2.1.Items.length).toNat +Int.toNat 0+(getR r12).2.1.Ag.length+(getR r12).2.1.Items.length+0+1) (getR r12).1 (getR r12).2.1.Items (Int.ofNat (getR r12).2.1.Items.length) 0 (At.mk (getR r12).2.1.Kind (getR r12).2.1.Row (getR r12).2.1.Ag (getR r12).2.1.Func (getR r12).2.1.Items (getR r12).2.1.Op (getR r12).2.1.Bd) []) λr11=>.i (isL r11) (.k ([],getL r11)) (.bn (zm9 (getR r11).1.Func (getR r11).2 (getR r11).1.Op (getR r11).1.Bd) λr10=>.k (r10.1,r10.2)))))))
def zhH (zP:yB->yE->Bool×(yB×Int)) (x_:At) (to:yE):=(zvv zP x_ to).fin default
theorem zBQ (zP:yB->yE->Bool×(yB×Int)) (zMX:Sound Tryz.prog zbw 137 (zj9 zP)):Sound Tryz.prog zbw 198 (zkk (zhH zP)):=
 sU (cx':=(zmb zP)) (zi ⟨zMX,zkz.nodr,zM7.nodr,zMs.nodr,zKh.nodr,zNT.nodr,trivial⟩) call198 func198 (lOK (aC (zDY zP) (aC (zCY zP) aN))) (sg:=⟨[.own 107,.pure],[]⟩)
def zEv:Nat->(yB->yE->Bool×(yB×Int))×(At->yE->Bool×(yB×Int))
 | 0=>(λ_ _=>(false,default),λ_ _=>(false,default))
 | n+1=>(zkh ((zEv n).2),zhH ((zEv n).1))
def zkB (n:Nat):yB->yE->Bool×(yB×Int):=(zEv n).1
def zhN (n:Nat):At->yE->Bool×(yB×Int):=(zEv n).2
theorem zKW (n:Nat):zkB (n+1)=zkh (zhN n):=rfl
theorem zFl (n:Nat):zhN (n+1)=zhH (zkB n):=rfl
theorem zRn:∀ n,Sound Tryz.prog zbw 137 (zj9 (zkB n))/\Sound Tryz.prog zbw 198 (zkk (zhN n))
 | 0=>⟨zbk call137 (λ_=>rfl),zbk call198 (λ_=>rfl)⟩
 | n+1=>by
  have ih:=zRn n;exact ⟨zGm _ (ih.2),zBQ _ (ih.1)⟩
def zx4:yB->yE->Bool×(yB×Int):=zkB 1000
def zyx:Ab.Spec ty:=zj9 zx4
theorem zIG:Sound Tryz.prog zbw 137 zyx:=(zRn 1000).1
def zFe:=zbx base 7 [(52,zcm)]
def zvD (b:Bg):Wy0 (Bool):=.bn (zb8 b.To) λr0=>.k (!r0)
def zhK (b:Bg):=(zvD b).fin default
def zGl:AL base (Bg×Unit):=zd (ze (zcd 65)) zt
def zhr:=zh zGl λx=>((zhK x.1).1,zTe (zhK x.1).2)
theorem zkj:SdP 136 zhr:=
 sT (cx':=zFe) (zi ⟨zcu,trivial⟩) call136 func136 (lOK aN)
abbrev zdK:=yE×Unit×Int×Int×Unit
def zqG (s:yE) (t7:Int) (t8:Int):Wy zdK Unit (Int⊕Unit):=.i (decide (t8<t7)) (.i (decide (0<=t8)&&decide (t8<Int.ofNat s.length)) (.bn (zhK (s.getD t8.toNat default)) λr0=>.i (r0) (.k (.inl t8)) (.h (s,(),t7,(IntKind.i64.wrap (t8+1)),()) ())) .d) (.k (.inr ()))
def zh3 (x:zdK) (y:Unit):=zqG x.1 x.2.2.1 x.2.2.2.1
def zqK (n:Nat) (s:yE) (t7:Int) (t8:Int):=zA (zh3) (.inl default) n (s,(),t7,t8,()) ()
def zqM:LL ty zdK:=za (lSl 65) (za (lFn 136 (zm)) (za zj (za zj zm)))
def zqe (x:zdK) (y:Unit):Nat:=(x.1.length+Int.toNat x.2.2.1+Int.toNat x.2.2.2.1+1)
def zh2:=zb1 base 19 [(136,zhr)] [] [(2,(kpL [0,1,7,8]))] [(2,1,[]),(2,0,(kpL [4]))] [(2,spW zqM z4x (zh3) (.inl default) zrc zqe)] []
theorem zpS:zJ zh2 (lp (body f139) 0):=zq (id:=2) (hl:=rfl)
def zq5 (s:yE):Wy0 (Int):=.bn (zqK (s.length+(Int.ofNat s.length).toNat +Int.toNat 0+1) s (Int.ofNat s.length) 0) λr2=>.i (isL r2) (.k (getL r2)) (.k (-1:Int))
def zdw (s:yE):=(zq5 s).fin default
def zrj:AL base (yE×Unit×Unit):=zd (ze (vSl 65)) (zd (ze (vFn 136 zc1)) zt)
def zha:=zh zrj λx=>((zdw x.1).1,zMl (zdw x.1).2)
theorem zoQ:SdP 139 zha:=
 sT (cx':=zh2) (zi ⟨zkj,trivial⟩) call139 func139 (lOK (aC zpS aN))
def zoT:=zbx base 9 [(136,zhr),(139,zha)]
def zhi (s:yE):Wy0 (Bool):=.bn (zdw s) λr0=>.k (decide (r0≥0))
def zca (s:yE):=(zhi s).fin default
def zf8:=zh zrj λx=>((zca x.1).1,zTe (zca x.1).2)
theorem zmP:SdP 135 zf8:=
 sT (cx':=zoT) (zi ⟨zkj,zoQ,trivial⟩) call135 func135 (lOK aN)
def zJv:=zbx zbw 18 [(52,zcm),(135,zf8),(136,zhr),(137,zyx),(138,zhs)]
def zyA (a:yB) (l:yE):Wy0 (yB×Int):=.bn (zb8 a) λr2=>.i (!r2) (.k ([],1)) (.bn (zca l) λr1=>.i (r1) (.k ([],1)) (.bn (zx4 a l) λr0=>.k (r0.1,r0.2)))
def zjq (a:yB) (l:yE):=(zyA a l).fin default
def zKz:AL zbw (yB×yE×Unit):=zd (ze (vSl 107)) (zd (ze (vSl 65)) zt)
def zvl:=zh zKz λx=>((zjq x.1 x.2.1).1,zMZ (zjq x.1 x.2.1).2)
theorem zEQ:Sound Tryz.prog zbw 80 zvl:=
 sU (cx':=zJv) (zi ⟨zcu.nodr,zmP.nodr,zkj.nodr,zIG,zkz.nodr,trivial⟩) call80 func80 (lOK aN) (sg:=⟨[.own 107,.pure],[]⟩)
def zey:Cx ty:={ base with nt:=8 }
def zcr (s:yG):Bool×yG:=(decide (s.length*32<=zF),s)
def zgK:Ab.Spec ty:=zh (cx:=base) (zd (ze (vSl 79)) zt) λx=>((zcr x.1).1,⟨[.own 79 (zcr x.1).2],[]⟩)
theorem zxe:zeh zey f62 (body f62) ⟨[.own 79],[]⟩ [.pure (.lit (.slice none 0 0))]=some ⟨[.own 79 []],[]⟩:=by kernel_rfl
theorem zvQ (p:Addr) (c:Nat):zeh zey f62 (body f62) ⟨[.own 79],[]⟩ [.pure (.lit (.slice (some p) 0 c))]=some ⟨[.own 79 []],[]⟩:=by kernel_rfl
theorem zwf (l:yG):zeh zey f62 (body f62) ⟨[.own 79],[]⟩ [.pure (.sl 79 l)]=bif !l.isEmpty then bif decide ((([]:List (ty 79)).length+l.length)*32<=zF) then some ⟨[.own 79 l],[]⟩ else none else none:=by kernel_rfl
theorem zkQ:SdP 62 zgK:=
 zv8 (cx':=zey) (bytes:=32) zzQ zhf ⟨⟨rfl,rfl,rfl,rfl,rfl,rfl⟩,rfl⟩ (λg s h=>by cases h) call62 func62 (c:=body f62) (by kernel_rfl) (zr5 (l:=[]) (by kernel_rfl) trivial) zxe zvQ zwf (by kernel_rfl)
def zTX:=zbx zbw 17 [(62,zgK),(80,zvl)]
def zGN (x_:Row) (a:yB):Wy0 (Row):=.bn (zjq a []) λr1=>.bn (zcr x_.Values) λr0=>.k (⟨r0,r1.1⟩:Row)
def znm (x_:Row) (a:yB):=(zGN x_ a).fin default
def zXp:AL zbw (Row×yB×Unit):=zd (ze (zcd 54)) (zd (ze (vSl 107)) zt)
def zB2:=zh zXp λx=>((znm x.1 x.2.1).1,zTb (znm x.1 x.2.1).2)
theorem zNv:Sound Tryz.prog zbw 71 zB2:=
 sU (cx':=zTX) (zi ⟨zkQ.nodr,zEQ,trivial⟩) call71 func71 (lOK aN)
def zef:Cx ty:={ base with nt:=8 }
def zbX (s:yH):Bool×yH:=(decide (s.length*24<=zF),s)
def zfP:Ab.Spec ty:=zh (cx:=base) (zd (ze (vSl 75)) zt) λx=>((zbX x.1).1,⟨[.own 75 (zbX x.1).2],[]⟩)
theorem zvP:zeh zef f61 (body f61) ⟨[.own 75],[]⟩ [.pure (.lit (.slice none 0 0))]=some ⟨[.own 75 []],[]⟩:=by kernel_rfl
theorem zt8 (p:Addr) (c:Nat):zeh zef f61 (body f61) ⟨[.own 75],[]⟩ [.pure (.lit (.slice (some p) 0 c))]=some ⟨[.own 75 []],[]⟩:=by kernel_rfl
theorem zvb (l:yH):zeh zef f61 (body f61) ⟨[.own 75],[]⟩ [.pure (.sl 75 l)]=bif !l.isEmpty then bif decide ((([]:List (ty 75)).length+l.length)*24<=zF) then some ⟨[.own 75 l],[]⟩ else none else none:=by kernel_rfl
theorem zj1:SdP 61 zfP:=
 zv8 (cx':=zef) (bytes:=24) zzQ zhf ⟨⟨rfl,rfl,rfl,rfl,rfl,rfl⟩,rfl⟩ (λg s h=>by cases h) call61 func61 (c:=body f61) (by kernel_rfl) (zr5 (l:=[]) (by kernel_rfl) trivial) zvP zt8 zvb (by kernel_rfl)
def zfT:Cx ty:={ base with nt:=8 }
def zeT (s:yF):Bool×yF:=(decide (s.length*48<=zF),s)
def znY:Ab.Spec ty:=zh (cx:=base) (zd (ze (vSl 54)) zt) λx=>((zeT x.1).1,⟨[.own 54 (zeT x.1).2],[]⟩)
theorem zzM:zeh zfT f68 (body f68) ⟨[.own 54],[]⟩ [.pure (.lit (.slice none 0 0))]=some ⟨[.own 54 []],[]⟩:=by kernel_rfl
theorem zym (p:Addr) (c:Nat):zeh zfT f68 (body f68) ⟨[.own 54],[]⟩ [.pure (.lit (.slice (some p) 0 c))]=some ⟨[.own 54 []],[]⟩:=by kernel_rfl
theorem zyY (l:yF):zeh zfT f68 (body f68) ⟨[.own 54],[]⟩ [.pure (.sl 54 l)]=bif !l.isEmpty then bif decide ((([]:List (ty 54)).length+l.length)*48<=zF) then some ⟨[.own 54 l],[]⟩ else none else none:=by kernel_rfl
theorem zyk:SdP 68 znY:=
 zv8 (cx':=zfT) (bytes:=48) zzQ zhf ⟨⟨rfl,rfl,rfl,rfl,rfl,rfl⟩,rfl⟩ (λg s h=>by cases h) call68 func68 (c:=body f68) (by kernel_rfl) (zr5 (l:=[]) (by kernel_rfl) trivial) zzM zym zyY (by kernel_rfl)
abbrev ze2:=yF×Unit×Int×Int×Unit
def zvB (s:yF) (t7:Int) (t8:Int):Wy ze2 Unit (Int⊕Unit):=.i (decide (t8<t7)) (.i (decide (0<=t8)&&decide (t8<Int.ofNat s.length)) (.i ((zg9 (s.getD t8.toNat default)).2) (.k (.inl t8)) (.h (s,(),t7,(IntKind.i64.wrap (t8+1)),()) ())) .d) (.k (.inr ()))
def zkX (x:ze2) (y:Unit):=zvB x.1 x.2.2.1 x.2.2.2.1
def zvK (n:Nat) (s:yF) (t7:Int) (t8:Int):=zA (zkX) (.inl default) n (s,(),t7,t8,()) ()
def zvU:LL ty ze2:=za (lSl 54) (za (lFn 69 (zm)) (za zj (za zj zm)))
def zuT (x:ze2) (y:Unit):Nat:=(x.1.length+Int.toNat x.2.2.1+Int.toNat x.2.2.2.1+1000)
def zkT:=zb1 base 19 [(69,zja)] [] [(2,(kpL [0,1,7,8]))] [(2,1,[]),(2,0,(kpL [4]))] [(2,spW zvU z4x (zkX) (.inl default) zrc zuT)] []
theorem zuO:zJ zkT (lp (body f122) 0):=zq (id:=2) (hl:=rfl)
def zwr (s:yF):Wy0 (Int):=.bn (zvK (s.length+(Int.ofNat s.length).toNat +Int.toNat 0+1000) s (Int.ofNat s.length) 0) λr0=>.i (isL r0) (.k (getL r0)) (.k (-1:Int))
def zdz (s:yF):=(zwr s).fin default
def zwK:AL base (yF×Unit×Unit):=zd (ze (vSl 54)) (zd (ze (vFn 69 zc1)) zt)
def zj2:=zh zwK λx=>((zdz x.1).1,zMl (zdz x.1).2)
theorem ztF:SdP 122 zj2:=
 sT (cx':=zkT) (zi ⟨zmv,trivial⟩) call122 func122 (lOK (aC zuO aN))
abbrev zfr:=Unit×Unit×Int×Int×Unit
abbrev zfw:=yF×Unit
abbrev zpb:=Int×yF
def zg2 (i:Int) (j:Int) (s:yF):Wy zfr zfw zpb:=.i (decide (j<Int.ofNat s.length)) (.i (decide (0<=j)&&decide (j<Int.ofNat s.length)) (.i (!(zg9 (s.getD j.toNat default)).2) (.i (decide (0<=i)&&decide (i<Int.ofNat s.length)) (.i (decide (i.toNat<s.length)) (.h ((),(),(IntKind.i64.wrap (i+1)),(IntKind.i64.wrap (j+1)),()) ((s.set i.toNat (s.getD j.toNat default)),())) .d) .d) (.h ((),(),i,(IntKind.i64.wrap (j+1)),()) (s,()))) .d) (.k (i,s))
def zlP (x:zfr) (y:zfw):=zg2 x.2.2.1 x.2.2.2.1 y.1
def zg5 (n:Nat) (i:Int) (j:Int) (s:yF):=zA (zlP) default n ((),(),i,j,()) (s,())
def zwx (r:zpb):LTree ty:=.done (.exit 0) [.own 168,.lit (.int .i64 r.1)] [.arr 54 r.2 false]
def zxg:LL ty zfr:=za (zfb 168) (za (lFn 69 (zm)) (za zj (za zj zm)))
def zxc:BL ty zfw:=zfl 54 false (zbg)
def zwJ (x:zfr) (y:zfw):Nat:=(Int.toNat x.2.2.1+Int.toNat x.2.2.2.1+y.1.length+1000)
def zlQ:=zb1 base 42 [(69,zja),(122,zj2)] [] [(5,(kpL [0,1,5,6]))] [(5,1,(kpL [0,5]))] [(5,spW zxg zxc (zlP) default zwx zwJ)] []
theorem zwF:zJ zlQ (lp (body f67) 0):=zq (id:=5) (hl:=rfl)
def zmw (s:yF):Wy0 (yF):=.bn (zdz s) λr1=>.i (r1==(-1:Int)) (.k s) (.bn (zg5 (r1.toNat +(IntKind.i64.wrap (r1+1)).toNat +s.length+1000) r1 (IntKind.i64.wrap (r1+1)) s) λr0=>.i (decide (0<=r0.1)&&decide (r0.1<=Int.ofNat r0.2.length)&&decide (Int.ofNat r0.2.length<=Int.ofNat r0.2.length)) (.i (decide (r0.1.toNat +((Int.ofNat r0.2.length).toNat - r0.1.toNat)<=r0.2.length)) (.i (decide ((0:Int)<=(0:Int))&&decide (0<=r0.1)&&decide (r0.1<=Int.ofNat (List.take r0.1.toNat r0.2++List.replicate ((Int.ofNat r0.2.length).toNat - r0.1.toNat) (Row.mk [] [])++List.drop (r0.1.toNat +((Int.ofNat r0.2.length).toNat - r0.1.toNat)) r0.2).length)) (.k (List.take (r0.1.toNat - Int.toNat 0) (List.take r0.1.toNat r0.2++List.replicate ((Int.ofNat r0.2.length).toNat - r0.1.toNat) (Row.mk [] [])++List.drop (r0.1.toNat +((Int.ofNat r0.2.length).toNat - r0.1.toNat)) r0.2))) .d) .d) .d)
def zdZ (s:yF):=(zmw s).fin default
def zwB (r:yF):ARes ty:=⟨[.own 54 r],[none]⟩
def zxG:AL base (yF×Unit×Unit):=zd (zra 54) (zd (ze (vFn 69 zc1)) zt)
def zkR:=zh zxG λx=>((zdZ x.1).1,zwB (zdZ x.1).2)
theorem zuG:SdP 67 zkR:=
 sT (cx':=zlQ) (zi ⟨zmv,ztF,trivial⟩) call67 func67 (lOK (aC zwF aN)) (sg:=⟨[.own 54],[false]⟩)
def zzl (r:yF):ARes ty:=⟨[],[some ⟨54,r⟩]⟩
def zAn:AL base (yF×Int×Int×Int×Unit×Unit):=zd (zra 54) (zd (ze (zf3 .i64)) (zd (ze (zf3 .i64)) (zd (ze (zf3 .i64)) (zd (ze (vFn 53 zc1)) zt))))
def zAx (F:yF->Int->Int->Int->Bool×yF):Ab.Spec ty:=zh zAn λx=>((F x.1 x.2.1 x.2.2.1 x.2.2.2.1).1,zzl (F x.1 x.2.1 x.2.2.1 x.2.2.2.1).2)
def zkv:yF->Int->Int->Int->Bool×yF:=λa _ _ _=>(decide (a.length=a.length+1),default)
def zm6:Ab.Spec ty:=zAx zkv
theorem zxL:SdP 191 zm6:=zbk call191 (λ_=>decide_eq_false (Nat.ne_of_lt (Nat.lt_succ_self _)))
abbrev zet:=Unit×Int×Int×Unit×Int×Int×Unit
abbrev zbU:=yF×Unit
abbrev zma:=Int×Int×Int×yF
abbrev zev:=Unit×Int×Int×Unit×Int×Unit
def zgI (a:Int) (b:Int) (i:Int) (j:Int) (data:yF):Wy zet zbU zma:=.i (decide (j>a)) (.i (decide (0<=j)&&decide (j<Int.ofNat data.length)) (.i (decide (0<=IntKind.i64.wrap (j - 1))&&decide (IntKind.i64.wrap (j - 1)<Int.ofNat data.length)) (.bn (zcn (data.getD j.toNat default) (data.getD (IntKind.i64.wrap (j - 1)).toNat default)) λr0=>.i (decide (r0<0)) (.i (decide (0<=IntKind.i64.wrap (j - 1))&&decide (IntKind.i64.wrap (j - 1)<Int.ofNat data.length)) (.i (decide (0<=j)&&decide (j<Int.ofNat data.length)) (.i (decide (0<=j)&&decide (j<Int.ofNat data.length)) (.i (decide (j.toNat<data.length)) (.i (decide (0<=IntKind.i64.wrap (j - 1))&&decide (IntKind.i64.wrap (j - 1)<Int.ofNat (data.set j.toNat (data.getD (IntKind.i64.wrap (j - 1)).toNat default)).length)) (.i (decide ((IntKind.i64.wrap (j - 1)).toNat<(data.set j.toNat (data.getD (IntKind.i64.wrap (j - 1)).toNat default)).length)) (.h ((),a,b,(),i,(IntKind.i64.wrap (j - 1)),()) (((data.set j.toNat (data.getD (IntKind.i64.wrap (j - 1)).toNat default)).set (IntKind.i64.wrap (j - 1)).toNat (data.getD j.toNat default)),())) .d) .d) .d) .d) .d) .d) (.k (a,b,i,data))) .d) .d) (.k (a,b,i,data))
def zll (x:zet) (y:zbU):=zgI x.2.1 x.2.2.1 x.2.2.2.2.1 x.2.2.2.2.2.1 y.1
def zgO (n:Nat) (a:Int) (b:Int) (i:Int) (j:Int) (data:yF):=zA (zll) default n ((),a,b,(),i,j,()) (data,())
def zv2 (r:zma):LTree ty:=.done (.exit 2) [.own 212,.lit (.int .i64 r.1),.lit (.int .i64 r.2.1),.fn 53 ([]),.lit (.int .i64 r.2.2.1)] [.arr 54 r.2.2.2 false]
def zwo:LL ty zet:=za (zfb 212) (za zj (za zj (za (lFn 53 (zm)) (za zj (za zj zm)))))
def zwk:BL ty zbU:=zfl 54 false (zbg)
def zdd (a:Int) (b:Int) (i:Int) (data:yF):Wy zev zbU (yF):=.i (decide (i<b)) (.bn (zgO (a.toNat +b.toNat +i.toNat +i.toNat +data.length+1000) a b i i data) λr2=>.h ((),(r2.1),(r2.2.1),(),(IntKind.i64.wrap (r2.2.2.1+1)),()) ((r2.2.2.2),())) (.k data)
def zlp (x:zev) (y:zbU):=zdd x.2.1 x.2.2.1 x.2.2.2.2.1 y.1
def zde (n:Nat) (a:Int) (b:Int) (i:Int) (data:yF):=zA (zlp) default n ((),a,b,(),i,()) (data,())
def zvT (r:yF):LTree ty:=.done (.exit 0) [.own 212] [.arr 54 r false]
def zwg:LL ty zev:=za (zfb 212) (za zj (za zj (za (lFn 53 (zm)) (za zj zm))))
def zvu (x:zet) (y:zbU):Nat:=(Int.toNat x.2.1+Int.toNat x.2.2.1+Int.toNat x.2.2.2.2.1+Int.toNat x.2.2.2.2.2.1+y.1.length+1000)
def zvR (x:zev) (y:zbU):Nat:=(Int.toNat x.2.1+Int.toNat x.2.2.1+Int.toNat x.2.2.2.2.1+y.1.length+1000)
def zgL:=zb1 base 53 [(53,zfp)] [] [(1,(kpL [0,1,2,3,8])),(4,(kpL [0,1,2,3,8,9]))] [(1,1,(kpL [0])),(4,3,(kpL [0,1,2,3,8]))] [(4,spW zwo zwk (zll) default zv2 zvu),(1,spW zwg zwk (zlp) default zvT zvR)] []
theorem zvt:zJ zgL (lp (body f190) 1):=zq (id:=4) (hl:=rfl)
theorem zvM:zJ zgL (lp (body f190) 0):=zq (id:=1) (hl:=rfl)
def zlR (data:yF) (a:Int) (b:Int):Wy0 (yF):=.bn (zde (a.toNat +b.toNat +(IntKind.i64.wrap (a+1)).toNat +data.length+1000) a b (IntKind.i64.wrap (a+1)) data) λr4=>.k r4
def zcM (data:yF) (a:Int) (b:Int):=(zlR data a b).fin default
def zxa:AL base (yF×Int×Int×Unit×Unit):=zd (zra 54) (zd (ze zfx) (zd (ze zfx) (zd (ze (vFn 53 zc1)) zt)))
def zkf:=zh zxa λx=>((zcM x.1 x.2.1 x.2.2.1).1,zzl (zcM x.1 x.2.1 x.2.2.1).2)
theorem zuk:SdP 190 zkf:=
 sT (cx':=zgL) (zi ⟨zgn,trivial⟩) call190 func190 (lOK (aC zvM (aC zvt aN))) (sg:=⟨[],[true]⟩)
abbrev zcw:=Unit×Int×Unit×Int×Int×Int×Unit
abbrev zbB:=yF×Unit
abbrev zhp:=Int×Int×Int×yF
abbrev zhq:=Unit×Int×Unit×Int×Unit
def zjV (n_:Int) (blockSize:Int) (a:Int) (b:Int) (data:yF):Wy zcw zbB zhp:=.i (decide (b<=n_)) (.bn (zcM data a b) λr0=>.h ((),n_,(),blockSize,b,(IntKind.i64.wrap (b+blockSize)),()) ((r0),())) (.k (n_,blockSize,a,data))
def zqT (x:zcw) (y:zbB):=zjV x.2.1 x.2.2.2.1 x.2.2.2.2.1 x.2.2.2.2.2.1 y.1
def zjU (n:Nat) (n_:Int) (blockSize:Int) (a:Int) (b:Int) (data:yF):=zA (zqT) default n ((),n_,(),blockSize,a,b,()) (data,())
def zAi (r:zhp):LTree ty:=.done (.exit 0) [.own 252,.lit (.int .i64 r.1),.fn 53 ([]),.lit (.int .i64 r.2.1),.lit (.int .i64 r.2.2.1)] [.arr 54 r.2.2.2 false]
def zBx:LL ty zcw:=za (zfb 252) (za zj (za (lFn 53 (zm)) (za zj (za zj (za zj zm)))))
def zBv:BL ty zbB:=zfl 54 false (zbg)
def zBr (n_:Int) (blockSize:Int) (a:Int) (b:Int) (data:yF):Wy zcw zbB zhp:=.i (decide (b<=n_)) (.bn (zkv data a (IntKind.i64.wrap (a+blockSize)) b) λr2=>.h ((),n_,(),blockSize,b,(IntKind.i64.wrap (b+IntKind.i64.wrap (2*blockSize))),()) ((r2),())) (.k (n_,blockSize,a,data))
def zqU (x:zcw) (y:zbB):=zBr x.2.1 x.2.2.2.1 x.2.2.2.2.1 x.2.2.2.2.2.1 y.1
def zBq (n:Nat) (n_:Int) (blockSize:Int) (a:Int) (b:Int) (data:yF):=zA (zqU) default n ((),n_,(),blockSize,a,b,()) (data,())
def zAl (r:zhp):LTree ty:=.done (.exit 4) [.own 252,.lit (.int .i64 r.1),.fn 53 ([]),.lit (.int .i64 r.2.1),.lit (.int .i64 r.2.2.1)] [.arr 54 r.2.2.2 false]
def zjX (n_:Int) (blockSize:Int) (data:yF):Wy zhq zbB (yF):=.i (decide (blockSize<n_)) (.bn (zBq (n_.toNat +blockSize.toNat +Int.toNat 0+(IntKind.i64.wrap (2*blockSize)).toNat +data.length+1000) n_ blockSize 0 (IntKind.i64.wrap (2*blockSize)) data) λr5=>.i (decide (IntKind.i64.wrap (r5.2.2.1+r5.2.1)<r5.1)) (.bn (zkv r5.2.2.2 r5.2.2.1 (IntKind.i64.wrap (r5.2.2.1+r5.2.1)) r5.1) λr4=>.h ((),(r5.1),(),(IntKind.i64.wrap (r5.2.1*2)),()) ((r4),())) (.h ((),(r5.1),(),(IntKind.i64.wrap (r5.2.1*2)),()) ((r5.2.2.2),()))) (.k data)
def zqS (x:zhq) (y:zbB):=zjX x.2.1 x.2.2.2.1 y.1
def zjS (n:Nat) (n_:Int) (blockSize:Int) (data:yF):=zA (zqS) default n ((),n_,(),blockSize,()) (data,())
def zAf (r:yF):LTree ty:=.done (.exit 2) [.own 252] [.arr 54 r false]
def zBm:LL ty zhq:=za (zfb 252) (za zj (za (lFn 53 (zm)) (za zj zm)))
def zAC (x:zcw) (y:zbB):Nat:=(Int.toNat x.2.1+Int.toNat x.2.2.2.1+Int.toNat x.2.2.2.2.1+Int.toNat x.2.2.2.2.2.1+y.1.length+1000)
def zAr (x:zhq) (y:zbB):Nat:=(Int.toNat x.2.1+Int.toNat x.2.2.2.1+y.1.length+1000)
def zgj:=zb1 base 63 [(53,zfp),(190,zkf),(191,zm6)] [(190,[true,false,false,false]),(191,[true,false,false,false,false])] [(2,(kpL [0,1,2,6,7,8])),(7,(kpL [0,1,2,6])),(9,(kpL [0,1,2,6,7,8]))] [(2,1,(kpL [0,1,2,6,7])),(7,3,(kpL [0])),(9,5,(kpL [0,1,2,6,7]))] [(2,spW zBx zBv (zqT) default zAi zAC),(9,spW zBx zBv (zqU) default zAl zAC),(7,spW zBm zBv (zqS) default zAf zAr)] []
theorem zz9:zJ zgj (lp (body f123) 0):=zq (id:=2) (hl:=rfl)
theorem zAe:zJ zgj (lp (body f123) 2):=zq (id:=9) (hl:=rfl)
theorem zAq:zJ zgj (lp (body f123) 1):=zq (id:=7) (hl:=rfl)
def zsf (data:yF) (n_:Int):Wy0 (yF):=.bn (zjU (n_.toNat +Int.toNat 20+Int.toNat 0+Int.toNat 20+data.length+1000) n_ 20 0 20 data) λr10=>.bn (zcM r10.2.2.2 r10.2.2.1 r10.1) λr9=>.bn (zjS (r10.1.toNat +r10.2.1.toNat +r9.length+1000) r10.1 r10.2.1 r9) λr8=>.k r8
def zfc (data:yF) (n_:Int):=(zsf data n_).fin default
def zBG:AL base (yF×Int×Unit×Unit):=zd (zra 54) (zd (ze zfx) (zd (ze (vFn 53 zc1)) zt))
def zo7:=zh zBG λx=>((zfc x.1 x.2.1).1,zzl (zfc x.1 x.2.1).2)
theorem zy9:SdP 123 zo7:=
 sT (cx':=zgj) (zi ⟨zgn,zuk,zxL,trivial⟩) call123 func123 (lOK (aC zz9 (aC zAq (aC zAe aN)))) (sg:=⟨[],[true]⟩)
def zt6:=zb1 base 9 [(53,zfp),(123,zo7)] [(123,[true,false,false])] [] [] [] []
def zkb (x_:yF):Wy0 (yF):=.bn (zfc x_ (Int.ofNat x_.length)) λr0=>.k r0
def zcq (x_:yF):=(zkb x_).fin default
def zuN:AL base (yF×Unit×Unit):=zd (zra 54) (zd (ze (vFn 53 zc1)) zt)
def zji:=zh zuN λx=>((zcq x.1).1,zzl (zcq x.1).2)
theorem zsL:SdP 70 zji:=
 sT (cx':=zt6) (zi ⟨zgn,zy9,trivial⟩) call70 func70 (lOK aN) (sg:=⟨[],[true]⟩)
end Go.Proofs.YtoknknbmfmddbaaGreatDoor
end
