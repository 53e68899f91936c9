/- Texts of this claim, joined (the program, its functions in plain words, and what they compute). -/
import Derived.Test.YtoknknbmfmddbaaGreatDoorGC3
set_option autoImplicit false
set_option linter.unusedVariables false
set_option linter.unusedSectionVars false
set_option linter.unusedSimpArgs false
set_option maxRecDepth 1000000
set_option maxHeartbeats 0
noncomputable section
namespace Go.Proofs.YtoknknbmfmddbaaGreatDoor
open Go Go.Ab
open Go.Proofs.Tryz
def zRJ:=zbM base 9 []
def zEm (n_:Int):Wy0 (yB):=.i (decide (n_<1)) (.k []) (.k [TO.mk (if 1152921504606846976<n_ then 1152921504606846976 else n_) []])
def zqu (n_:Int):=(zEm n_).fin default
def zA2:=zh zVs λx=>((zqu x.1).1,z0A (zqu x.1).2)
theorem zLM:SdP 197 zA2:=
 sT (cx':=zRJ) (zk trivial) call197 func197 (lOK aN) (sg:=⟨[.own 107],[]⟩)
def zxs:=zbM base 27 []
def zmY (n_:Int):Wy0 (yC):=.i (decide (n_<0)) .d (.i (decide (IntKind.i64.wrap (n_ - IntKind.i64.wrap (0 - 0))>0)) (.i (decide (0<IntKind.i64.wrap (n_ - IntKind.i64.wrap (0 - 0)))&&(decide (IntKind.i64.wrap (n_ - IntKind.i64.wrap (0 - 0))*Int.ofNat 128<=Int.ofNat zI)&&(decide (IntKind.i64.wrap (n_ - IntKind.i64.wrap (0 - 0))<=Int.ofNat zI)&& !Nat.beq 11 0))) (.k (List.take (Int.toNat 0 - Int.toNat 0) (List.replicate (IntKind.i64.wrap (n_ - IntKind.i64.wrap (0 - 0))).toNat (FO.mk (At.mk 0 (RowID.mk 0 0) [] 0 [] 0 (Value.mk 0 0 (ByteArray.mk #[]))) 0)))) .d) (.k []))
def zec (n_:Int):=(zmY n_).fin default
def zwQ (r:yC):ARes ty:=⟨[.own 145 r],[]⟩
def zk6:=zh zxp λx=>((zec x.2.1).1,zwQ (zec x.2.1).2)
theorem zvx:SdP 303 zk6:=
 sT (cx':=zxs) (zk trivial) call303 func303 (lOK aN) (sg:=⟨[.own 145],[]⟩)
abbrev ze0:=List (yC)×Int×List (yC)×Int×Int×Unit
abbrev znf:=List (yC)×Int
abbrev ze8:=Unit×List (yC)×Int×Int×Unit
abbrev zeZ:=yC×Unit
def zc4 (slices:List (yC)) (size:Int) (t9:List (yC)) (t10:Int) (t11:Int):Wy ze0 Unit znf:=.i (decide (t11<t10)) (.i (decide (0<=t11)&&decide (t11<Int.ofNat t9.length)) (.i (decide (IntKind.i64.wrap (size+Int.ofNat (List.length (t9.getD t11.toNat default)))<0)) .d (.h (slices,(IntKind.i64.wrap (size+Int.ofNat (List.length (t9.getD t11.toNat default)))),t9,t10,(IntKind.i64.wrap (t11+1)),()) ())) .d) (.k (slices,size))
def zgu (x:ze0) (y:Unit):=zc4 x.1 x.2.1 x.2.2.1 x.2.2.2.1 x.2.2.2.2.1
def zk7 (n:Nat) (slices:List (yC)) (size:Int) (t9:List (yC)) (t10:Int) (t11:Int):=zx (zgu) default n (slices,size,t9,t10,t11,()) ()
def zu6 (r:znf):LTree ty:=.done (.exit 0) [.sl 105 r.1,.lit (.int .i64 r.2)] []
def zwl:LL ty ze0:=za (lSl 105) (za zi (za (lSl 105) (za zi (za zi zo))))
def zc0 (t25:List (yC)) (t26:Int) (t27:Int) (newslice:yC):Wy ze8 zeZ (yC):=.i (decide (t27<t26)) (.i (decide (0<=t27)&&decide (t27<Int.ofNat t25.length)) (.i (decide ((newslice.length+List.length (t25.getD t27.toNat default))*128<=zI)) (.h ((),t25,t26,(IntKind.i64.wrap (t27+1)),()) ((newslice++t25.getD t27.toNat default),())) .d) .d) (.k newslice)
def zgb (x:ze8) (y:zeZ):=zc0 x.2.1 x.2.2.1 x.2.2.2.1 y.1
def zkl (n:Nat) (t25:List (yC)) (t26:Int) (t27:Int) (newslice:yC):=zx (zgb) default n ((),t25,t26,t27,()) (newslice,())
def zuw (r:yC):LTree ty:=.done (.exit 2) [.own 144] [.arr 145 r false]
def zvF:LL ty ze8:=za (zd4 144) (za (lSl 105) (za zi (za zi zo)))
def zvc:BL ty zeZ:=zen 145 false (zbu)
def zu4 (x:ze0) (y:Unit):Nat:=(x.1.length+Int.toNat x.2.1+x.2.2.1.length+Int.toNat x.2.2.2.1+Int.toNat x.2.2.2.2.1+1)
def zuD (x:ze8) (y:zeZ):Nat:=(x.2.1.length+Int.toNat x.2.2.1+Int.toNat x.2.2.2.1+y.1.length+1)
def zgy:=zcG base 36 [(303,zk6)] [] [(3,(kpL [0,3,9,10,11])),(11,(kpL [6,25,26,27]))] [(3,1,(kpL [0,3])),(11,3,(kpL [6]))] [(3,spW zwl z2p (zgu) default zu6 zu4),(11,spW zvF zvc (zgb) default zuw zuD)] [303]
theorem zu0:zR zgy (lp (body f282) 0):=zD (id:=3) (hl:=rfl)
theorem zux:zR zgy (lp (body f282) 1):=zD (id:=11) (hl:=rfl)
def zlK (slices:List (yC)):Wy0 (yC):=.bn (zk7 (slices.length+Int.toNat 0+slices.length+(Int.ofNat slices.length).toNat +Int.toNat 0+1) slices 0 slices (Int.ofNat slices.length) 0) λr2=>.bn (zec r2.2) λr1=>.bn (zkl (r2.1.length+(Int.ofNat r2.1.length).toNat +Int.toNat 0+r1.length+1) r2.1 (Int.ofNat r2.1.length) 0 r1) λr0=>.k r0
def zdK (slices:List (yC)):=(zlK slices).fin default
def zwP:AL base (List (yC)×Unit):=zf (zg (vSl 105)) zA
def zkf:=zh zwP λx=>((zdK x.1).1,zwQ (zdK x.1).2)
theorem zuo:SdP 282 zkf:=
 sT (cx':=zgy) (zk ⟨zvx,trivial⟩) call282 func282 (lOK (aC zu0 (aC zux aN))) (sg:=⟨[.own 145],[]⟩)
abbrev zss:=yC×yC×Unit×Unit
abbrev zsn:=yC×Unit
abbrev zEG:=yC×yC×yC
def zxF (a:yC) (b:yC) (out_:yC):Wy zss zsn zEG:=.i (decide (Int.ofNat a.length>0)) (.i (decide (Int.ofNat b.length>0)) (.i (decide ((0:Int)<=(0:Int))&&decide (0<Int.ofNat a.length)) (.i (decide ((0:Int)<=(0:Int))&&decide (0<Int.ofNat b.length)) (.bn (ziE (At.mk (a.getD (Int.toNat 0) default).At.Kind (a.getD (Int.toNat 0) default).At.Row (a.getD (Int.toNat 0) default).At.Ag (a.getD (Int.toNat 0) default).At.Func (a.getD (Int.toNat 0) default).At.Items (a.getD (Int.toNat 0) default).At.Op (a.getD (Int.toNat 0) default).At.Bd) (At.mk (b.getD (Int.toNat 0) default).At.Kind (b.getD (Int.toNat 0) default).At.Row (b.getD (Int.toNat 0) default).At.Ag (b.getD (Int.toNat 0) default).At.Func (b.getD (Int.toNat 0) default).At.Items (b.getD (Int.toNat 0) default).At.Op (b.getD (Int.toNat 0) default).At.Bd)) λr1=>.i (decide (r1<0)) (.i (decide ((0:Int)<=(0:Int))&&decide (0<Int.ofNat a.length)) (.i (decide ((out_.length+[FO.mk (At.mk (a.getD (Int.toNat 0) default).At.Kind (a.getD (Int.toNat 0) default).At.Row (a.getD (Int.toNat 0) default).At.Ag (a.getD (Int.toNat 0) default).At.Func (a.getD (Int.toNat 0) default).At.Items (a.getD (Int.toNat 0) default).At.Op (a.getD (Int.toNat 0) default).At.Bd) (a.getD (Int.toNat 0) default).Exp].length)*128<=zI)) (.i (decide ((0:Int)<=(1:Int))&&decide (1<=Int.ofNat a.length)&&decide (Int.ofNat a.length<=Int.ofNat a.length)) (.h ((List.take ((Int.ofNat a.length).toNat - Int.toNat 1) (List.drop (Int.toNat 1) a)),b,(),()) ((out_++[FO.mk (At.mk (a.getD (Int.toNat 0) default).At.Kind (a.getD (Int.toNat 0) default).At.Row (a.getD (Int.toNat 0) default).At.Ag (a.getD (Int.toNat 0) default).At.Func (a.getD (Int.toNat 0) default).At.Items (a.getD (Int.toNat 0) default).At.Op (a.getD (Int.toNat 0) default).At.Bd) (a.getD (Int.toNat 0) default).Exp]),())) .d) .d) .d) (.i (decide (r1>0)) (.i (decide ((0:Int)<=(0:Int))&&decide (0<Int.ofNat b.length)) (.i (decide ((out_.length+[FO.mk (At.mk (b.getD (Int.toNat 0) default).At.Kind (b.getD (Int.toNat 0) default).At.Row (b.getD (Int.toNat 0) default).At.Ag (b.getD (Int.toNat 0) default).At.Func (b.getD (Int.toNat 0) default).At.Items (b.getD (Int.toNat 0) default).At.Op (b.getD (Int.toNat 0) default).At.Bd) (b.getD (Int.toNat 0) default).Exp].length)*128<=zI)) (.i (decide ((0:Int)<=(1:Int))&&decide (1<=Int.ofNat b.length)&&decide (Int.ofNat b.length<=Int.ofNat b.length)) (.h (a,(List.take ((Int.ofNat b.length).toNat - Int.toNat 1) (List.drop (Int.toNat 1) b)),(),()) ((out_++[FO.mk (At.mk (b.getD (Int.toNat 0) default).At.Kind (b.getD (Int.toNat 0) default).At.Row (b.getD (Int.toNat 0) default).At.Ag (b.getD (Int.toNat 0) default).At.Func (b.getD (Int.toNat 0) default).At.Items (b.getD (Int.toNat 0) default).At.Op (b.getD (Int.toNat 0) default).At.Bd) (b.getD (Int.toNat 0) default).Exp]),())) .d) .d) .d) (.i (decide ((0:Int)<=(0:Int))&&decide (0<Int.ofNat a.length)) (.bn (zfF (At.mk (a.getD (Int.toNat 0) default).At.Kind (a.getD (Int.toNat 0) default).At.Row (a.getD (Int.toNat 0) default).At.Ag (a.getD (Int.toNat 0) default).At.Func (a.getD (Int.toNat 0) default).At.Items (a.getD (Int.toNat 0) default).At.Op (a.getD (Int.toNat 0) default).At.Bd)) λr0=>.i (!r0) (.i (decide ((0:Int)<=(0:Int))&&decide (0<Int.ofNat b.length)) (.i (decide ((out_.length+[FO.mk (At.mk (a.getD (Int.toNat 0) default).At.Kind (a.getD (Int.toNat 0) default).At.Row (a.getD (Int.toNat 0) default).At.Ag (a.getD (Int.toNat 0) default).At.Func (a.getD (Int.toNat 0) default).At.Items (a.getD (Int.toNat 0) default).At.Op (a.getD (Int.toNat 0) default).At.Bd) (IntKind.i64.wrap ((a.getD (Int.toNat 0) default).Exp+(b.getD (Int.toNat 0) default).Exp))].length)*128<=zI)) (.i (decide ((0:Int)<=(1:Int))&&decide (1<=Int.ofNat a.length)&&decide (Int.ofNat a.length<=Int.ofNat a.length)) (.i (decide ((0:Int)<=(1:Int))&&decide (1<=Int.ofNat b.length)&&decide (Int.ofNat b.length<=Int.ofNat b.length)) (.h ((List.take ((Int.ofNat a.length).toNat - Int.toNat 1) (List.drop (Int.toNat 1) a)),(List.take ((Int.ofNat b.length).toNat - Int.toNat 1) (List.drop (Int.toNat 1) b)),(),()) ((out_++[FO.mk (At.mk (a.getD (Int.toNat 0) default).At.Kind (a.getD (Int.toNat 0) default).At.Row (a.getD (Int.toNat 0) default).At.Ag (a.getD (Int.toNat 0) default).At.Func (a.getD (Int.toNat 0) default).At.Items (a.getD (Int.toNat 0) default).At.Op (a.getD (Int.toNat 0) default).At.Bd) (IntKind.i64.wrap ((a.getD (Int.toNat 0) default).Exp+(b.getD (Int.toNat 0) default).Exp))]),())) .d) .d) .d) .d) (.i (decide ((out_.length+[FO.mk (At.mk (a.getD (Int.toNat 0) default).At.Kind (a.getD (Int.toNat 0) default).At.Row (a.getD (Int.toNat 0) default).At.Ag (a.getD (Int.toNat 0) default).At.Func (a.getD (Int.toNat 0) default).At.Items (a.getD (Int.toNat 0) default).At.Op (a.getD (Int.toNat 0) default).At.Bd) (a.getD (Int.toNat 0) default).Exp].length)*128<=zI)) (.i (decide ((0:Int)<=(1:Int))&&decide (1<=Int.ofNat a.length)&&decide (Int.ofNat a.length<=Int.ofNat a.length)) (.i (decide ((0:Int)<=(1:Int))&&decide (1<=Int.ofNat b.length)&&decide (Int.ofNat b.length<=Int.ofNat b.length)) (.h ((List.take ((Int.ofNat a.length).toNat - Int.toNat 1) (List.drop (Int.toNat 1) a)),(List.take ((Int.ofNat b.length).toNat - Int.toNat 1) (List.drop (Int.toNat 1) b)),(),()) ((out_++[FO.mk (At.mk (a.getD (Int.toNat 0) default).At.Kind (a.getD (Int.toNat 0) default).At.Row (a.getD (Int.toNat 0) default).At.Ag (a.getD (Int.toNat 0) default).At.Func (a.getD (Int.toNat 0) default).At.Items (a.getD (Int.toNat 0) default).At.Op (a.getD (Int.toNat 0) default).At.Bd) (a.getD (Int.toNat 0) default).Exp]),())) .d) .d) .d)) .d))) .d) .d) (.k (a,b,out_))) (.k (a,b,out_))
def zEv (x:zss) (y:zsn):=zxF x.1 x.2.1 y.1
def zxM (n:Nat) (a:yC) (b:yC) (out_:yC):=zx (zEv) default n (a,b,(),()) (out_,())
def zRX (r:zEG):LTree ty:=.done (.exit 0) [.sl 145 r.1,.sl 145 r.2.1,.own 300] [.arr 145 r.2.2 false]
def zUf:LL ty zss:=za (lSl 145) (za (lSl 145) (za (zd4 300) zo))
def zTO:BL ty zsn:=zen 145 false (zbu)
def zSt (x:zss) (y:zsn):Nat:=(x.1.length+x.2.1.length+y.1.length+1)
def zEx:=zcG base 75 [(105,zjs),(106,zl3),(282,zkf)] [] [(2,[(0,.keep),(1,.keep),(5,.own 145)])] [(2,1,(kpL [0,1,5]))] [(2,spW zUf zTO (zEv) default zRX zSt)] []
theorem zRA:zR zEx (lp (body f239) 0):=zD (id:=2) (hl:=rfl)
def zGJ (a:yC) (b:yC):Wy0 (yC):=.bn (zxM (a.length+b.length+0+1) a b []) λr5=>.bn (zdK [r5.2.2,r5.1,r5.2.1]) λr4=>.k r4
def znc (a:yC) (b:yC):=(zGJ a b).fin default
def zVV:AL base (yC×yC×Unit):=zf (zg (vSl 145)) (zf (zg (vSl 145)) zA)
def zCj:=zh zVV λx=>((znc x.1 x.2.1).1,zwQ (znc x.1 x.2.1).2)
theorem zOy:SdP 239 zCj:=
 sT (cx':=zEx) (zk ⟨zmx,ztp,zuo,trivial⟩) call239 func239 (lOK (aC zRA aN)) (sg:=⟨[.own 145],[]⟩)
def zRN:=zbM base 12 []
def zEy (a:Int) (b:Int):Wy0 (Int):=.i (!decide (b=0)) (.i (decide (a>IntKind.i64.wrap (Int.tdiv 1152921504606846976 b))) (.k 1152921504606846976) (.k (IntKind.i64.wrap (a*b)))) .d
def zp3 (a:Int) (b:Int):=(zEy a b).fin default
def zAD:=zh zSd λx=>((zp3 x.1 x.2.1).1,zMi (zp3 x.1 x.2.1).2)
theorem zL0:SdP 238 zAD:=
 sT (cx':=zRN) (zk trivial) call238 func238 (lOK aN)
abbrev ztt:=yB×Unit×Unit×yB×Int×Int×yB×Int×Int×Unit
abbrev ztz:=yB×Term×Unit
abbrev zGG:=yB×yB×Int×Int×yB
abbrev ztG:=yB×Unit×yB×Int×Int×Unit
abbrev ztu:=yB×Unit
def zoi (b:yB) (t19:yB) (t20:Int) (t21:Int) (t25:yB) (t26:Int) (t27:Int) (terms:yB) (x_:Term):Wy ztt ztz zGG:=.i (decide (t27<t26)) (.i (decide (0<=t27)&&decide (t27<Int.ofNat t25.length)) (.bn (zp3 x_.Cf (t25.getD t27.toNat default).Cf) λr5=>.bn (znc x_.Fs (t25.getD t27.toNat default).Fs) λr4=>.i (decide ((terms.length+[TO.mk r5 r4].length)*32<=zI)) (.h (b,(),(),t19,t20,t21,t25,t26,(IntKind.i64.wrap (t27+1)),()) ((terms++[TO.mk r5 r4]),x_,())) .d) .d) (.k (b,t19,t20,t21,terms))
def zzf (x:ztt) (y:ztz):=zoi x.1 x.2.2.2.1 x.2.2.2.2.1 x.2.2.2.2.2.1 x.2.2.2.2.2.2.1 x.2.2.2.2.2.2.2.1 x.2.2.2.2.2.2.2.2.1 y.1 y.2.1
def zGF (n:Nat) (b:yB) (t19:yB) (t20:Int) (t21:Int) (t25:yB) (t26:Int) (t27:Int) (terms:yB) (x_:Term):=zx (zzf) default n (b,(),(),t19,t20,t21,t25,t26,t27,()) (terms,x_,())
def zTx (r:zGG):LTree ty:=.done (.exit 2) [.sl 107 r.1,.own 208,.sl 107 r.2.1,.lit (.int .i64 r.2.2.1),.lit (.int .i64 r.2.2.2.1)] [.arr 107 r.2.2.2.2 false]
def zVE:LL ty ztt:=za (lSl 107) (za (zd4 208) (za (zdo 209 0) (za (lSl 107) (za zi (za zi (za (lSl 107) (za zi (za zi zo))))))))
def zVz:BL ty ztz:=zen 107 false (zeM (zfh (λx=>(⟨x.1,x.2.1⟩:Term)) (λx=>(x.Cf,x.Fs,())) (λ_=>rfl) (za (zW .i64) (za (lSl 145) zo))) false (zbu))
def zoA (b:yB) (t19:yB) (t20:Int) (t21:Int) (terms:yB):Wy ztG ztu (yB):=.i (decide (t21<t20)) (.i (decide (0<=t21)&&decide (t21<Int.ofNat t19.length)) (.bn (zGF (b.length+t19.length+t20.toNat +t21.toNat +b.length+(Int.ofNat b.length).toNat +Int.toNat 0+terms.length+(t19.getD t21.toNat default).Fs.length+1) b t19 t20 t21 b (Int.ofNat b.length) 0 terms (t19.getD t21.toNat default)) λr8=>.h ((r8.1),(),(r8.2.1),(r8.2.2.1),(IntKind.i64.wrap (r8.2.2.2.1+1)),()) ((r8.2.2.2.2),())) .d) (.k terms)
def zy7 (x:ztG) (y:ztu):=zoA x.1 x.2.2.1 x.2.2.2.1 x.2.2.2.2.1 y.1
def zzb (n:Nat) (b:yB) (t19:yB) (t20:Int) (t21:Int) (terms:yB):=zx (zy7) default n (b,(),t19,t20,t21,()) (terms,())
def zVC:LL ty ztG:=za (lSl 107) (za (zd4 208) (za (lSl 107) (za zi (za zi zo))))
def zVp:BL ty ztu:=zen 107 false (zbu)
def zUa (x:ztt) (y:ztz):Nat:=(x.1.length+x.2.2.2.1.length+Int.toNat x.2.2.2.2.1+Int.toNat x.2.2.2.2.2.1+x.2.2.2.2.2.2.1.length+Int.toNat x.2.2.2.2.2.2.2.1+Int.toNat x.2.2.2.2.2.2.2.2.1+y.1.length+y.2.1.Fs.length+1)
def zSX (x:ztG) (y:ztu):Nat:=(x.1.length+x.2.2.1.length+Int.toNat x.2.2.2.1+Int.toNat x.2.2.2.2.1+y.1.length+1)
def zy3:=zcG zbE 52 [(52,zco),(124,zeE),(125,zrt),(238,zAD),(239,zCj)] [] [(5,[(1,.keep),(6,.own 107),(19,.keep),(20,.keep),(21,.keep)]),(8,[(1,.keep),(6,.own 107),(8,.keep),(19,.keep),(20,.keep),(21,.keep),(25,.keep),(26,.keep),(27,.keep)])] [(5,1,(kpL [6])),(8,3,(kpL [1,6,19,20,21]))] [(8,spW zVE zVz (zzf) default zTx zUa),(5,spW zVC zVp (zy7) default zMN zSX)] []
theorem zSK:zR zy3 (lp (body f199) 1):=zD (id:=8) (hl:=rfl)
theorem zUP:zR zy3 (lp (body f199) 0):=zD (id:=5) (hl:=rfl)
def zJY (a:yB) (b:yB):Wy0 (yB×Int):=.bn (zcb a) λr14=>.i (!r14) (.k ([],1)) (.bn (zcb b) λr13=>.i (!r13) (.k ([],1)) (.bn (zzb (b.length+a.length+(Int.ofNat a.length).toNat +Int.toNat 0+0+1) b a (Int.ofNat a.length) 0 []) λr12=>.bn (zhR r12) λr11=>.bn (zek r11) λr10=>.k (r10.1,r10.2)))
def ztQ (a:yB) (b:yB):=(zJY a b).fin default
def zCZ:=zh zWP λx=>((ztQ x.1 x.2.1).1,zMe (ztQ x.1 x.2.1).2)
theorem zQu:Sound Tryz.prog zbE 199 zCZ:=
 sU (cx':=zy3) (zk ⟨zcx.nodr,zfA.nodr,zyd,zL0.nodr,zOy.nodr,trivial⟩) call199 func199 (lOK (aC zUP (aC zSK aN))) (sg:=⟨[.own 107,.pure],[]⟩)
def zBI:=zbM base 8 []
def ztq (b:Bg) (p1:RowID):Wy0 (Bool):=.k (b.Row.Table==p1.Table&&(b.Row.Seq==p1.Seq&&true))
def zfX (b:Bg) (p1:RowID):=(ztq b p1).fin default
def zCC:AL base (Bg×RowID×Unit):=zf (zg (zcT 65)) (zf (zg (zXT 63)) zA)
def zjz:=zh zCC λx=>((zfX x.1 x.2.1).1,zRy (zfX x.1 x.2.1).2)
theorem zpx:SdP 140 zjz:=
 sT (cx':=zBI) (zk trivial) call140 func140 (lOK aN)
def zQL:=zbM base 8 []
def zC5 (x_:At):Wy0 (yB):=.k [TO.mk 1 [FO.mk (At.mk x_.Kind x_.Row x_.Ag x_.Func x_.Items x_.Op x_.Bd) 1]]
def zfl (x_:At):=(zC5 x_).fin default
def zgH:=zh z3p λx=>((zfl x.1).1,z0A (zfl x.1).2)
theorem ziF:SdP 117 zgH:=
 sT (cx':=zQL) (zk trivial) call117 func117 (lOK aN) (sg:=⟨[.own 107],[]⟩)
def zVR:=zbM base 9 [(116,ztC),(117,zgH)]
def zIc (id:RowID):Wy0 (yB):=.bn (zqU id) λr0=>.i (!r0) (.k []) (.k ((zfl (At.mk 0 id [] 0 [] 0 (Value.mk 0 0 (ByteArray.mk #[])))).2))
def zt9 (id:RowID):=(zIc id).fin default
def zC3:=zh z5r λx=>((zt9 x.1).1,z0A (zt9 x.1).2)
theorem zPx:SdP 63 zC3:=
 sT (cx':=zVR) (zk ⟨zyk,ziF,trivial⟩) call63 func63 (lOK aN) (sg:=⟨[.own 107],[]⟩)
abbrev zdX:=yE×(RowID×Unit)×Int×Int×Unit
def zrc (s:yE) (f:RowID) (t7:Int) (t8:Int):Wy zdX Unit (Int⊕Unit):=.i (decide (t8<t7)) (.i (decide (0<=t8)&&decide (t8<Int.ofNat s.length)) (.i ((zfX (s.getD t8.toNat default) f).2) (.k (.inl t8)) (.h (s,(f,()),t7,(IntKind.i64.wrap (t8+1)),()) ())) .d) (.k (.inr ()))
def zig (x:zdX) (y:Unit):=zrc x.1 x.2.1.1 x.2.2.1 x.2.2.2.1
def zrm (n:Nat) (s:yE) (f:RowID) (t7:Int) (t8:Int):=zx (zig) (.inl default) n (s,(f,()),t7,t8,()) ()
def zrd:LL ty zdX:=za (lSl 65) (za (lFn 140 (za (zFl (zfh (λx=>(⟨x.1,x.2.1⟩:RowID)) (λx=>(x.Table,x.Seq,())) (λ_=>rfl) (za zi (za zi zo))) 0) zo)) (za zi (za zi zo)))
def zqK (x:zdX) (y:Unit):Nat:=(x.1.length+Int.toNat x.2.2.1+Int.toNat x.2.2.2.1+1)
def zik:=zcG base 19 [(140,zjz)] [] [(2,(kpL [0,1,7,8]))] [(2,1,[]),(2,0,(kpL [4]))] [(2,spW zrd z2p (zig) (.inl default) zrz zqK)] []
theorem zqg:zR zik (lp (body f139) 0):=zD (id:=2) (hl:=rfl)
def zrs (s:yE) (f:RowID):Wy0 (Int):=.bn (zrm (s.length+(Int.ofNat s.length).toNat +Int.toNat 0+1) s f (Int.ofNat s.length) 0) λr0=>.i (isL r0) (.k (getL r0)) (.k (-1:Int))
def zcv (s:yE) (f:RowID):=(zrs s f).fin default
def zrC:AL base (yE×(RowID×Unit)×Unit):=zf (zg (vSl 65)) (zf (zg (vFn 140 (zyC (zXT 63) zc6))) zA)
def zhA:=zh zrC λx=>((zcv x.1 x.2.1.1).1,zMi (zcv x.1 x.2.1.1).2)
theorem zph:SdP 139 zhA:=
 sT (cx':=zik) (zk ⟨zpx,trivial⟩) call139 func139 (lOK (aC zqg aN))
def zFo:=zbM base 18 [(63,zC3),(139,zhA),(140,zjz),(141,zgM)]
def zwf (id:RowID) (p1:yE):Wy0 (yB):=.bn (zcv p1 id) λr2=>.i (decide (r2≥0)) (.i (decide (0<=r2)&&decide (r2<Int.ofNat p1.length)) (.bn (zgQ (p1.getD r2.toNat default).To) λr0=>.k r0) .d) (.bn (zt9 id) λr1=>.k r1)
def zhQ (id:RowID) (p1:yE):=(zwf id p1).fin default
def zFM:AL base (RowID×(yE×Unit)×Unit):=zf (zg (zcT 63)) (zf (zg (zZE (zyC (vSl 65) zc6))) zA)
def zhI:=zh zFM λx=>((zhQ x.1 x.2.1.1).1,z0A (zhQ x.1 x.2.1.1).2)
theorem zkX:SdP 138 zhI:=
 sT (cx':=zFo) (zk ⟨zPx,zph,zpx,ziB,trivial⟩) call138 func138 (lOK aN) (sg:=⟨[.own 107],[]⟩)
abbrev znr:=((yE×Unit)×Unit)×Unit×Unit×yB×Int×yB×Int×Int×yC×Int×Int×Int×Int×Unit
abbrev zex:=yB×yB×Unit
abbrev zAT:=yE×Int×yB×Int×Int×yC×Int×Int×yB×yB
abbrev zno:=((yE×Unit)×Unit)×Unit×Unit×yB×Int×Int×yC×Int×Int×Unit
abbrev zAL:=Int⊕(yE×yB×Int×Int×yB×yB)
abbrev znD:=((yE×Unit)×Unit)×Unit×yB×Int×Int×Unit
abbrev znw:=yB×Unit
abbrev zAG:=Int⊕yB
def zqV (zl:At->yE->Bool×(yB×Int)) (to:yE) (b:yB) (e:Int) (t16:yB) (t17:Int) (t18:Int) (t26:yC) (t27:Int) (t28:Int) (t40:Int) (t41:Int) (sum:yB) (product:yB):Wy znr zex zAT:=.i (decide (t41<t40)) (.i (e==0) (.bn (ztQ product b) λr6=>.h (((to,()),()),(),(),b,(r6.2),t16,t17,t18,t26,t27,t28,t40,(IntKind.i64.wrap (t41+1)),()) (sum,(r6.1),())) (.h (((to,()),()),(),(),b,e,t16,t17,t18,t26,t27,t28,t40,(IntKind.i64.wrap (t41+1)),()) (sum,product,()))) (.k (to,e,t16,t17,t18,t26,t27,t28,sum,product))
def zxy (zl:At->yE->Bool×(yB×Int)) (x:znr) (y:zex):=zqV zl x.1.1.1 x.2.2.2.1 x.2.2.2.2.1 x.2.2.2.2.2.1 x.2.2.2.2.2.2.1 x.2.2.2.2.2.2.2.1 x.2.2.2.2.2.2.2.2.1 x.2.2.2.2.2.2.2.2.2.1 x.2.2.2.2.2.2.2.2.2.2.1 x.2.2.2.2.2.2.2.2.2.2.2.1 x.2.2.2.2.2.2.2.2.2.2.2.2.1 y.1 y.2.1
def zqm (zl:At->yE->Bool×(yB×Int)) (n:Nat) (to:yE) (b:yB) (e:Int) (t16:yB) (t17:Int) (t18:Int) (t26:yC) (t27:Int) (t28:Int) (t40:Int) (t41:Int) (sum:yB) (product:yB):=zx (zxy zl) default n (((to,()),()),(),(),b,e,t16,t17,t18,t26,t27,t28,t40,t41,()) (sum,product,())
def zHc (r:zAT):LTree ty:=.done (.exit 4) [.fn 138 ([.bptr ([.sl 65 r.1]) 0]),.own 272,.own 273,.lit (.int .i64 r.2.1),.sl 107 r.2.2.1,.lit (.int .i64 r.2.2.2.1),.lit (.int .i64 r.2.2.2.2.1),.sl 145 r.2.2.2.2.2.1,.lit (.int .i64 r.2.2.2.2.2.2.1),.lit (.int .i64 r.2.2.2.2.2.2.2.1)] [.arr 107 r.2.2.2.2.2.2.2.2.1 false,.arr 107 r.2.2.2.2.2.2.2.2.2 false]
def zJS:LL ty znr:=za (lFn 138 (za (zFl (za (lSl 65) zo) 0) zo)) (za (zd4 272) (za (zd4 273) (za (lSl 107) (za zi (za (lSl 107) (za zi (za zi (za (lSl 145) (za zi (za zi (za zi (za zi zo))))))))))))
def zI9:BL ty zex:=zen 107 false (zen 107 false (zbu))
def zrL (zl:At->yE->Bool×(yB×Int)) (to:yE) (t16:yB) (t17:Int) (t18:Int) (t26:yC) (t27:Int) (t28:Int) (sum:yB) (product:yB):Wy zno zex zAL:=.i (decide (t28<t27)) (.i (decide (0<=t28)&&decide (t28<Int.ofNat t26.length)) (.bn (zl (At.mk (t26.getD t28.toNat default).At.Kind (t26.getD t28.toNat default).At.Row (t26.getD t28.toNat default).At.Ag (t26.getD t28.toNat default).At.Func (t26.getD t28.toNat default).At.Items (t26.getD t28.toNat default).At.Op (t26.getD t28.toNat default).At.Bd) to) λr9=>.bn (zqm zl (to.length+r9.1.length+r9.2.toNat +t16.length+t17.toNat +t18.toNat +t26.length+t27.toNat +t28.toNat +(t26.getD t28.toNat default).Exp.toNat +Int.toNat 0+sum.length+product.length+1) to r9.1 r9.2 t16 t17 t18 t26 t27 t28 (t26.getD t28.toNat default).Exp 0 sum product) λr8=>.i (r8.2.1 != 0) (.k (.inl (r8.2.1))) (.h ((((r8.1),()),()),(),(),(r8.2.2.1),(r8.2.2.2.1),(r8.2.2.2.2.1),(r8.2.2.2.2.2.1),(r8.2.2.2.2.2.2.1),(IntKind.i64.wrap (r8.2.2.2.2.2.2.2.1+1)),()) ((r8.2.2.2.2.2.2.2.2.1),(r8.2.2.2.2.2.2.2.2.2),()))) .d) (.k (.inr (to,t16,t17,t18,sum,product)))
def zyP (zl:At->yE->Bool×(yB×Int)) (x:zno) (y:zex):=zrL zl x.1.1.1 x.2.2.2.1 x.2.2.2.2.1 x.2.2.2.2.2.1 x.2.2.2.2.2.2.1 x.2.2.2.2.2.2.2.1 x.2.2.2.2.2.2.2.2.1 y.1 y.2.1
def zrr (zl:At->yE->Bool×(yB×Int)) (n:Nat) (to:yE) (t16:yB) (t17:Int) (t18:Int) (t26:yC) (t27:Int) (t28:Int) (sum:yB) (product:yB):=zx (zyP zl) (.inl default) n (((to,()),()),(),(),t16,t17,t18,t26,t27,t28,()) (sum,product,())
def zJV (r:zAL):LTree ty:=.ite (isL r) (.done .ret [.lit (.slice none 0 0),.lit (.int .i64 (getL r))] []) (.done (.exit 2) [.fn 138 ([.bptr ([.sl 65 (getR r).1]) 0]),.own 272,.own 273,.sl 107 (getR r).2.1,.lit (.int .i64 (getR r).2.2.1),.lit (.int .i64 (getR r).2.2.2.1)] [.arr 107 (getR r).2.2.2.2.1 false,.arr 107 (getR r).2.2.2.2.2 false])
def zKp:LL ty zno:=za (lFn 138 (za (zFl (za (lSl 65) zo) 0) zo)) (za (zd4 272) (za (zd4 273) (za (lSl 107) (za zi (za zi (za (lSl 145) (za zi (za zi zo))))))))
def zrF (zl:At->yE->Bool×(yB×Int)) (to:yE) (t16:yB) (t17:Int) (t18:Int) (sum:yB):Wy znD znw zAG:=.i (decide (t18<t17)) (.i (decide (0<=t18)&&decide (t18<Int.ofNat t16.length)) (.bn (zqu (t16.getD t18.toNat default).Cf) λr14=>.bn (zrr zl (to.length+t16.length+t17.toNat +t18.toNat +(t16.getD t18.toNat default).Fs.length+(Int.ofNat (t16.getD t18.toNat default).Fs.length).toNat +Int.toNat 0+sum.length+r14.length+1) to t16 t17 t18 (t16.getD t18.toNat default).Fs (Int.ofNat (t16.getD t18.toNat default).Fs.length) 0 sum r14) λr13=>.i (isL r13) (.k (.inl (getL r13))) (.bn (zpU (getR r13).2.2.2.2.1 (getR r13).2.2.2.2.2) λr12=>.i (r12.2 != 0) (.k (.inl (r12.2))) (.h ((((getR r13).1,()),()),(),(getR r13).2.1,(getR r13).2.2.1,(IntKind.i64.wrap ((getR r13).2.2.2.1+1)),()) ((r12.1),())))) .d) (.k (.inr sum))
def zyL (zl:At->yE->Bool×(yB×Int)) (x:znD) (y:znw):=zrF zl x.1.1.1 x.2.2.1 x.2.2.2.1 x.2.2.2.2.1 y.1
def zrD (zl:At->yE->Bool×(yB×Int)) (n:Nat) (to:yE) (t16:yB) (t17:Int) (t18:Int) (sum:yB):=zx (zyL zl) (.inl default) n (((to,()),()),(),t16,t17,t18,()) (sum,())
def zJI (r:zAG):LTree ty:=.ite (isL r) (.done .ret [.lit (.slice none 0 0),.lit (.int .i64 (getL r))] []) (.done (.exit 0) [.own 272] [.arr 107 (getR r) false])
def zKw:LL ty znD:=za (lFn 138 (za (zFl (za (lSl 65) zo) 0) zo)) (za (zd4 272) (za (lSl 107) (za zi (za zi zo))))
def zKr:BL ty znw:=zen 107 false (zbu)
def zHZ (x:znr) (y:zex):Nat:=(x.1.1.1.length+x.2.2.2.1.length+Int.toNat x.2.2.2.2.1+x.2.2.2.2.2.1.length+Int.toNat x.2.2.2.2.2.2.1+Int.toNat x.2.2.2.2.2.2.2.1+x.2.2.2.2.2.2.2.2.1.length+Int.toNat x.2.2.2.2.2.2.2.2.2.1+Int.toNat x.2.2.2.2.2.2.2.2.2.2.1+Int.toNat x.2.2.2.2.2.2.2.2.2.2.2.1+Int.toNat x.2.2.2.2.2.2.2.2.2.2.2.2.1+y.1.length+y.2.1.length+1)
def zJH (x:zno) (y:zex):Nat:=(x.1.1.1.length+x.2.2.2.1.length+Int.toNat x.2.2.2.2.1+Int.toNat x.2.2.2.2.2.1+x.2.2.2.2.2.2.1.length+Int.toNat x.2.2.2.2.2.2.2.1+Int.toNat x.2.2.2.2.2.2.2.2.1+y.1.length+y.2.1.length+1)
def zIo (x:znD) (y:znw):Nat:=(x.1.1.1.length+x.2.2.1.length+Int.toNat x.2.2.2.1+Int.toNat x.2.2.2.2.1+y.1.length+1)
def zll (zl:At->yE->Bool×(yB×Int)):=zcG zbE 68 [(72,zw0),(138,zhI),(197,zA2),(198,(zkG zl)),(199,zCZ)] [] [(3,[(1,.keep),(6,.own 107),(16,.keep),(17,.keep),(18,.keep)]),(7,(kpL [1,6,9,16,17,18,26,27,28])),(11,[(1,.keep),(6,.keep),(9,.keep),(12,.sl 107),(13,.keep),(16,.keep),(17,.keep),(18,.keep),(26,.keep),(27,.keep),(28,.keep),(40,.keep),(41,.keep)])] [(3,1,(kpL [6])),(3,0,(kpL [4,5])),(7,3,(kpL [1,6,9,16,17,18])),(7,0,(kpL [4,5])),(11,5,(kpL [1,6,9,13,16,17,18,26,27,28]))] [(11,spW zJS zI9 (zxy zl) default zHc zHZ),(7,spW zKp zI9 (zyP zl) (.inl default) zJV zJH),(3,spW zKw zKr (zyL zl) (.inl default) zJI zIo)] []
theorem zHf (zl:At->yE->Bool×(yB×Int)):zR (zll zl) (lp (body f137) 2):=zD (id:=11) (hl:=rfl)
theorem zJD (zl:At->yE->Bool×(yB×Int)):zR (zll zl) (lp (body f137) 1):=zD (id:=7) (hl:=rfl)
theorem zI8 (zl:At->yE->Bool×(yB×Int)):zR (zll zl) (lp (body f137) 0):=zD (id:=3) (hl:=rfl)
def zzw (zl:At->yE->Bool×(yB×Int)) (a:yB) (to:yE):Wy0 (yB×Int):=.bn (zrD zl (to.length+a.length+(Int.ofNat a.length).toNat +Int.toNat 0+0+1) to a (Int.ofNat a.length) 0 []) λr18=>.i (isL r18) (.k ([],getL r18)) (.k (getR r18,0))
def zkR (zl:At->yE->Bool×(yB×Int)) (a:yB) (to:yE):=(zzw zl a to).fin default
theorem zF3 (zl:At->yE->Bool×(yB×Int)) (zGf:Sound Tryz.prog zbE 198 (zkG zl)):Sound Tryz.prog zbE 137 (zkW (zkR zl)):=
 sU (cx':=(zll zl)) (zk ⟨zCb,zkX.nodr,zLM.nodr,zGf,zQu,trivial⟩) call137 func137 (lOK (aC (zI8 zl) (aC (zJD zl) (aC (zHf zl) aN)))) (sg:=⟨[.own 107,.pure],[]⟩)
def zVW:=zbM base 3 []
def zWO:Wy0 (yB):=.k [TO.mk 1 []]
def zua:Bool×yB:=(zWO).fin default
def zq2:=zh zZP λx=>((zua ).1,z0A (zua ).2)
theorem zu2:SdP 278 zq2:=
 sT (cx':=zVW) (zk trivial) call278 func278 (lOK aN) (sg:=⟨[.own 107],[]⟩)
def zO8:=zbM base 23 [(52,zco),(117,zgH),(124,zeE),(177,zmS),(278,zq2)]
def zCS (a:yB):Wy0 (yB×Int):=.bn (zcb a) λr2=>.i (!r2) (.k ([],1)) (.i (Int.ofNat a.length==0) (.k (zua.2,0)) (.bn (zeX a) λr1=>.i (r1) (.k ([],0)) (.bn (zek (zfl (At.mk 3 (RowID.mk 0 0) [a] 0 [] 0 (Value.mk 0 0 (ByteArray.mk #[])))).2) λr0=>.k (r0.1,r0.2))))
def zoB (a:yB):=(zCS a).fin default
def zzB:=zh zUN λx=>((zoB x.1).1,zMe (zoB x.1).2)
theorem zKo:SdP 236 zzB:=
 sT (cx':=zO8) (zk ⟨zcx,ziF,zfA,zul,zu2,trivial⟩) call236 func236 (lOK aN) (sg:=⟨[.own 107,.pure],[]⟩)
def zRL:=zbM base 29 [(52,zco),(117,zgH),(124,zeE),(141,zgM),(175,znI),(176,zti),(278,zq2)]
def zE7 (a:yB):Wy0 (yB×Int):=.bn (zcb a) λr5=>.i (!r5) (.k ([],1)) (.i (Int.ofNat a.length==0) (.bn (zgQ a) λr0=>.k (r0,0)) (.bn (zk4 a) λr4=>.i (r4) (.bn (zgQ a) λr1=>.k (r1,0)) (.bn (zhz a) λr3=>.i (r3) (.k (zua.2,0)) (.bn (zek (zfl (At.mk 2 (RowID.mk 0 0) [a] 0 [] 0 (Value.mk 0 0 (ByteArray.mk #[])))).2) λr2=>.k (r2.1,r2.2)))))
def zqI (a:yB):=(zE7 a).fin default
def zA6:=zh zUN λx=>((zqI x.1).1,zMe (zqI x.1).2)
theorem zMn:SdP 235 zA6:=
 sT (cx':=zRL) (zk ⟨zcx,ziF,zfA,ziB,zuU,zyX,zu2,trivial⟩) call235 func235 (lOK aN) (sg:=⟨[.own 107,.pure],[]⟩)
def zRY:=zbM base 38 [(52,zco),(115,znF),(117,zgH),(124,zeE),(141,zgM)]
def zE4 (a:yB) (b:yB):Wy0 (yB×Int):=.bn (zcb a) λr4=>.i (!r4) (.k ([],1)) (.bn (zcb b) λr3=>.i (!r3) (.k ([],1)) (.i (Int.ofNat b.length==0) (.bn (zgQ a) λr0=>.k (r0,0)) (.i (Int.ofNat a.length==0) (.k ([],0)) (.bn (zf7 a b) λr2=>.i (r2) (.k ([],0)) (.bn (zek (zfl (At.mk 1 (RowID.mk 0 0) [a,b] 0 [] 0 (Value.mk 0 0 (ByteArray.mk #[])))).2) λr1=>.k (r1.1,r1.2))))))
def zqd (a:yB) (b:yB):=(zE4 a b).fin default
def zAv:=zh zPj λx=>((zqd x.1 x.2.1).1,zMe (zqd x.1 x.2.1).2)
theorem zL7:SdP 234 zAv:=
 sT (cx':=zRY) (zk ⟨zcx,ztd,ziF,zfA,ziB,trivial⟩) call234 func234 (lOK aN) (sg:=⟨[.own 107,.pure],[]⟩)
def zf9 (x:yD) (a b:Int):Bool×yD:=z0M zY x a b
def zsG:Ab.Spec ty:=zh (cx:=base) (zf (zrH 169) (zf (zg (zf5 .i64)) (zf (zg (zf5 .i64)) (zf (zg (vFn 172 zc6)) zA)))) λx=>((zf9 x.1 x.2.1 x.2.2.1).1,⟨[],[some ⟨169,(zf9 x.1 x.2.1 x.2.2.1).2⟩]⟩)
theorem ztk (c:Unit) (x y:Wd) (h:(zY x y).1=true):zfD ((AV.agg (base.enc 169 x)::AV.agg (base.enc 169 y)::(zc6:VL base Unit).enc c).map Arg.pure)=some (true,⟨[.pure (.lit (.int .i64 (zY x y).2))],[]⟩):=by
 rw [<- h]; kernel_rfl
theorem zrI:SdP 309 zsG:=by
 letI:DecidableEq (ty 169):=inferInstanceAs (DecidableEq Wd)
 exact z7i (T:=169) ze1 rfl Go.Proofs.Tryz.insW Tryz.isAgg169 (by unfold zq; exact Tryz.sizeOf169) call309 zhH zc6 (λc=>zY) ztk
open Go.Proofs Go.RowKit
def zcy (x:yD) (m:Int):Bool×yD:=(decide (SortOK zY x)&&(decide (m=x.length)&&decide (m<20)),znz zY x)
def zlM:Ab.Spec ty:=zh (cx:=base) (zf (zrH 169) (zf (zg (zf5 .i64)) (zf (zg (vFn 172 zc6)) zA))) λx=>((zcy x.1 x.2.1).1,⟨[],[some ⟨169,(zcy x.1 x.2.1).2⟩]⟩)
set_option maxHeartbeats 1000000 in
theorem zvZ:SdP 308 zlM where
 enters:=call308
 calls:=λavs r hsp w F vs hF ha hsep=>by
  unfold zlM zh at hsp;split at hsp
  ·rename_i x hx;simp only [qa,qb] at hsp;obtain ⟨hpre,rfl⟩:=hsp;have hk:=(zf (zrH 169) (zf (zg (zf5 .i64)) (zf (zg (vFn 172 zc6)) zA)):AL base _).kind vs avs x hx;have ha':=(zf (zrH 169) (zf (zg (zf5 .i64)) (zf (zg (vFn 172 zc6)) zA)):AL base _).ok Tryz.prog ze1 F w vs avs x hx ha;rw [hk] at hsep ⊢;clear hk hx ha;obtain ⟨l0,m,c,u0⟩:=x;obtain ⟨l,rfl⟩:∃ l:yD,l=l0:=⟨l0,rfl⟩;obtain ⟨v,vs',rfl,hv,hv'⟩:=ha'.inv;obtain ⟨mv,vs1,rfl,hm,hv1⟩:=hv'.inv;obtain ⟨fv,vs'',rfl,hfv,h0⟩:=hv1.inv;obtain rfl:=h0.nil_left.1;have hm:Rep base F w mv (.lit (.int .i64 m)):=hm;obtain rfl:mv=.int .i64 m:=by cases hm; rfl
   have hsl:∃ p cap,v=.slice p l.length cap:=by
    obtain ⟨⟨xs,hown,_⟩,_⟩:=(show zdf base F w v 169 l/\∀ b,zbc v=some b->¬ F b from hv)
    rcases hown.2 with ⟨h1,h2⟩ | ⟨g0,cap,cur,h1,_⟩
    ·exact ⟨none,0,by rw [h1,show l.length=0 from h2]⟩
    ·exact ⟨_,cap,h1⟩
   have hpre:(decide (SortOK (α:=Wd) zY l)&&(decide (m=l.length)&&decide (m<20)))=true:=hpre;simp only [qc,qe] at hpre;obtain ⟨hok,rfl,h20⟩:=hpre
   have hpp:(zf9 l 0 (l.length:Int)).1=true:=by
    show (decide (SortOK (α:=Wd) zY l)&&(decide ((0:Int)=0)&&decide ((l.length:Int)=l.length)))=true;simp only [qc,qe];exact ⟨hok,trivial,trivial⟩
   have hp:=(zrI).calls [.own 169 l,.pure (.lit (.int .i64 0)),.pure (.lit (.int .i64 (l.length:Int))),.pure (.fn 172 [])] ⟨[],[some ⟨169,(zcy l (l.length:Int)).2⟩]⟩
    (by rw [<- hpp]; kernel_rfl) w F [v,.int .i64 0,.int .i64 (l.length:Int),fv] hF (.cons hv (.cons (Rep.lit _) (.cons (Rep.lit _) (.cons hfv .nil)))) hsep
   replace hp:Calls Tryz.prog 309 #[v,.int .i64 0,.int .i64 (l.length:Int),fv] w λe w'=>∃ u,e=.returned u/\Post base F w [v] ⟨[],[some ⟨169,(zcy l (l.length:Int)).2⟩]⟩ u w':=hp
   show Calls Tryz.prog 308 #[v,.int .i64 (l.length:Int),fv] w λe w'=>∃ u,e=.returned u/\Post base F w [v] ⟨[],[some ⟨169,(zcy l (l.length:Int)).2⟩]⟩ u w'
   generalize (zcy l (l.length:Int)).2=res at hp ⊢;generalize hn:l.length=m at *;clear hpp hv hfv hsep hok hF hm;obtain ⟨p,cap,rfl⟩:=hsl;clear hn
   go_enter func308,ntmps308
   go_wp2
   refine wp_loop_rounds 1 ?_;rw [rounds_succ]
   go_wp2_with (go_at_call 309; refine hp.mono ?_; rintro e w' ⟨u,rfl,hpost⟩; obtain rfl:=hpost.unit)
   refine wp_loop_rounds 1 ?_;rw [rounds_succ]
   go_wp2
   all_goals first | (exfalso; omega) | (go_end0; exact ⟨_,rfl,hpost⟩)
  ·cases hsp
end Go.Proofs.YtoknknbmfmddbaaGreatDoor
namespace Go.Proofs.YtoknknbmfmddbaaGreatDoor
open Go Go.Ab
open Go.Proofs Go.RowKit
open Go.Proofs.Tryz
def zZ (x:yD):Bool×yD:=(decide (SortOK zY x)&&decide (x.length<20),znz zY x)
def zdS:Ab.Spec ty:=zh (cx:=base) (zf (zrH 169) (zf (zg (vFn 172 zc6)) zA)) λx=>((zZ x.1).1,⟨[],[some ⟨169,(zZ x.1).2⟩]⟩)
set_option maxHeartbeats 1000000 in
theorem zmZ:SdP 302 zdS where
 enters:=call302
 calls:=λavs r hsp w F vs hF ha hsep=>by
  unfold zdS zh at hsp;split at hsp
  ·rename_i x hx;simp only [qa,qb] at hsp;obtain ⟨hpre,rfl⟩:=hsp;have hk:=(zf (zrH 169) (zf (zg (vFn 172 zc6)) zA):AL base _).kind vs avs x hx;have ha':=(zf (zrH 169) (zf (zg (vFn 172 zc6)) zA):AL base _).ok Tryz.prog ze1 F w vs avs x hx ha;rw [hk] at hsep ⊢;clear hk hx ha;obtain ⟨l0,c,u0⟩:=x;obtain ⟨l,rfl⟩:∃ l:yD,l=l0:=⟨l0,rfl⟩;obtain ⟨v,vs',rfl,hv,hv'⟩:=ha'.inv;obtain ⟨fv,vs'',rfl,hfv,h0⟩:=hv'.inv;obtain rfl:=h0.nil_left.1
   have hsl:∃ p cap,v=.slice p l.length cap:=by
    obtain ⟨⟨xs,hown,_⟩,_⟩:=(show zdf base F w v 169 l/\∀ b,zbc v=some b->¬ F b from hv)
    rcases hown.2 with ⟨h1,h2⟩ | ⟨g0,cap,cur,h1,_⟩
    ·exact ⟨none,0,by rw [h1,show l.length=0 from h2]⟩
    ·exact ⟨_,cap,h1⟩
   have hpre:(decide (SortOK (α:=Wd) zY l)&&decide (l.length<20))=true:=hpre;simp only [qc,qe] at hpre;obtain ⟨hok,h20⟩:=hpre
   have hpp:(zcy l (l.length:Int)).1=true:=by
    show (decide (SortOK (α:=Wd) zY l)&&(decide ((l.length:Int)=l.length)&&decide ((l.length:Int)<20)))=true;simp only [qc,qe];exact ⟨hok,trivial,by omega⟩
   have hp:=(zvZ).calls [.own 169 l,.pure (.lit (.int .i64 (l.length:Int))),.pure (.fn 172 [])] ⟨[],[some ⟨169,(zZ l).2⟩]⟩
    (by rw [<- hpp]; kernel_rfl) w F [v,.int .i64 (l.length:Int),fv] hF (.cons hv (.cons (Rep.lit _) (.cons hfv .nil))) hsep
   replace hp:Calls Tryz.prog 308 #[v,.int .i64 (l.length:Int),fv] w λe w'=>∃ u,e=.returned u/\Post base F w [v] ⟨[],[some ⟨169,(zZ l).2⟩]⟩ u w':=hp
   show Calls Tryz.prog 302 #[v,fv] w λe w'=>∃ u,e=.returned u/\Post base F w [v] ⟨[],[some ⟨169,(zZ l).2⟩]⟩ u w'
   generalize (zZ l).2=res at hp ⊢;generalize hn:l.length=m at *;clear hpp hv hfv hsep hok hF;obtain ⟨p,cap,rfl⟩:=hsl;clear hn
   go_enter func302,ntmps302
   go_wp2_with (go_at_call 308; refine hp.mono ?_; rintro e w' ⟨u,rfl,hpost⟩; obtain rfl:=hpost.unit)
   go_end0
   exact ⟨_,rfl,hpost⟩
  ·cases hsp
end Go.Proofs.YtoknknbmfmddbaaGreatDoor
namespace Go.Proofs.YtoknknbmfmddbaaGreatDoor
open Go Go.Ab
open Go.Proofs.Tryz
abbrev zqW:=Unit×yD×Int×Int×Unit
abbrev zlE:=yD×Unit
def zlw (t6:yD) (t7:Int) (t8:Int) (out_:yD):Wy zqW zlE (yD):=.i (decide (t8<t7)) (.i (decide (0<=t8)&&decide (t8<Int.ofNat t6.length)) (.i (decide (Int.ofNat (t6.getD t8.toNat default).Ann.length>0)) (.bn (zgQ (t6.getD t8.toNat default).Ann) λr0=>.i (decide ((out_.length+[WO.mk (t6.getD t8.toNat default).Value r0].length)*56<=zI)) (.h ((),t6,t7,(IntKind.i64.wrap (t8+1)),()) ((out_++[WO.mk (t6.getD t8.toNat default).Value r0]),())) .d) (.h ((),t6,t7,(IntKind.i64.wrap (t8+1)),()) (out_,()))) .d) (.k out_)
def zwU (x:zqW) (y:zlE):=zlw x.2.1 x.2.2.1 x.2.2.2.1 y.1
def zCW (n:Nat) (t6:yD) (t7:Int) (t8:Int) (out_:yD):=zx (zwU) default n ((),t6,t7,t8,()) (out_,())
def zPf (r:yD):LTree ty:=.done (.exit 0) [.own 116] [.arr 169 r false]
def zRC:LL ty zqW:=za (zd4 116) (za (lSl 169) (za zi (za zi zo)))
def zSu:BL ty zlE:=zen 169 false (zbu)
def zPv (x:zqW) (y:zlE):Nat:=(x.2.1.length+Int.toNat x.2.2.1+Int.toNat x.2.2.2.1+y.1.length+1)
def zCQ:=zcG base 29 [(141,zgM),(172,zfD),(302,zdS)] [(302,[true,false])] [(3,[(3,.own 169),(6,.keep),(7,.keep),(8,.keep)])] [(3,1,(kpL [3]))] [(3,spW zRC zSu (zwU) default zPf zPv)] []
theorem zOQ:zR zCQ (lp (body f280) 0):=zD (id:=3) (hl:=rfl)
def zEb (l:yD):Wy0 (yD):=.bn (zCW (l.length+(Int.ofNat l.length).toNat +Int.toNat 0+0+1) l (Int.ofNat l.length) 0 []) λr3=>.bn (zZ r3) λr2=>.k r2
def zqC (l:yD):=(zEb l).fin default
def zO0 (r:yD):ARes ty:=⟨[.own 169 r],[]⟩
def zS6:AL base zlE:=zf (zg (vSl 169)) zA
def zAB:=zh zS6 λx=>((zqC x.1).1,zO0 (zqC x.1).2)
theorem zMy:SdP 280 zAB:=
 sT (cx':=zCQ) (zk ⟨ziB,zhH,zmZ,trivial⟩) call280 func280 (lOK (aC zOQ aN)) (sg:=⟨[.own 169],[]⟩)
def zNd:=zbM base 7 [(52,zco)]
def zBp (w:Wd):Wy0 (Bool):=.bn (zcb w.Ann) λr0=>.k (!r0)
def zmU (w:Wd):=(zBp w).fin default
def zlo:=zh zHR λx=>((zmU x.1).1,zRy (zmU x.1).2)
theorem zp7:SdP 279 zlo:=
 sT (cx':=zNd) (zk ⟨zcx,trivial⟩) call279 func279 (lOK aN)
def zRV:=zbM base 28 []
def zEH (op:Int) (sign:Int):Wy0 (Bool):=.i (op==5) (.k (sign==0)) (.i (op==6) (.k (sign != 0)) (.i (op==7) (.k (decide (sign<0))) (.i (op==8) (.k (decide (sign<=0))) (.i (op==9) (.k (decide (sign>0))) (.k (decide (sign≥0)))))))
def zqw (op:Int) (sign:Int):=(zEH op sign).fin default
def zAr:=zh zSd λx=>((zqw x.1 x.2.1).1,zRy (zqw x.1 x.2.1).2)
theorem zMw:SdP 281 zAr:=
 sT (cx':=zRV) (zk trivial) call281 func281 (lOK aN)
abbrev zdE:=yD×Unit×Int×Int×Unit
def zpE (s:yD) (t7:Int) (t8:Int):Wy zdE Unit (Int⊕Unit):=.i (decide (t8<t7)) (.i (decide (0<=t8)&&decide (t8<Int.ofNat s.length)) (.bn (zmU (s.getD t8.toNat default)) λr0=>.i (r0) (.k (.inl t8)) (.h (s,(),t7,(IntKind.i64.wrap (t8+1)),()) ())) .d) (.k (.inr ()))
def zhp (x:zdE) (y:Unit):=zpE x.1 x.2.2.1 x.2.2.2.1
def zpI (n:Nat) (s:yD) (t7:Int) (t8:Int):=zx (zhp) (.inl default) n (s,(),t7,t8,()) ()
def zpX:LL ty zdE:=za (lSl 169) (za (lFn 279 (zo)) (za zi (za zi zo)))
def zpf (x:zdE) (y:Unit):Nat:=(x.1.length+Int.toNat x.2.2.1+Int.toNat x.2.2.2.1+1)
def zhG:=zcG base 19 [(279,zlo)] [] [(2,(kpL [0,1,7,8]))] [(2,1,[]),(2,0,(kpL [4]))] [(2,spW zpX z2p (zhp) (.inl default) zrz zpf)] []
theorem zoI:zR zhG (lp (body f228) 0):=zD (id:=2) (hl:=rfl)
def zqP (s:yD):Wy0 (Int):=.bn (zpI (s.length+(Int.ofNat s.length).toNat +Int.toNat 0+1) s (Int.ofNat s.length) 0) λr2=>.i (isL r2) (.k (getL r2)) (.k (-1:Int))
def zdg (s:yD):=(zqP s).fin default
def zqa:AL base (yD×Unit×Unit):=zf (zg (vSl 169)) (zf (zg (vFn 279 zc6)) zA)
def zgU:=zh zqa λx=>((zdg x.1).1,zMi (zdg x.1).2)
theorem zn5:SdP 228 zgU:=
 sT (cx':=zhG) (zk ⟨zp7,trivial⟩) call228 func228 (lOK (aC zoI aN))
def znX:=zbM base 9 [(228,zgU),(279,zlo)]
def zgO (s:yD):Wy0 (Bool):=.bn (zdg s) λr0=>.k (decide (r0≥0))
def zb9 (s:yD):=(zgO s).fin default
def zfS:=zh zqa λx=>((zb9 x.1).1,zRy (zb9 x.1).2)
theorem zmh:SdP 178 zfS:=
 sT (cx':=znX) (zk ⟨zn5,zp7,trivial⟩) call178 func178 (lOK aN)
def zSG:=zbM base 45 [(117,zgH),(124,zeE),(178,zfS),(181,zrX),(195,zmo),(278,zq2),(279,zlo),(280,zAB),(281,zAr)]
def zGV (fn:Int) (items:yD) (op:Int) (bound:Value):Wy0 (yB×Int):=.bn (zjN fn items op bound) λr5=>.i (!r5) (.k ([],1)) (.bn (zb9 items) λr4=>.i (r4) (.k ([],1)) (.bn (zqC items) λr3=>.i (decide (Int.ofNat r3.length>0)) (.bn (zek (zfl (At.mk 4 (RowID.mk 0 0) [] fn r3 op bound)).2) λr0=>.k (r0.1,r0.2)) (.i (fn==0) (.bn (ziR 0 bound.Int) λr2=>.bn (zqw op r2) λr1=>.i (r1) (.k (zua.2,0)) (.k ([],0))) (.k ([],0)))))
def znu (fn:Int) (items:yD) (op:Int) (bound:Value):=(zGV fn items op bound).fin default
def zCd:=zh zQF λx=>((znu x.1 x.2.1 x.2.2.1 x.2.2.2.1).1,zMe (znu x.1 x.2.1 x.2.2.1 x.2.2.2.1).2)
theorem zNG:SdP 237 zCd:=
 sT (cx':=zSG) (zk ⟨ziF,zfA,zmh,zxN,zrR,zu2,zp7,zMy,zMw,trivial⟩) call237 func237 (lOK aN) (sg:=⟨[.own 107,.pure],[]⟩)
abbrev zj5:=((yE×Unit)×Unit)×Unit×Unit×yA×Int×Int×Unit
abbrev zj6:=At×yA×Unit
abbrev zw4:=Int⊕(yE×At×yA)
abbrev zjV:=((yE×Unit)×Unit)×Unit×Unit×yD×Int×Int×Unit
abbrev zj2:=At×yD×Unit
abbrev zxb:=Int⊕(At×yD)
def zmT (zO:yB->yE->Bool×(yB×Int)) (to:yE) (t24:yA) (t25:Int) (t26:Int) (x_:At) (args:yA):Wy zj5 zj6 zw4:=.i (decide (t26<t25)) (.i (decide (0<=t26)&&decide (t26<Int.ofNat t24.length)) (.bn (zO (t24.getD t26.toNat default) to) λr2=>.i (r2.2 != 0) (.k (.inl (r2.2))) (.i (decide ((args.length+[r2.1].length)*24<=zI)) (.h (((to,()),()),(),(),t24,t25,(IntKind.i64.wrap (t26+1)),()) (x_,(args++[r2.1]),())) .d)) .d) (.k (.inr (to,x_,args)))
def zuG (zO:yB->yE->Bool×(yB×Int)) (x:zj5) (y:zj6):=zmT zO x.1.1.1 x.2.2.2.1 x.2.2.2.2.1 x.2.2.2.2.2.1 y.1 y.2.1
def ziW (zO:yB->yE->Bool×(yB×Int)) (n:Nat) (to:yE) (t24:yA) (t25:Int) (t26:Int) (x_:At) (args:yA):=zx (zuG zO) (.inl default) n (((to,()),()),(),(),t24,t25,t26,()) (x_,args,())
def zDc (r:zw4):LTree ty:=.ite (isL r) (.done .ret [.lit (.slice none 0 0),.lit (.int .i64 (getL r))] []) (.done (.exit 0) [.fn 138 ([.bptr ([.sl 65 (getR r).1]) 0]),.ptr 432 0,.own 433] [.box (base.enc 143 (getR r).2.1) false,.arr 51 (getR r).2.2 false])
def zEK:LL ty zj5:=za (lFn 138 (za (zFl (za (lSl 65) zo) 0) zo)) (za (zdo 432 0) (za (zd4 433) (za (lSl 51) (za zi (za zi zo)))))
def zEq:BL ty zj6:=zeM (zfh (λx=>(⟨x.1,⟨x.2.1,x.2.2.1⟩,x.2.2.2.1,x.2.2.2.2.1,x.2.2.2.2.2.1,x.2.2.2.2.2.2.1,⟨x.2.2.2.2.2.2.2.1,x.2.2.2.2.2.2.2.2.1,x.2.2.2.2.2.2.2.2.2.1⟩⟩:At)) (λx=>(x.Kind,x.Row.Table,x.Row.Seq,x.Ag,x.Func,x.Items,x.Op,x.Bd.Kind,x.Bd.Int,x.Bd.Text,())) (λ_=>rfl) (za (zW .i64) (za (zW .i64) (za (zW .i64) (za (lSl 51) (za (zW .i64) (za (lSl 169) (za (zW .i64) (za (zW .i64) (za (zW .i64) (za zzj zo))))))))))) false (zen 51 false (zbu))
def zlX (zO:yB->yE->Bool×(yB×Int)) (to:yE) (t74:yD) (t75:Int) (t76:Int) (x_:At) (items:yD):Wy zjV zj2 zxb:=.i (decide (t76<t75)) (.i (decide (0<=t76)&&decide (t76<Int.ofNat t74.length)) (.bn (zO (t74.getD t76.toNat default).Ann to) λr4=>.i (r4.2 != 0) (.k (.inl (r4.2))) (.i (decide ((items.length+[WO.mk (t74.getD t76.toNat default).Value r4.1].length)*56<=zI)) (.h (((to,()),()),(),(),t74,t75,(IntKind.i64.wrap (t76+1)),()) (x_,(items++[WO.mk (t74.getD t76.toNat default).Value r4.1]),())) .d)) .d) (.k (.inr (x_,items)))
def ztR (zO:yB->yE->Bool×(yB×Int)) (x:zjV) (y:zj2):=zlX zO x.1.1.1 x.2.2.2.1 x.2.2.2.2.1 x.2.2.2.2.2.1 y.1 y.2.1
def ziy (zO:yB->yE->Bool×(yB×Int)) (n:Nat) (to:yE) (t74:yD) (t75:Int) (t76:Int) (x_:At) (items:yD):=zx (ztR zO) (.inl default) n (((to,()),()),(),(),t74,t75,t76,()) (x_,items,())
def zCG (r:zxb):LTree ty:=.ite (isL r) (.done .ret [.lit (.slice none 0 0),.lit (.int .i64 (getL r))] []) (.done (.exit 3) [.ptr 432 0,.own 433] [.box (base.enc 143 (getR r).1) false,.arr 169 (getR r).2 false])
def zDl:LL ty zjV:=za (lFn 138 (za (zFl (za (lSl 65) zo) 0) zo)) (za (zdo 432 0) (za (zd4 433) (za (lSl 169) (za zi (za zi zo)))))
def zDf:BL ty zj2:=zeM (zfh (λx=>(⟨x.1,⟨x.2.1,x.2.2.1⟩,x.2.2.2.1,x.2.2.2.2.1,x.2.2.2.2.2.1,x.2.2.2.2.2.2.1,⟨x.2.2.2.2.2.2.2.1,x.2.2.2.2.2.2.2.2.1,x.2.2.2.2.2.2.2.2.2.1⟩⟩:At)) (λx=>(x.Kind,x.Row.Table,x.Row.Seq,x.Ag,x.Func,x.Items,x.Op,x.Bd.Kind,x.Bd.Int,x.Bd.Text,())) (λ_=>rfl) (za (zW .i64) (za (zW .i64) (za (zW .i64) (za (lSl 51) (za (zW .i64) (za (lSl 169) (za (zW .i64) (za (zW .i64) (za (zW .i64) (za zzj zo))))))))))) false (zen 169 false (zbu))
def zDq (x:zj5) (y:zj6):Nat:=(x.1.1.1.length+x.2.2.2.1.length+Int.toNat x.2.2.2.2.1+Int.toNat x.2.2.2.2.2.1+y.1.Ag.length+y.1.Items.length+y.2.1.length+1)
def zCK (x:zjV) (y:zj2):Nat:=(x.1.1.1.length+x.2.2.2.1.length+Int.toNat x.2.2.2.2.1+Int.toNat x.2.2.2.2.2.1+y.1.Ag.length+y.1.Items.length+y.2.1.length+1)
def zmX (zO:yB->yE->Bool×(yB×Int)):=zcG zbE 108 [(137,(zkW zO)),(138,zhI),(234,zAv),(235,zA6),(236,zzB),(237,zCd)] [] [(5,[(1,.keep),(2,.keep),(6,.own 51),(24,.keep),(25,.keep),(26,.keep)]),(21,[(1,.keep),(2,.keep),(11,.own 169),(74,.keep),(75,.keep),(76,.keep)])] [(5,1,(kpL [1,2,6])),(5,0,(kpL [4,5])),(21,4,(kpL [2,11])),(21,0,(kpL [4,5]))] [(5,spW zEK zEq (zuG zO) (.inl default) zDc zDq),(21,spW zDl zDf (ztR zO) (.inl default) zCG zCK)] []
theorem zDm (zO:yB->yE->Bool×(yB×Int)):zR (zmX zO) (lp (body f198) 0):=zD (id:=5) (hl:=rfl)
theorem zCF (zO:yB->yE->Bool×(yB×Int)):zR (zmX zO) (lp (body f198) 1):=zD (id:=21) (hl:=rfl)
def zv6 (zO:yB->yE->Bool×(yB×Int)) (x_:At) (to:yE):Wy0 (yB×Int):=.i (x_.Kind==0) (.bn (zhQ x_.Row to) λr6=>.k (r6,0)) (.bn (ziW zO (to.length+x_.Ag.length+(Int.ofNat x_.Ag.length).toNat +Int.toNat 0+x_.Ag.length+x_.Items.length+0+1) to x_.Ag (Int.ofNat x_.Ag.length) 0 (At.mk x_.Kind x_.Row x_.Ag x_.Func x_.Items x_.Op x_.Bd) []) λr12=>.i (isL r12) (.k ([],getL r12)) (.i ((getR r12).2.1.Kind==1) (.i (decide ((0:Int)<=(0:Int))&&decide (0<Int.ofNat (getR r12).2.2.length)) (.i (decide ((0:Int)<=(1:Int))&&decide (1<Int.ofNat (getR r12).2.2.length)) (.bn (zqd ((getR r12).2.2.getD (Int.toNat 0) default) ((getR r12).2.2.getD (Int.toNat 1) default)) λr7=>.k (r7.1,r7.2)) .d) .d) (.i ((getR r12).2.1.Kind==2) (.i (decide ((0:Int)<=(0:Int))&&decide (0<Int.ofNat (getR r12).2.2.length)) (.bn (zqI ((getR r12).2.2.getD (Int.toNat 0) default)) λr8=>.k (r8.1,r8.2)) .d) (.i ((getR r12).2.1.Kind==3) (.i (decide ((0:Int)<=(0:Int))&&decide (0<Int.ofNat (getR r12).2.2.length)) (.bn (zoB ((getR r12).2.2.getD (Int.toNat 0) default)) λr9=>.k (r9.1,r9.2)) .d) (.bn (ziy zO ((getR r12).1.length+(getR r12).2.1.Items.length+(Int.ofNat (getR r12).2.1.Items.length).toNat +Int.toNat 0+(getR r12).2.1.Ag.length+(getR r12).2.1.Items.length+0+1) (getR r12).1 (getR r12).2.1.Items (Int.ofNat (getR r12).2.1.Items.length) 0 (At.mk (getR r12).2.1.Kind (getR r12).2.1.Row (getR r12).2.1.Ag (getR r12).2.1.Func (getR r12).2.1.Items (getR r12).2.1.Op (getR r12).2.1.Bd) []) λr11=>.i (isL r11) (.k ([],getL r11)) (.bn (znu (getR r11).1.Func (getR r11).2 (getR r11).1.Op (getR r11).1.Bd) λr10=>.k (r10.1,r10.2)))))))
def zhY (zO:yB->yE->Bool×(yB×Int)) (x_:At) (to:yE):=(zv6 zO x_ to).fin default
theorem zBH (zO:yB->yE->Bool×(yB×Int)) (zMx:Sound Tryz.prog zbE 137 (zkW zO)):Sound Tryz.prog zbE 198 (zkG (zhY zO)):=
 sU (cx':=(zmX zO)) (zk ⟨zMx,zkX.nodr,zL7.nodr,zMn.nodr,zKo.nodr,zNG.nodr,trivial⟩) call198 func198 (lOK (aC (zDm zO) (aC (zCF zO) aN))) (sg:=⟨[.own 107,.pure],[]⟩)
def zD9:Nat->(yB->yE->Bool×(yB×Int))×(At->yE->Bool×(yB×Int))
 | 0=>(λ_ _=>(false,default),λ_ _=>(false,default))
 | n+1=>(zkR ((zD9 n).2),zhY ((zD9 n).1))
def zkn (n:Nat):yB->yE->Bool×(yB×Int):=(zD9 n).1
def zhV (n:Nat):At->yE->Bool×(yB×Int):=(zD9 n).2
theorem zKS (n:Nat):zkn (n+1)=zkR (zhV n):=rfl
theorem zEB (n:Nat):zhV (n+1)=zhY (zkn n):=rfl
theorem zQQ:∀ n,Sound Tryz.prog zbE 137 (zkW (zkn n))/\Sound Tryz.prog zbE 198 (zkG (zhV n))
 | 0=>⟨zbs call137 (λ_=>rfl),zbs call198 (λ_=>rfl)⟩
 | n+1=>by
  have ih:=zQQ n;exact ⟨zF3 _ (ih.2),zBH _ (ih.1)⟩
def zxx:yB->yE->Bool×(yB×Int):=zkn 1000
def zyI:Ab.Spec ty:=zkW zxx
theorem zI4:Sound Tryz.prog zbE 137 zyI:=(zQQ 1000).1
def zE2:=zbM base 7 [(52,zco)]
def zwp (b:Bg):Wy0 (Bool):=.bn (zcb b.To) λr0=>.k (!r0)
def zh4 (b:Bg):=(zwp b).fin default
def zFP:AL base (Bg×Unit):=zf (zg (zcT 65)) zA
def zhL:=zh zFP λx=>((zh4 x.1).1,zRy (zh4 x.1).2)
theorem zku:SdP 136 zhL:=
 sT (cx':=zE2) (zk ⟨zcx,trivial⟩) call136 func136 (lOK aN)
abbrev zdY:=yE×Unit×Int×Int×Unit
def zq6 (s:yE) (t7:Int) (t8:Int):Wy zdY Unit (Int⊕Unit):=.i (decide (t8<t7)) (.i (decide (0<=t8)&&decide (t8<Int.ofNat s.length)) (.bn (zh4 (s.getD t8.toNat default)) λr0=>.i (r0) (.k (.inl t8)) (.h (s,(),t7,(IntKind.i64.wrap (t8+1)),()) ())) .d) (.k (.inr ()))
def zij (x:zdY) (y:Unit):=zq6 x.1 x.2.2.1 x.2.2.2.1
def zrj (n:Nat) (s:yE) (t7:Int) (t8:Int):=zx (zij) (.inl default) n (s,(),t7,t8,()) ()
def zrb:LL ty zdY:=za (lSl 65) (za (lFn 136 (zo)) (za zi (za zi zo)))
def zp0 (x:zdY) (y:Unit):Nat:=(x.1.length+Int.toNat x.2.2.1+Int.toNat x.2.2.2.1+1)
def zie:=zcG base 19 [(136,zhL)] [] [(2,(kpL [0,1,7,8]))] [(2,1,[]),(2,0,(kpL [4]))] [(2,spW zrb z2p (zij) (.inl default) zrz zp0)] []
theorem zqS:zR zie (lp (body f139) 0):=zD (id:=2) (hl:=rfl)
def zrW (s:yE):Wy0 (Int):=.bn (zrj (s.length+(Int.ofNat s.length).toNat +Int.toNat 0+1) s (Int.ofNat s.length) 0) λr2=>.i (isL r2) (.k (getL r2)) (.k (-1:Int))
def zdF (s:yE):=(zrW s).fin default
def zrN:AL base (yE×Unit×Unit):=zf (zg (vSl 65)) (zf (zg (vFn 136 zc6)) zA)
def zhF:=zh zrN λx=>((zdF x.1).1,zMi (zdF x.1).2)
theorem zoU:SdP 139 zhF:=
 sT (cx':=zie) (zk ⟨zku,trivial⟩) call139 func139 (lOK (aC zqS aN))
def zpg:=zbM base 9 [(136,zhL),(139,zhF)]
def zhy (s:yE):Wy0 (Bool):=.bn (zdF s) λr0=>.k (decide (r0≥0))
def zcd (s:yE):=(zhy s).fin default
def zgs:=zh zrN λx=>((zcd x.1).1,zRy (zcd x.1).2)
theorem zm3:SdP 135 zgs:=
 sT (cx':=zpg) (zk ⟨zku,zoU,trivial⟩) call135 func135 (lOK aN)
def zIV:=zbM zbE 18 [(52,zco),(135,zgs),(136,zhL),(137,zyI),(138,zhI)]
def zyT (a:yB) (l:yE):Wy0 (yB×Int):=.bn (zcb a) λr2=>.i (!r2) (.k ([],1)) (.bn (zcd l) λr1=>.i (r1) (.k ([],1)) (.bn (zxx a l) λr0=>.k (r0.1,r0.2)))
def zjG (a:yB) (l:yE):=(zyT a l).fin default
def zKH:AL zbE (yB×yE×Unit):=zf (zg (vSl 107)) (zf (zg (vSl 65)) zA)
def zvO:=zh zKH λx=>((zjG x.1 x.2.1).1,zMe (zjG x.1 x.2.1).2)
theorem zFj:Sound Tryz.prog zbE 80 zvO:=
 sU (cx':=zIV) (zk ⟨zcx.nodr,zm3.nodr,zku.nodr,zI4,zkX.nodr,trivial⟩) call80 func80 (lOK aN) (sg:=⟨[.own 107,.pure],[]⟩)
def zeK:Cx ty:={ base with nt:=8 }
def zfJ (s:yG):Bool×yG:=(decide (s.length*32<=zI),s)
def zlB:Ab.Spec ty:=zh (cx:=base) (zf (zg (vSl 79)) zA) λx=>((zfJ x.1).1,⟨[.own 79 (zfJ x.1).2],[]⟩)
theorem zxt:zet zeK f62 (body f62) ⟨[.own 79],[]⟩ [.pure (.lit (.slice none 0 0))]=some ⟨[.own 79 []],[]⟩:=by kernel_rfl
theorem zvS (p:Addr) (c:Nat):zet zeK f62 (body f62) ⟨[.own 79],[]⟩ [.pure (.lit (.slice (some p) 0 c))]=some ⟨[.own 79 []],[]⟩:=by kernel_rfl
theorem zwC (l:yG):zet zeK f62 (body f62) ⟨[.own 79],[]⟩ [.pure (.sl 79 l)]=bif !l.isEmpty then bif decide ((([]:List (ty 79)).length+l.length)*32<=zI) then some ⟨[.own 79 l],[]⟩ else none else none:=by kernel_rfl
theorem zv9:SdP 62 zlB:=
 zmn (cx':=zeK) (bytes:=32) zzP ze1 ⟨⟨rfl,rfl,rfl,rfl,rfl,rfl⟩,rfl⟩ (λg s h=>by cases h) call62 func62 (c:=body f62) (by kernel_rfl) (zsQ (l:=[]) (by kernel_rfl) trivial) zxt zvS zwC (by kernel_rfl)
def zS7:=zbM zbE 17 [(62,zlB),(80,zvO)]
def zGX (x_:Row) (a:yB):Wy0 (Row):=.bn (zjG a []) λr1=>.bn (zfJ x_.Values) λr0=>.k (⟨r0,r1.1⟩:Row)
def zni (x_:Row) (a:yB):=(zGX x_ a).fin default
def zVN:AL zbE (Row×yB×Unit):=zf (zg (zcT 54)) (zf (zg (vSl 107)) zA)
def zCh:=zh zVN λx=>((zni x.1 x.2.1).1,zSx (zni x.1 x.2.1).2)
theorem zNP:Sound Tryz.prog zbE 71 zCh:=
 sU (cx':=zS7) (zk ⟨zv9.nodr,zFj,trivial⟩) call71 func71 (lOK aN)
def zeu:Cx ty:={ base with nt:=8 }
def zdU (s:yH):Bool×yH:=(decide (s.length*24<=zI),s)
def zkT:Ab.Spec ty:=zh (cx:=base) (zf (zg (vSl 75)) zA) λx=>((zdU x.1).1,⟨[.own 75 (zdU x.1).2],[]⟩)
theorem zwe:zet zeu f61 (body f61) ⟨[.own 75],[]⟩ [.pure (.lit (.slice none 0 0))]=some ⟨[.own 75 []],[]⟩:=by kernel_rfl
theorem zuz (p:Addr) (c:Nat):zet zeu f61 (body f61) ⟨[.own 75],[]⟩ [.pure (.lit (.slice (some p) 0 c))]=some ⟨[.own 75 []],[]⟩:=by kernel_rfl
theorem zvu (l:yH):zet zeu f61 (body f61) ⟨[.own 75],[]⟩ [.pure (.sl 75 l)]=bif !l.isEmpty then bif decide ((([]:List (ty 75)).length+l.length)*24<=zI) then some ⟨[.own 75 l],[]⟩ else none else none:=by kernel_rfl
theorem zus:SdP 61 zkT:=
 zmn (cx':=zeu) (bytes:=24) zzP ze1 ⟨⟨rfl,rfl,rfl,rfl,rfl,rfl⟩,rfl⟩ (λg s h=>by cases h) call61 func61 (c:=body f61) (by kernel_rfl) (zsQ (l:=[]) (by kernel_rfl) trivial) zwe zuz zvu (by kernel_rfl)
def zga:Cx ty:={ base with nt:=8 }
def ze9 (s:yF):Bool×yF:=(decide (s.length*48<=zI),s)
def zn9:Ab.Spec ty:=zh (cx:=base) (zf (zg (vSl 54)) zA) λx=>((ze9 x.1).1,⟨[.own 54 (ze9 x.1).2],[]⟩)
theorem zzF:zet zga f68 (body f68) ⟨[.own 54],[]⟩ [.pure (.lit (.slice none 0 0))]=some ⟨[.own 54 []],[]⟩:=by kernel_rfl
theorem zyE (p:Addr) (c:Nat):zet zga f68 (body f68) ⟨[.own 54],[]⟩ [.pure (.lit (.slice (some p) 0 c))]=some ⟨[.own 54 []],[]⟩:=by kernel_rfl
theorem zzo (l:yF):zet zga f68 (body f68) ⟨[.own 54],[]⟩ [.pure (.sl 54 l)]=bif !l.isEmpty then bif decide ((([]:List (ty 54)).length+l.length)*48<=zI) then some ⟨[.own 54 l],[]⟩ else none else none:=by kernel_rfl
theorem zyD:SdP 68 zn9:=
 zmn (cx':=zga) (bytes:=48) zzP ze1 ⟨⟨rfl,rfl,rfl,rfl,rfl,rfl⟩,rfl⟩ (λg s h=>by cases h) call68 func68 (c:=body f68) (by kernel_rfl) (zsQ (l:=[]) (by kernel_rfl) trivial) zzF zyE zzo (by kernel_rfl)
abbrev zfq:=yF×Unit×Int×Int×Unit
def zv2 (s:yF) (t7:Int) (t8:Int):Wy zfq Unit (Int⊕Unit):=.i (decide (t8<t7)) (.i (decide (0<=t8)&&decide (t8<Int.ofNat s.length)) (.i ((zhw (s.getD t8.toNat default)).2) (.k (.inl t8)) (.h (s,(),t7,(IntKind.i64.wrap (t8+1)),()) ())) .d) (.k (.inr ()))
def zlb (x:zfq) (y:Unit):=zv2 x.1 x.2.2.1 x.2.2.2.1
def zvR (n:Nat) (s:yF) (t7:Int) (t8:Int):=zx (zlb) (.inl default) n (s,(),t7,t8,()) ()
def zvV:LL ty zfq:=za (lSl 54) (za (lFn 69 (zo)) (za zi (za zi zo)))
def zvi (x:zfq) (y:Unit):Nat:=(x.1.length+Int.toNat x.2.2.1+Int.toNat x.2.2.2.1+1000)
def zk8:=zcG base 19 [(69,zjv)] [] [(2,(kpL [0,1,7,8]))] [(2,1,[]),(2,0,(kpL [4]))] [(2,spW zvV z2p (zlb) (.inl default) zrz zvi)] []
theorem zu5:zR zk8 (lp (body f122) 0):=zD (id:=2) (hl:=rfl)
def zwA (s:yF):Wy0 (Int):=.bn (zvR (s.length+(Int.ofNat s.length).toNat +Int.toNat 0+1000) s (Int.ofNat s.length) 0) λr0=>.i (isL r0) (.k (getL r0)) (.k (-1:Int))
def zdL (s:yF):=(zwA s).fin default
def zwD:AL base (yF×Unit×Unit):=zf (zg (vSl 54)) (zf (zg (vFn 69 zc6)) zA)
def zkg:=zh zwD λx=>((zdL x.1).1,zMi (zdL x.1).2)
theorem ztU:SdP 122 zkg:=
 sT (cx':=zk8) (zk ⟨zmE,trivial⟩) call122 func122 (lOK (aC zu5 aN))
abbrev zfK:=Unit×Unit×Int×Int×Unit
abbrev zfH:=yF×Unit
abbrev zpu:=Int×yF
def zhl (i:Int) (j:Int) (s:yF):Wy zfK zfH zpu:=.i (decide (j<Int.ofNat s.length)) (.i (decide (0<=j)&&decide (j<Int.ofNat s.length)) (.i (!(zhw (s.getD j.toNat default)).2) (.i (decide (0<=i)&&decide (i<Int.ofNat s.length)) (.i (decide (i.toNat<s.length)) (.h ((),(),(IntKind.i64.wrap (i+1)),(IntKind.i64.wrap (j+1)),()) ((s.set i.toNat (s.getD j.toNat default)),())) .d) .d) (.h ((),(),i,(IntKind.i64.wrap (j+1)),()) (s,()))) .d) (.k (i,s))
def zl6 (x:zfK) (y:zfH):=zhl x.2.2.1 x.2.2.2.1 y.1
def zhn (n:Nat) (i:Int) (j:Int) (s:yF):=zx (zl6) default n ((),(),i,j,()) (s,())
def zwR (r:zpu):LTree ty:=.done (.exit 0) [.own 168,.lit (.int .i64 r.1)] [.arr 54 r.2 false]
def zxo:LL ty zfK:=za (zd4 168) (za (lFn 69 (zo)) (za zi (za zi zo)))
def zxq:BL ty zfH:=zen 54 false (zbu)
def zwM (x:zfK) (y:zfH):Nat:=(Int.toNat x.2.2.1+Int.toNat x.2.2.2.1+y.1.length+1000)
def zl8:=zcG base 42 [(69,zjv),(122,zkg)] [] [(5,(kpL [0,1,5,6]))] [(5,1,(kpL [0,5]))] [(5,spW zxo zxq (zl6) default zwR zwM)] []
theorem zwB:zR zl8 (lp (body f67) 0):=zD (id:=5) (hl:=rfl)
def zm1 (s:yF):Wy0 (yF):=.bn (zdL s) λr1=>.i (r1==(-1:Int)) (.k s) (.bn (zhn (r1.toNat +(IntKind.i64.wrap (r1+1)).toNat +s.length+1000) r1 (IntKind.i64.wrap (r1+1)) s) λr0=>.i (decide (0<=r0.1)&&decide (r0.1<=Int.ofNat r0.2.length)&&decide (Int.ofNat r0.2.length<=Int.ofNat r0.2.length)) (.i (decide (r0.1.toNat +((Int.ofNat r0.2.length).toNat - r0.1.toNat)<=r0.2.length)) (.i (decide ((0:Int)<=(0:Int))&&decide (0<=r0.1)&&decide (r0.1<=Int.ofNat (List.take r0.1.toNat r0.2++List.replicate ((Int.ofNat r0.2.length).toNat - r0.1.toNat) (Row.mk [] [])++List.drop (r0.1.toNat +((Int.ofNat r0.2.length).toNat - r0.1.toNat)) r0.2).length)) (.k (List.take (r0.1.toNat - Int.toNat 0) (List.take r0.1.toNat r0.2++List.replicate ((Int.ofNat r0.2.length).toNat - r0.1.toNat) (Row.mk [] [])++List.drop (r0.1.toNat +((Int.ofNat r0.2.length).toNat - r0.1.toNat)) r0.2))) .d) .d) .d)
def zee (s:yF):=(zm1 s).fin default
def zwV (r:yF):ARes ty:=⟨[.own 54 r],[none]⟩
def zxH:AL base (yF×Unit×Unit):=zf (zrH 54) (zf (zg (vFn 69 zc6)) zA)
def zk9:=zh zxH λx=>((zee x.1).1,zwV (zee x.1).2)
theorem zuZ:SdP 67 zk9:=
 sT (cx':=zl8) (zk ⟨zmE,ztU,trivial⟩) call67 func67 (lOK (aC zwB aN)) (sg:=⟨[.own 54],[false]⟩)
def zzg (r:yF):ARes ty:=⟨[],[some ⟨54,r⟩]⟩
def zzZ:AL base (yF×Int×Int×Int×Unit×Unit):=zf (zrH 54) (zf (zg (zf5 .i64)) (zf (zg (zf5 .i64)) (zf (zg (zf5 .i64)) (zf (zg (vFn 53 zc6)) zA))))
def zAp (F:yF->Int->Int->Int->Bool×yF):Ab.Spec ty:=zh zzZ λx=>((F x.1 x.2.1 x.2.2.1 x.2.2.2.1).1,zzg (F x.1 x.2.1 x.2.2.1 x.2.2.2.1).2)
def zkO:yF->Int->Int->Int->Bool×yF:=λa _ _ _=>(decide (a.length=a.length+1),default)
def znj:Ab.Spec ty:=zAp zkO
theorem zxR:SdP 191 znj:=zbs call191 (λ_=>decide_eq_false (Nat.ne_of_lt (Nat.lt_succ_self _)))
abbrev zeJ:=Unit×Int×Int×Unit×Int×Int×Unit
abbrev zbW:=yF×Unit
abbrev zmu:=Int×Int×Int×yF
abbrev zeR:=Unit×Int×Int×Unit×Int×Unit
def zg2 (a:Int) (b:Int) (i:Int) (j:Int) (data:yF):Wy zeJ zbW zmu:=.i (decide (j>a)) (.i (decide (0<=j)&&decide (j<Int.ofNat data.length)) (.i (decide (0<=IntKind.i64.wrap (j - 1))&&decide (IntKind.i64.wrap (j - 1)<Int.ofNat data.length)) (.bn (zcq (data.getD j.toNat default) (data.getD (IntKind.i64.wrap (j - 1)).toNat default)) λr0=>.i (decide (r0<0)) (.i (decide (0<=IntKind.i64.wrap (j - 1))&&decide (IntKind.i64.wrap (j - 1)<Int.ofNat data.length)) (.i (decide (0<=j)&&decide (j<Int.ofNat data.length)) (.i (decide (0<=j)&&decide (j<Int.ofNat data.length)) (.i (decide (j.toNat<data.length)) (.i (decide (0<=IntKind.i64.wrap (j - 1))&&decide (IntKind.i64.wrap (j - 1)<Int.ofNat (data.set j.toNat (data.getD (IntKind.i64.wrap (j - 1)).toNat default)).length)) (.i (decide ((IntKind.i64.wrap (j - 1)).toNat<(data.set j.toNat (data.getD (IntKind.i64.wrap (j - 1)).toNat default)).length)) (.h ((),a,b,(),i,(IntKind.i64.wrap (j - 1)),()) (((data.set j.toNat (data.getD (IntKind.i64.wrap (j - 1)).toNat default)).set (IntKind.i64.wrap (j - 1)).toNat (data.getD j.toNat default)),())) .d) .d) .d) .d) .d) .d) (.k (a,b,i,data))) .d) .d) (.k (a,b,i,data))
def zlH (x:zeJ) (y:zbW):=zg2 x.2.1 x.2.2.1 x.2.2.2.2.1 x.2.2.2.2.2.1 y.1
def zg8 (n:Nat) (a:Int) (b:Int) (i:Int) (j:Int) (data:yF):=zx (zlH) default n ((),a,b,(),i,j,()) (data,())
def zvL (r:zmu):LTree ty:=.done (.exit 2) [.own 212,.lit (.int .i64 r.1),.lit (.int .i64 r.2.1),.fn 53 ([]),.lit (.int .i64 r.2.2.1)] [.arr 54 r.2.2.2 false]
def zwL:LL ty zeJ:=za (zd4 212) (za zi (za zi (za (lFn 53 (zo)) (za zi (za zi zo)))))
def zwz:BL ty zbW:=zen 54 false (zbu)
def zdm (a:Int) (b:Int) (i:Int) (data:yF):Wy zeR zbW (yF):=.i (decide (i<b)) (.bn (zg8 (a.toNat +b.toNat +i.toNat +i.toNat +data.length+1000) a b i i data) λr2=>.h ((),(r2.1),(r2.2.1),(),(IntKind.i64.wrap (r2.2.2.1+1)),()) ((r2.2.2.2),())) (.k data)
def zlD (x:zeR) (y:zbW):=zdm x.2.1 x.2.2.1 x.2.2.2.2.1 y.1
def zdl (n:Nat) (a:Int) (b:Int) (i:Int) (data:yF):=zx (zlD) default n ((),a,b,(),i,()) (data,())
def zvT (r:yF):LTree ty:=.done (.exit 0) [.own 212] [.arr 54 r false]
def zw1:LL ty zeR:=za (zd4 212) (za zi (za zi (za (lFn 53 (zo)) (za zi zo))))
def zvX (x:zeJ) (y:zbW):Nat:=(Int.toNat x.2.1+Int.toNat x.2.2.1+Int.toNat x.2.2.2.2.1+Int.toNat x.2.2.2.2.2.1+y.1.length+1000)
def zwm (x:zeR) (y:zbW):Nat:=(Int.toNat x.2.1+Int.toNat x.2.2.1+Int.toNat x.2.2.2.2.1+y.1.length+1000)
def zg7:=zcG base 53 [(53,zft)] [] [(1,(kpL [0,1,2,3,8])),(4,(kpL [0,1,2,3,8,9]))] [(1,1,(kpL [0])),(4,3,(kpL [0,1,2,3,8]))] [(4,spW zwL zwz (zlH) default zvL zvX),(1,spW zw1 zwz (zlD) default zvT zwm)] []
theorem zwj:zR zg7 (lp (body f190) 1):=zD (id:=4) (hl:=rfl)
theorem zwb:zR zg7 (lp (body f190) 0):=zD (id:=1) (hl:=rfl)
def zma (data:yF) (a:Int) (b:Int):Wy0 (yF):=.bn (zdl (a.toNat +b.toNat +(IntKind.i64.wrap (a+1)).toNat +data.length+1000) a b (IntKind.i64.wrap (a+1)) data) λr4=>.k r4
def zcS (data:yF) (a:Int) (b:Int):=(zma data a b).fin default
def zxr:AL base (yF×Int×Int×Unit×Unit):=zf (zrH 54) (zf (zg ziU) (zf (zg ziU) (zf (zg (vFn 53 zc6)) zA)))
def zkA:=zh zxr λx=>((zcS x.1 x.2.1 x.2.2.1).1,zzg (zcS x.1 x.2.1 x.2.2.1).2)
theorem zuC:SdP 190 zkA:=
 sT (cx':=zg7) (zk ⟨zgE,trivial⟩) call190 func190 (lOK (aC zwb (aC zwj aN))) (sg:=⟨[],[true]⟩)
abbrev zcA:=Unit×Int×Unit×Int×Int×Int×Unit
abbrev zby:=yF×Unit
abbrev zhK:=Int×Int×Int×yF
abbrev zhJ:=Unit×Int×Unit×Int×Unit
def zkc (n_:Int) (blockSize:Int) (a:Int) (b:Int) (data:yF):Wy zcA zby zhK:=.i (decide (b<=n_)) (.bn (zcS data a b) λr0=>.h ((),n_,(),blockSize,b,(IntKind.i64.wrap (b+blockSize)),()) ((r0),())) (.k (n_,blockSize,a,data))
def zro (x:zcA) (y:zby):=zkc x.2.1 x.2.2.2.1 x.2.2.2.2.1 x.2.2.2.2.2.1 y.1
def zj8 (n:Nat) (n_:Int) (blockSize:Int) (a:Int) (b:Int) (data:yF):=zx (zro) default n ((),n_,(),blockSize,a,b,()) (data,())
def zz7 (r:zhK):LTree ty:=.done (.exit 0) [.own 252,.lit (.int .i64 r.1),.fn 53 ([]),.lit (.int .i64 r.2.1),.lit (.int .i64 r.2.2.1)] [.arr 54 r.2.2.2 false]
def zBa:LL ty zcA:=za (zd4 252) (za zi (za (lFn 53 (zo)) (za zi (za zi (za zi zo)))))
def zBd:BL ty zby:=zen 54 false (zbu)
def zBc (n_:Int) (blockSize:Int) (a:Int) (b:Int) (data:yF):Wy zcA zby zhK:=.i (decide (b<=n_)) (.bn (zkO data a (IntKind.i64.wrap (a+blockSize)) b) λr2=>.h ((),n_,(),blockSize,b,(IntKind.i64.wrap (b+IntKind.i64.wrap (2*blockSize))),()) ((r2),())) (.k (n_,blockSize,a,data))
def zrn (x:zcA) (y:zby):=zBc x.2.1 x.2.2.2.1 x.2.2.2.2.1 x.2.2.2.2.2.1 y.1
def zBm (n:Nat) (n_:Int) (blockSize:Int) (a:Int) (b:Int) (data:yF):=zx (zrn) default n ((),n_,(),blockSize,a,b,()) (data,())
def zz9 (r:zhK):LTree ty:=.done (.exit 4) [.own 252,.lit (.int .i64 r.1),.fn 53 ([]),.lit (.int .i64 r.2.1),.lit (.int .i64 r.2.2.1)] [.arr 54 r.2.2.2 false]
def zka (n_:Int) (blockSize:Int) (data:yF):Wy zhJ zby (yF):=.i (decide (blockSize<n_)) (.bn (zBm (n_.toNat +blockSize.toNat +Int.toNat 0+(IntKind.i64.wrap (2*blockSize)).toNat +data.length+1000) n_ blockSize 0 (IntKind.i64.wrap (2*blockSize)) data) λr5=>.i (decide (IntKind.i64.wrap (r5.2.2.1+r5.2.1)<r5.1)) (.bn (zkO r5.2.2.2 r5.2.2.1 (IntKind.i64.wrap (r5.2.2.1+r5.2.1)) r5.1) λr4=>.h ((),(r5.1),(),(IntKind.i64.wrap (r5.2.1*2)),()) ((r4),())) (.h ((),(r5.1),(),(IntKind.i64.wrap (r5.2.1*2)),()) ((r5.2.2.2),()))) (.k data)
def zrp (x:zhJ) (y:zby):=zka x.2.1 x.2.2.2.1 y.1
def zkb (n:Nat) (n_:Int) (blockSize:Int) (data:yF):=zx (zrp) default n ((),n_,(),blockSize,()) (data,())
def zAe (r:yF):LTree ty:=.done (.exit 2) [.own 252] [.arr 54 r false]
def zBj:LL ty zhJ:=za (zd4 252) (za zi (za (lFn 53 (zo)) (za zi zo)))
def zAo (x:zcA) (y:zby):Nat:=(Int.toNat x.2.1+Int.toNat x.2.2.2.1+Int.toNat x.2.2.2.2.1+Int.toNat x.2.2.2.2.2.1+y.1.length+1000)
def zAf (x:zhJ) (y:zby):Nat:=(Int.toNat x.2.1+Int.toNat x.2.2.2.1+y.1.length+1000)
def zgB:=zcG base 63 [(53,zft),(190,zkA),(191,znj)] [(190,[true,false,false,false]),(191,[true,false,false,false,false])] [(2,(kpL [0,1,2,6,7,8])),(7,(kpL [0,1,2,6])),(9,(kpL [0,1,2,6,7,8]))] [(2,1,(kpL [0,1,2,6,7])),(7,3,(kpL [0])),(9,5,(kpL [0,1,2,6,7]))] [(2,spW zBa zBd (zro) default zz7 zAo),(9,spW zBa zBd (zrn) default zz9 zAo),(7,spW zBj zBd (zrp) default zAe zAf)] []
theorem zz6:zR zgB (lp (body f123) 0):=zD (id:=2) (hl:=rfl)
theorem zAc:zR zgB (lp (body f123) 2):=zD (id:=9) (hl:=rfl)
theorem zz4:zR zgB (lp (body f123) 1):=zD (id:=7) (hl:=rfl)
def zsr (data:yF) (n_:Int):Wy0 (yF):=.bn (zj8 (n_.toNat +Int.toNat 20+Int.toNat 0+Int.toNat 20+data.length+1000) n_ 20 0 20 data) λr10=>.bn (zcS r10.2.2.2 r10.2.2.1 r10.1) λr9=>.bn (zkb (r10.1.toNat +r10.2.1.toNat +r9.length+1000) r10.1 r10.2.1 r9) λr8=>.k r8
def zfG (data:yF) (n_:Int):=(zsr data n_).fin default
def zBD:AL base (yF×Int×Unit×Unit):=zf (zrH 54) (zf (zg ziU) (zf (zg (vFn 53 zc6)) zA))
def zpv:=zh zBD λx=>((zfG x.1 x.2.1).1,zzg (zfG x.1 x.2.1).2)
theorem zzi:SdP 123 zpv:=
 sT (cx':=zgB) (zk ⟨zgE,zuC,zxR,trivial⟩) call123 func123 (lOK (aC zz6 (aC zz4 (aC zAc aN)))) (sg:=⟨[],[true]⟩)
def zuB:=zcG base 9 [(53,zft),(123,zpv)] [(123,[true,false,false])] [] [] [] []
def zkY (x_:yF):Wy0 (yF):=.bn (zfG x_ (Int.ofNat x_.length)) λr0=>.k r0
def zct (x_:yF):=(zkY x_).fin default
def zvk:AL base (yF×Unit×Unit):=zf (zrH 54) (zf (zg (vFn 53 zc6)) zA)
def zjy:=zh zvk λx=>((zct x.1).1,zzg (zct x.1).2)
theorem zsY:SdP 70 zjy:=
 sT (cx':=zuB) (zk ⟨zgE,zzi,trivial⟩) call70 func70 (lOK aN) (sg:=⟨[],[true]⟩)
end Go.Proofs.YtoknknbmfmddbaaGreatDoor
end
