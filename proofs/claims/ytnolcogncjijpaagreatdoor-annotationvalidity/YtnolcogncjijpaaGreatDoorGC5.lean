/- Texts of this claim, joined (the program, its functions in plain words, and what they compute). -/
import Derived.Test.YtnolcogncjijpaaGreatDoorGC4
set_option autoImplicit false
set_option linter.unusedVariables false
set_option linter.unusedSectionVars false
set_option linter.unusedSimpArgs false
set_option maxRecDepth 1000000
set_option maxHeartbeats 0
noncomputable section
namespace Go.Proofs.YtnolcogncjijpaaGreatDoor
open Go Go.Ab
open Go.Proofs.Tryz
abbrev zoY:=yC×yC×Unit×Unit
abbrev zo4:=yC×Unit
abbrev zzw:=yC×yC×yC
def zLP (a:yC) (b:yC) (out_:yC):Wy zoY zo4 zzw:=.i (decide (Int.ofNat a.length>0)) (.i (decide (Int.ofNat b.length>0)) (.i (decide ((0:Int)<=(0:Int))&&decide (0<Int.ofNat a.length)) (.i (decide ((0:Int)<=(0:Int))&&decide (0<Int.ofNat b.length)) (.bn (zg9 (At.mk (a.getD (Int.toNat 0) default).At.Kind (a.getD (Int.toNat 0) default).At.Row (a.getD (Int.toNat 0) default).At.Ag (a.getD (Int.toNat 0) default).At.Func (a.getD (Int.toNat 0) default).At.Items (a.getD (Int.toNat 0) default).At.Op (a.getD (Int.toNat 0) default).At.Bd) (At.mk (b.getD (Int.toNat 0) default).At.Kind (b.getD (Int.toNat 0) default).At.Row (b.getD (Int.toNat 0) default).At.Ag (b.getD (Int.toNat 0) default).At.Func (b.getD (Int.toNat 0) default).At.Items (b.getD (Int.toNat 0) default).At.Op (b.getD (Int.toNat 0) default).At.Bd)) λr1=>.i (decide (r1<0)) (.i (decide ((0:Int)<=(0:Int))&&decide (0<Int.ofNat a.length)) (.i (decide ((out_.length+[FO.mk (At.mk (a.getD (Int.toNat 0) default).At.Kind (a.getD (Int.toNat 0) default).At.Row (a.getD (Int.toNat 0) default).At.Ag (a.getD (Int.toNat 0) default).At.Func (a.getD (Int.toNat 0) default).At.Items (a.getD (Int.toNat 0) default).At.Op (a.getD (Int.toNat 0) default).At.Bd) (a.getD (Int.toNat 0) default).Exp].length)*128<=zbO)) (.i (decide ((0:Int)<=(1:Int))&&decide (1<=Int.ofNat a.length)&&decide (Int.ofNat a.length<=Int.ofNat a.length)) (.h ((List.take ((Int.ofNat a.length).toNat - Int.toNat 1) (List.drop (Int.toNat 1) a)),b,(),()) ((out_++[FO.mk (At.mk (a.getD (Int.toNat 0) default).At.Kind (a.getD (Int.toNat 0) default).At.Row (a.getD (Int.toNat 0) default).At.Ag (a.getD (Int.toNat 0) default).At.Func (a.getD (Int.toNat 0) default).At.Items (a.getD (Int.toNat 0) default).At.Op (a.getD (Int.toNat 0) default).At.Bd) (a.getD (Int.toNat 0) default).Exp]),())) .d) .d) .d) (.i (decide (r1>0)) (.i (decide ((0:Int)<=(0:Int))&&decide (0<Int.ofNat b.length)) (.i (decide ((out_.length+[FO.mk (At.mk (b.getD (Int.toNat 0) default).At.Kind (b.getD (Int.toNat 0) default).At.Row (b.getD (Int.toNat 0) default).At.Ag (b.getD (Int.toNat 0) default).At.Func (b.getD (Int.toNat 0) default).At.Items (b.getD (Int.toNat 0) default).At.Op (b.getD (Int.toNat 0) default).At.Bd) (b.getD (Int.toNat 0) default).Exp].length)*128<=zbO)) (.i (decide ((0:Int)<=(1:Int))&&decide (1<=Int.ofNat b.length)&&decide (Int.ofNat b.length<=Int.ofNat b.length)) (.h (a,(List.take ((Int.ofNat b.length).toNat - Int.toNat 1) (List.drop (Int.toNat 1) b)),(),()) ((out_++[FO.mk (At.mk (b.getD (Int.toNat 0) default).At.Kind (b.getD (Int.toNat 0) default).At.Row (b.getD (Int.toNat 0) default).At.Ag (b.getD (Int.toNat 0) default).At.Func (b.getD (Int.toNat 0) default).At.Items (b.getD (Int.toNat 0) default).At.Op (b.getD (Int.toNat 0) default).At.Bd) (b.getD (Int.toNat 0) default).Exp]),())) .d) .d) .d) (.i (decide ((0:Int)<=(0:Int))&&decide (0<Int.ofNat a.length)) (.bn (zeq (At.mk (a.getD (Int.toNat 0) default).At.Kind (a.getD (Int.toNat 0) default).At.Row (a.getD (Int.toNat 0) default).At.Ag (a.getD (Int.toNat 0) default).At.Func (a.getD (Int.toNat 0) default).At.Items (a.getD (Int.toNat 0) default).At.Op (a.getD (Int.toNat 0) default).At.Bd)) λr0=>.i (!r0) (.i (decide ((0:Int)<=(0:Int))&&decide (0<Int.ofNat b.length)) (.i (decide ((out_.length+[FO.mk (At.mk (a.getD (Int.toNat 0) default).At.Kind (a.getD (Int.toNat 0) default).At.Row (a.getD (Int.toNat 0) default).At.Ag (a.getD (Int.toNat 0) default).At.Func (a.getD (Int.toNat 0) default).At.Items (a.getD (Int.toNat 0) default).At.Op (a.getD (Int.toNat 0) default).At.Bd) (IntKind.i64.wrap ((a.getD (Int.toNat 0) default).Exp+(b.getD (Int.toNat 0) default).Exp))].length)*128<=zbO)) (.i (decide ((0:Int)<=(1:Int))&&decide (1<=Int.ofNat a.length)&&decide (Int.ofNat a.length<=Int.ofNat a.length)) (.i (decide ((0:Int)<=(1:Int))&&decide (1<=Int.ofNat b.length)&&decide (Int.ofNat b.length<=Int.ofNat b.length)) (.h ((List.take ((Int.ofNat a.length).toNat - Int.toNat 1) (List.drop (Int.toNat 1) a)),(List.take ((Int.ofNat b.length).toNat - Int.toNat 1) (List.drop (Int.toNat 1) b)),(),()) ((out_++[FO.mk (At.mk (a.getD (Int.toNat 0) default).At.Kind (a.getD (Int.toNat 0) default).At.Row (a.getD (Int.toNat 0) default).At.Ag (a.getD (Int.toNat 0) default).At.Func (a.getD (Int.toNat 0) default).At.Items (a.getD (Int.toNat 0) default).At.Op (a.getD (Int.toNat 0) default).At.Bd) (IntKind.i64.wrap ((a.getD (Int.toNat 0) default).Exp+(b.getD (Int.toNat 0) default).Exp))]),())) .d) .d) .d) .d) (.i (decide ((out_.length+[FO.mk (At.mk (a.getD (Int.toNat 0) default).At.Kind (a.getD (Int.toNat 0) default).At.Row (a.getD (Int.toNat 0) default).At.Ag (a.getD (Int.toNat 0) default).At.Func (a.getD (Int.toNat 0) default).At.Items (a.getD (Int.toNat 0) default).At.Op (a.getD (Int.toNat 0) default).At.Bd) (a.getD (Int.toNat 0) default).Exp].length)*128<=zbO)) (.i (decide ((0:Int)<=(1:Int))&&decide (1<=Int.ofNat a.length)&&decide (Int.ofNat a.length<=Int.ofNat a.length)) (.i (decide ((0:Int)<=(1:Int))&&decide (1<=Int.ofNat b.length)&&decide (Int.ofNat b.length<=Int.ofNat b.length)) (.h ((List.take ((Int.ofNat a.length).toNat - Int.toNat 1) (List.drop (Int.toNat 1) a)),(List.take ((Int.ofNat b.length).toNat - Int.toNat 1) (List.drop (Int.toNat 1) b)),(),()) ((out_++[FO.mk (At.mk (a.getD (Int.toNat 0) default).At.Kind (a.getD (Int.toNat 0) default).At.Row (a.getD (Int.toNat 0) default).At.Ag (a.getD (Int.toNat 0) default).At.Func (a.getD (Int.toNat 0) default).At.Items (a.getD (Int.toNat 0) default).At.Op (a.getD (Int.toNat 0) default).At.Bd) (a.getD (Int.toNat 0) default).Exp]),())) .d) .d) .d)) .d))) .d) .d) (.k (a,b,out_))) (.k (a,b,out_))
def zzC (x:zoY) (y:zo4):=zLP x.1 x.2.1 y.1
def zM9 (n:Nat) (a:yC) (b:yC) (out_:yC):=zN (zzC) default n (a,b,(),()) (out_,())
def zK4 (r:zzw):LTree ty:=.done (.exit 0) [.sl 50 r.1,.sl 50 r.2.1,.own 300] [.arr 50 r.2.2 false]
def zLZ:LL ty zoY:=za (lSl 50) (za (lSl 50) (za (zhT 300) zr))
def zM0:BL ty zo4:=zhU 50 false (zbv)
def zKG (x:zoY) (y:zo4):Nat:=(x.1.length+x.2.1.length+y.1.length+1)
def zAf:=zcC base 75 [(72,zhP),(73,zjK),(114,ziv)] [] [(2,[(0,.keep),(1,.keep),(5,.own 50)])] [(2,1,(kpL [0,1,5]))] [(2,spW zLZ zM0 (zzC) default zK4 zKG)] []
theorem zKH:zR zAf (lp (body f59) 0):=zD (id:=2) (hl:=rfl)
def zN3 (a:yC) (b:yC):Wy0 (yC):=.bn (zM9 (a.length+b.length+0+1) a b []) λr5=>.bn (zgl [r5.2.2,r5.1,r5.2.1]) λr4=>.k r4
def zxg (a:yC) (b:yC):=(zN3 a b).fin default
def zwr:=zi zGp λx=>((zxg x.1 x.2.1).1,zsj (zxg x.1 x.2.1).2)
theorem zHj:SdP 59 zwr:=
 sT (cx':=zAf) (zn ⟨zkD,zpv,zqm,trivial⟩) call59 func59 (lOK (aC zKH aN)) (sg:=⟨[.own 50],[]⟩)
def zLr:=zbR base 12 []
def zMm (a:Int) (b:Int):Wy0 (Int):=.i (!decide (b=0)) (.i (decide (a>IntKind.i64.wrap (Int.tdiv 1152921504606846976 b))) (.k 1152921504606846976) (.k (IntKind.i64.wrap (a*b)))) .d
def zvk (a:Int) (b:Int):=(zMm a b).fin default
def zvK:=zi zSB λx=>((zvk x.1 x.2.1).1,zRK (zvk x.1 x.2.1).2)
theorem zFO:SdP 58 zvK:=
 sT (cx':=zLr) (zn trivial) call58 func58 (lOK aN)
abbrev zpF:=yB×Unit×Unit×yB×Int×Int×yB×Int×Int×Unit
abbrev zpA:=yB×Term×Unit
abbrev zBB:=yB×yB×Int×Int×yB
abbrev zpD:=yB×Unit×yB×Int×Int×Unit
abbrev zpH:=yB×Unit
def zOd (b:yB) (t19:yB) (t20:Int) (t21:Int) (t25:yB) (t26:Int) (t27:Int) (terms:yB) (x_:Term):Wy zpF zpA zBB:=.i (decide (t27<t26)) (.i (decide (0<=t27)&&decide (t27<Int.ofNat t25.length)) (.bn (zvk x_.Cf (t25.getD t27.toNat default).Cf) λr5=>.bn (zxg x_.Fs (t25.getD t27.toNat default).Fs) λr4=>.i (decide ((terms.length+[TO.mk r5 r4].length)*32<=zbO)) (.h (b,(),(),t19,t20,t21,t25,t26,(IntKind.i64.wrap (t27+1)),()) ((terms++[TO.mk r5 r4]),x_,())) .d) .d) (.k (b,t19,t20,t21,terms))
def zBq (x:zpF) (y:zpA):=zOd x.1 x.2.2.2.1 x.2.2.2.2.1 x.2.2.2.2.2.1 x.2.2.2.2.2.2.1 x.2.2.2.2.2.2.2.1 x.2.2.2.2.2.2.2.2.1 y.1 y.2.1
def zOb (n:Nat) (b:yB) (t19:yB) (t20:Int) (t21:Int) (t25:yB) (t26:Int) (t27:Int) (terms:yB) (x_:Term):=zN (zBq) default n (b,(),(),t19,t20,t21,t25,t26,t27,()) (terms,x_,())
def zL8 (r:zBB):LTree ty:=.done (.exit 2) [.sl 42 r.1,.own 208,.sl 42 r.2.1,.lit (.int .i64 r.2.2.1),.lit (.int .i64 r.2.2.2.1)] [.arr 42 r.2.2.2.2 false]
def zOm:LL ty zpF:=za (lSl 42) (za (zhT 208) (za (zeB 209 0) (za (lSl 42) (za zm (za zm (za (lSl 42) (za zm (za zm zr))))))))
def zOo:BL ty zpA:=zhU 42 false (zhD (zhu (λx=>(⟨x.1,x.2.1⟩:Term)) (λx=>(x.Cf,x.Fs,())) (λ_=>rfl) (za (zA .i64) (za (lSl 50) zr))) false (zbv))
def zOp (b:yB) (t19:yB) (t20:Int) (t21:Int) (terms:yB):Wy zpD zpH (yB):=.i (decide (t21<t20)) (.i (decide (0<=t21)&&decide (t21<Int.ofNat t19.length)) (.bn (zOb (b.length+t19.length+t20.toNat +t21.toNat +b.length+(Int.ofNat b.length).toNat +Int.toNat 0+terms.length+(t19.getD t21.toNat default).Fs.length+1) b t19 t20 t21 b (Int.ofNat b.length) 0 terms (t19.getD t21.toNat default)) λr8=>.h ((r8.1),(),(r8.2.1),(r8.2.2.1),(IntKind.i64.wrap (r8.2.2.2.1+1)),()) ((r8.2.2.2.2),())) .d) (.k terms)
def zBw (x:zpD) (y:zpH):=zOp x.1 x.2.2.1 x.2.2.2.1 x.2.2.2.2.1 y.1
def zNO (n:Nat) (b:yB) (t19:yB) (t20:Int) (t21:Int) (terms:yB):=zN (zBw) default n (b,(),t19,t20,t21,()) (terms,())
def zN1:LL ty zpD:=za (lSl 42) (za (zhT 208) (za (lSl 42) (za zm (za zm zr))))
def zOw:BL ty zpH:=zhU 42 false (zbv)
def zNc (x:zpF) (y:zpA):Nat:=(x.1.length+x.2.2.2.1.length+Int.toNat x.2.2.2.2.1+Int.toNat x.2.2.2.2.2.1+x.2.2.2.2.2.2.1.length+Int.toNat x.2.2.2.2.2.2.2.1+Int.toNat x.2.2.2.2.2.2.2.2.1+y.1.length+y.2.1.Fs.length+1)
def zM3 (x:zpD) (y:zpH):Nat:=(x.1.length+x.2.2.1.length+Int.toNat x.2.2.2.1+Int.toNat x.2.2.2.2.1+y.1.length+1)
def zut:=zcC zbK 52 [(31,zcp),(53,zdL),(54,zoc),(58,zvK),(59,zwr)] [] [(5,[(1,.keep),(6,.own 42),(19,.keep),(20,.keep),(21,.keep)]),(8,[(1,.keep),(6,.own 42),(8,.keep),(19,.keep),(20,.keep),(21,.keep),(25,.keep),(26,.keep),(27,.keep)])] [(5,1,(kpL [6])),(8,3,(kpL [1,6,19,20,21]))] [(8,spW zOm zOo (zBq) default zL8 zNc),(5,spW zN1 zOw (zBw) default zGq zM3)] []
theorem zLA:zR zut (lp (body f16) 1):=zD (id:=8) (hl:=rfl)
theorem zNg:zR zut (lp (body f16) 0):=zD (id:=5) (hl:=rfl)
def zPz (a:yB) (b:yB):Wy0 (yB×Int):=.bn (zb8 a) λr14=>.i (!r14) (.k ([],1)) (.bn (zb8 b) λr13=>.i (!r13) (.k ([],1)) (.bn (zNO (b.length+a.length+(Int.ofNat a.length).toNat +Int.toNat 0+0+1) b a (Int.ofNat a.length) 0 []) λr12=>.bn (zo0 r12) λr11=>.bn (zeM r11) λr10=>.k (r10.1,r10.2)))
def zyw (a:yB) (b:yB):=(zPz a b).fin default
def zsk:=zi zPr λx=>((zyw x.1 x.2.1).1,zGx (zyw x.1 x.2.1).2)
theorem zxj:Sound Tryz.prog zbK 16 zsk:=
 sU (cx':=zut) (zn ⟨zcw.nodr,zew.nodr,ztf,zFO.nodr,zHj.nodr,trivial⟩) call16 func16 (lOK (aC zNg (aC zLA aN))) (sg:=⟨[.own 42,.pure],[]⟩)
def zIC:AL zbK (yB×((yF×Unit)×Unit)×Unit):=zf (zg (vSl 42)) (zf (zg (vFn 93 (zpI (zRG (zpI (vSl 69) zcQ)) zcQ))) zF)
def ziV (F:yB->yF->Bool×(yB×Int)):Ab.Spec ty:=zi zIC λx=>((F x.1 x.2.1.1.1).1,zGx (F x.1 x.2.1.1.1).2)
def zDJ:AL zbK (At×((yF×Unit)×Unit)×Unit):=zf (zg (zdh 48)) (zf (zg (vFn 93 (zpI (zRG (zpI (vSl 69) zcQ)) zcQ))) zF)
def ziA (F:At->yF->Bool×(yB×Int)):Ab.Spec ty:=zi zDJ λx=>((F x.1 x.2.1.1.1).1,zGx (F x.1 x.2.1.1.1).2)
def zwO:=zbR base 8 []
def zxp (b:Bg) (p1:RowID):Wy0 (Bool):=.k (b.Row.Table==p1.Table&&(b.Row.Seq==p1.Seq&&true))
def zky (b:Bg) (p1:RowID):=(zxp b p1).fin default
def zxq:AL base (Bg×RowID×Unit):=zf (zg (zdh 69)) (zf (zg (zQp 25)) zF)
def zhR:=zi zxq λx=>((zky x.1 x.2.1).1,zRi (zky x.1 x.2.1).2)
theorem zml:SdP 95 zhR:=
 sT (cx':=zwO) (zn trivial) call95 func95 (lOK aN)
def zOD:=zbR base 9 [(62,zfk),(69,zpE)]
def zP6 (id:RowID):Wy0 (yB):=.bn (znh id) λr0=>.i (!r0) (.k []) (.k ((zhe (At.mk 0 id [] 0 [] 0 (Value.mk 0 0 (ByteArray.mk #[])))).2))
def zyL (id:RowID):=(zP6 id).fin default
def zsr:=zi zRN λx=>((zyL x.1).1,zF9 (zyL x.1).2)
theorem zwI:SdP 27 zsr:=
 sT (cx':=zOD) (zn ⟨zg3,ztr,trivial⟩) call27 func27 (lOK aN) (sg:=⟨[.own 42],[]⟩)
abbrev zc8:=yF×(RowID×Unit)×Int×Int×Unit
def znu (s:yF) (f:RowID) (t7:Int) (t8:Int):Wy zc8 Unit (Int⊕Unit):=.i (decide (t8<t7)) (.i (decide (0<=t8)&&decide (t8<Int.ofNat s.length)) (.i ((zky (s.getD t8.toNat default) f).2) (.k (.inl t8)) (.h (s,(f,()),t7,(IntKind.i64.wrap (t8+1)),()) ())) .d) (.k (.inr ()))
def zgF (x:zc8) (y:Unit):=znu x.1 x.2.1.1 x.2.2.1 x.2.2.2.1
def znx (n:Nat) (s:yF) (f:RowID) (t7:Int) (t8:Int):=zN (zgF) (.inl default) n (s,(f,()),t7,t8,()) ()
def znI:LL ty zc8:=za (lSl 69) (za (lFn 95 (za (zAd (zhu (λx=>(⟨x.1,x.2.1⟩:RowID)) (λx=>(x.Table,x.Seq,())) (λ_=>rfl) (za zm (za zm zr))) 0) zr)) (za zm (za zm zr)))
def zmW (x:zc8) (y:Unit):Nat:=(x.1.length+Int.toNat x.2.2.1+Int.toNat x.2.2.2.1+1)
def zgC:=zcC base 19 [(95,zhR)] [] [(2,(kpL [0,1,7,8]))] [(2,1,[]),(2,0,(kpL [4]))] [(2,spW znI zQf (zgF) (.inl default) zoj zmW)] []
theorem zm2:zR zgC (lp (body f94) 0):=zD (id:=2) (hl:=rfl)
def znY (s:yF) (f:RowID):Wy0 (Int):=.bn (znx (s.length+(Int.ofNat s.length).toNat +Int.toNat 0+1) s f (Int.ofNat s.length) 0) λr0=>.i (isL r0) (.k (getL r0)) (.k (-1:Int))
def zd4 (s:yF) (f:RowID):=(znY s f).fin default
def znW:AL base (yF×(RowID×Unit)×Unit):=zf (zg (vSl 69)) (zf (zg (vFn 95 (zpI (zQp 25) zcQ))) zF)
def zfX:=zi znW λx=>((zd4 x.1 x.2.1.1).1,zRK (zd4 x.1 x.2.1.1).2)
theorem zme:SdP 94 zfX:=
 sT (cx':=zgC) (zn ⟨zml,trivial⟩) call94 func94 (lOK (aC zm2 aN))
def zz0:=zbR base 18 [(27,zsr),(61,zfi),(94,zfX),(95,zhR)]
def zAv (id:RowID) (p1:yF):Wy0 (yB):=.bn (zd4 p1 id) λr2=>.i (decide (r2≥0)) (.i (decide (0<=r2)&&decide (r2<Int.ofNat p1.length)) (.bn (zhk (p1.getD r2.toNat default).To) λr0=>.k r0) .d) (.bn (zyL id) λr1=>.k r1)
def zmR (id:RowID) (p1:yF):=(zAv id p1).fin default
def zA9:AL base (RowID×(yF×Unit)×Unit):=zf (zg (zdh 25)) (zf (zg (zRG (zpI (vSl 69) zcQ))) zF)
def zga:=zi zA9 λx=>((zmR x.1 x.2.1.1).1,zF9 (zmR x.1 x.2.1.1).2)
theorem ziM:SdP 93 zga:=
 sT (cx':=zz0) (zn ⟨zwI,zg5,zme,zml,trivial⟩) call93 func93 (lOK aN) (sg:=⟨[.own 42],[]⟩)
abbrev zkM:=((yF×Unit)×Unit)×Unit×Unit×yB×Int×yB×Int×Int×yC×Int×Int×Int×Int×Unit
abbrev zdB:=yB×yB×Unit
abbrev zvX:=yF×Int×yB×Int×Int×yC×Int×Int×yB×yB
abbrev zkT:=((yF×Unit)×Unit)×Unit×Unit×yB×Int×Int×yC×Int×Int×Unit
abbrev zvP:=Int⊕(yF×yB×Int×Int×yB×yB)
abbrev zkR:=((yF×Unit)×Unit)×Unit×yB×Int×Int×Unit
abbrev zk3:=yB×Unit
abbrev zv4:=Int⊕yB
def zCv (zk:At->yF->Bool×(yB×Int)) (to:yF) (b:yB) (e:Int) (t16:yB) (t17:Int) (t18:Int) (t26:yC) (t27:Int) (t28:Int) (t40:Int) (t41:Int) (sum:yB) (product:yB):Wy zkM zdB zvX:=.i (decide (t41<t40)) (.i (e==0) (.bn (zyw product b) λr6=>.h (((to,()),()),(),(),b,(r6.2),t16,t17,t18,t26,t27,t28,t40,(IntKind.i64.wrap (t41+1)),()) (sum,(r6.1),())) (.h (((to,()),()),(),(),b,e,t16,t17,t18,t26,t27,t28,t40,(IntKind.i64.wrap (t41+1)),()) (sum,product,()))) (.k (to,e,t16,t17,t18,t26,t27,t28,sum,product))
def ztG (zk:At->yF->Bool×(yB×Int)) (x:zkM) (y:zdB):=zCv zk x.1.1.1 x.2.2.2.1 x.2.2.2.2.1 x.2.2.2.2.2.1 x.2.2.2.2.2.2.1 x.2.2.2.2.2.2.2.1 x.2.2.2.2.2.2.2.2.1 x.2.2.2.2.2.2.2.2.2.1 x.2.2.2.2.2.2.2.2.2.2.1 x.2.2.2.2.2.2.2.2.2.2.2.1 x.2.2.2.2.2.2.2.2.2.2.2.2.1 y.1 y.2.1
def zDe (zk:At->yF->Bool×(yB×Int)) (n:Nat) (to:yF) (b:yB) (e:Int) (t16:yB) (t17:Int) (t18:Int) (t26:yC) (t27:Int) (t28:Int) (t40:Int) (t41:Int) (sum:yB) (product:yB):=zN (ztG zk) default n (((to,()),()),(),(),b,e,t16,t17,t18,t26,t27,t28,t40,t41,()) (sum,product,())
def zBP (r:zvX):LTree ty:=.done (.exit 4) [.fn 93 ([.bptr ([.sl 69 r.1]) 0]),.own 272,.own 273,.lit (.int .i64 r.2.1),.sl 42 r.2.2.1,.lit (.int .i64 r.2.2.2.1),.lit (.int .i64 r.2.2.2.2.1),.sl 50 r.2.2.2.2.2.1,.lit (.int .i64 r.2.2.2.2.2.2.1),.lit (.int .i64 r.2.2.2.2.2.2.2.1)] [.arr 42 r.2.2.2.2.2.2.2.2.1 false,.arr 42 r.2.2.2.2.2.2.2.2.2 false]
def zDn:LL ty zkM:=za (lFn 93 (za (zAd (za (lSl 69) zr) 0) zr)) (za (zhT 272) (za (zhT 273) (za (lSl 42) (za zm (za (lSl 42) (za zm (za zm (za (lSl 50) (za zm (za zm (za zm (za zm zr))))))))))))
def zCY:BL ty zdB:=zhU 42 false (zhU 42 false (zbv))
def zEC (zk:At->yF->Bool×(yB×Int)) (to:yF) (t16:yB) (t17:Int) (t18:Int) (t26:yC) (t27:Int) (t28:Int) (sum:yB) (product:yB):Wy zkT zdB zvP:=.i (decide (t28<t27)) (.i (decide (0<=t28)&&decide (t28<Int.ofNat t26.length)) (.bn (zk (At.mk (t26.getD t28.toNat default).At.Kind (t26.getD t28.toNat default).At.Row (t26.getD t28.toNat default).At.Ag (t26.getD t28.toNat default).At.Func (t26.getD t28.toNat default).At.Items (t26.getD t28.toNat default).At.Op (t26.getD t28.toNat default).At.Bd) to) λr9=>.bn (zDe zk (to.length+r9.1.length+r9.2.toNat +t16.length+t17.toNat +t18.toNat +t26.length+t27.toNat +t28.toNat +(t26.getD t28.toNat default).Exp.toNat +Int.toNat 0+sum.length+product.length+1) to r9.1 r9.2 t16 t17 t18 t26 t27 t28 (t26.getD t28.toNat default).Exp 0 sum product) λr8=>.i (r8.2.1 != 0) (.k (.inl (r8.2.1))) (.h ((((r8.1),()),()),(),(),(r8.2.2.1),(r8.2.2.2.1),(r8.2.2.2.2.1),(r8.2.2.2.2.2.1),(r8.2.2.2.2.2.2.1),(IntKind.i64.wrap (r8.2.2.2.2.2.2.2.1+1)),()) ((r8.2.2.2.2.2.2.2.2.1),(r8.2.2.2.2.2.2.2.2.2),()))) .d) (.k (.inr (to,t16,t17,t18,sum,product)))
def zt8 (zk:At->yF->Bool×(yB×Int)) (x:zkT) (y:zdB):=zEC zk x.1.1.1 x.2.2.2.1 x.2.2.2.2.1 x.2.2.2.2.2.1 x.2.2.2.2.2.2.1 x.2.2.2.2.2.2.2.1 x.2.2.2.2.2.2.2.2.1 y.1 y.2.1
def zD1 (zk:At->yF->Bool×(yB×Int)) (n:Nat) (to:yF) (t16:yB) (t17:Int) (t18:Int) (t26:yC) (t27:Int) (t28:Int) (sum:yB) (product:yB):=zN (zt8 zk) (.inl default) n (((to,()),()),(),(),t16,t17,t18,t26,t27,t28,()) (sum,product,())
def zCQ (r:zvP):LTree ty:=.ite (isL r) (.done .ret [.lit (.slice none 0 0),.lit (.int .i64 (getL r))] []) (.done (.exit 2) [.fn 93 ([.bptr ([.sl 69 (getR r).1]) 0]),.own 272,.own 273,.sl 42 (getR r).2.1,.lit (.int .i64 (getR r).2.2.1),.lit (.int .i64 (getR r).2.2.2.1)] [.arr 42 (getR r).2.2.2.2.1 false,.arr 42 (getR r).2.2.2.2.2 false])
def zEK:LL ty zkT:=za (lFn 93 (za (zAd (za (lSl 69) zr) 0) zr)) (za (zhT 272) (za (zhT 273) (za (lSl 42) (za zm (za zm (za (lSl 50) (za zm (za zm zr))))))))
def zEk (zk:At->yF->Bool×(yB×Int)) (to:yF) (t16:yB) (t17:Int) (t18:Int) (sum:yB):Wy zkR zk3 zv4:=.i (decide (t18<t17)) (.i (decide (0<=t18)&&decide (t18<Int.ofNat t16.length)) (.bn (zvv (t16.getD t18.toNat default).Cf) λr14=>.bn (zD1 zk (to.length+t16.length+t17.toNat +t18.toNat +(t16.getD t18.toNat default).Fs.length+(Int.ofNat (t16.getD t18.toNat default).Fs.length).toNat +Int.toNat 0+sum.length+r14.length+1) to t16 t17 t18 (t16.getD t18.toNat default).Fs (Int.ofNat (t16.getD t18.toNat default).Fs.length) 0 sum r14) λr13=>.i (isL r13) (.k (.inl (getL r13))) (.bn (zya (getR r13).2.2.2.2.1 (getR r13).2.2.2.2.2) λr12=>.i (r12.2 != 0) (.k (.inl (r12.2))) (.h ((((getR r13).1,()),()),(),(getR r13).2.1,(getR r13).2.2.1,(IntKind.i64.wrap ((getR r13).2.2.2.1+1)),()) ((r12.1),())))) .d) (.k (.inr sum))
def zt2 (zk:At->yF->Bool×(yB×Int)) (x:zkR) (y:zk3):=zEk zk x.1.1.1 x.2.2.1 x.2.2.2.1 x.2.2.2.2.1 y.1
def zEu (zk:At->yF->Bool×(yB×Int)) (n:Nat) (to:yF) (t16:yB) (t17:Int) (t18:Int) (sum:yB):=zN (zt2 zk) (.inl default) n (((to,()),()),(),t16,t17,t18,()) (sum,())
def zCD (r:zv4):LTree ty:=.ite (isL r) (.done .ret [.lit (.slice none 0 0),.lit (.int .i64 (getL r))] []) (.done (.exit 0) [.own 272] [.arr 42 (getR r) false])
def zEM:LL ty zkR:=za (lFn 93 (za (zAd (za (lSl 69) zr) 0) zr)) (za (zhT 272) (za (lSl 42) (za zm (za zm zr))))
def zD0:BL ty zk3:=zhU 42 false (zbv)
def zCj (x:zkM) (y:zdB):Nat:=(x.1.1.1.length+x.2.2.2.1.length+Int.toNat x.2.2.2.2.1+x.2.2.2.2.2.1.length+Int.toNat x.2.2.2.2.2.2.1+Int.toNat x.2.2.2.2.2.2.2.1+x.2.2.2.2.2.2.2.2.1.length+Int.toNat x.2.2.2.2.2.2.2.2.2.1+Int.toNat x.2.2.2.2.2.2.2.2.2.2.1+Int.toNat x.2.2.2.2.2.2.2.2.2.2.2.1+Int.toNat x.2.2.2.2.2.2.2.2.2.2.2.2.1+y.1.length+y.2.1.length+1)
def zCB (x:zkT) (y:zdB):Nat:=(x.1.1.1.length+x.2.2.2.1.length+Int.toNat x.2.2.2.2.1+Int.toNat x.2.2.2.2.2.1+x.2.2.2.2.2.2.1.length+Int.toNat x.2.2.2.2.2.2.2.1+Int.toNat x.2.2.2.2.2.2.2.2.1+y.1.length+y.2.1.length+1)
def zCq (x:zkR) (y:zk3):Nat:=(x.1.1.1.length+x.2.2.1.length+Int.toNat x.2.2.2.1+Int.toNat x.2.2.2.2.1+y.1.length+1)
def zju (zk:At->yF->Bool×(yB×Int)):=zcC zbK 68 [(13,zsD),(16,zsk),(25,zqh),(93,zga),(140,(ziA zk))] [] [(3,[(1,.keep),(6,.own 42),(16,.keep),(17,.keep),(18,.keep)]),(7,(kpL [1,6,9,16,17,18,26,27,28])),(11,[(1,.keep),(6,.keep),(9,.keep),(12,.sl 42),(13,.keep),(16,.keep),(17,.keep),(18,.keep),(26,.keep),(27,.keep),(28,.keep),(40,.keep),(41,.keep)])] [(3,1,(kpL [6])),(3,0,(kpL [4,5])),(7,3,(kpL [1,6,9,16,17,18])),(7,0,(kpL [4,5])),(11,5,(kpL [1,6,9,13,16,17,18,26,27,28]))] [(11,spW zDn zCY (ztG zk) default zBP zCj),(7,spW zEK zCY (zt8 zk) (.inl default) zCQ zCB),(3,spW zEM zD0 (zt2 zk) (.inl default) zCD zCq)] []
theorem zBC (zk:At->yF->Bool×(yB×Int)):zR (zju zk) (lp (body f92) 2):=zD (id:=11) (hl:=rfl)
theorem zCw (zk:At->yF->Bool×(yB×Int)):zR (zju zk) (lp (body f92) 1):=zD (id:=7) (hl:=rfl)
theorem zDs (zk:At->yF->Bool×(yB×Int)):zR (zju zk) (lp (body f92) 0):=zD (id:=3) (hl:=rfl)
def zFl (zk:At->yF->Bool×(yB×Int)) (a:yB) (to:yF):Wy0 (yB×Int):=.bn (zEu zk (to.length+a.length+(Int.ofNat a.length).toNat +Int.toNat 0+0+1) to a (Int.ofNat a.length) 0 []) λr18=>.i (isL r18) (.k ([],getL r18)) (.k (getR r18,0))
def zwR (zk:At->yF->Bool×(yB×Int)) (a:yB) (to:yF):=(zFl zk a to).fin default
theorem zBg (zk:At->yF->Bool×(yB×Int)) (zAw:Sound Tryz.prog zbK 140 (ziA zk)):Sound Tryz.prog zbK 92 (ziV (zwR zk)):=
 sU (cx':=(zju zk)) (zn ⟨zwF,zxj,zuH.nodr,ziM.nodr,zAw,trivial⟩) call92 func92 (lOK (aC (zDs zk) (aC (zCw zk) (aC (zBC zk) aN)))) (sg:=⟨[.own 42,.pure],[]⟩)
def zJP:=zbR base 23 [(29,zno),(31,zcp),(53,zdL),(62,zfk),(68,zks)]
def zKu (a:yB):Wy0 (yB×Int):=.bn (zb8 a) λr2=>.i (!r2) (.k ([],1)) (.i (Int.ofNat a.length==0) (.k (zp2.2,0)) (.bn (zd3 a) λr1=>.i (r1) (.k ([],0)) (.bn (zeM (zhe (At.mk 3 (RowID.mk 0 0) [a] 0 [] 0 (Value.mk 0 0 (ByteArray.mk #[])))).2) λr0=>.k (r0.1,r0.2))))
def zux (a:yB):=(zKu a).fin default
def zuV:=zi zT8 λx=>((zux x.1).1,zGx (zux x.1).2)
theorem zEj:SdP 22 zuV:=
 sT (cx':=zJP) (zn ⟨zrg,zcw,zew,zg3,zpY,trivial⟩) call22 func22 (lOK aN) (sg:=⟨[.own 42,.pure],[]⟩)
def ze1 (x:yD) (a b:Int):Bool×yD:=zR3 zbw x a b
def zou:Ab.Spec ty:=zi (cx:=base) (zf (znZ 52) (zf (zg (zgr .i64)) (zf (zg (zgr .i64)) (zf (zg (vFn 85 zcQ)) zF)))) λx=>((ze1 x.1 x.2.1 x.2.2.1).1,⟨[],[some ⟨52,(ze1 x.1 x.2.1 x.2.2.1).2⟩]⟩)
theorem zpl (c:Unit) (x y:Wd) (h:(zbw x y).1=true):zeu ((AV.agg (base.enc 52 x)::AV.agg (base.enc 52 y)::(zcQ:VL base Unit).enc c).map Arg.pure)=some (true,⟨[.pure (.lit (.int .i64 (zbw x y).2))],[]⟩):=by
 rw [<- h]; kernel_rfl
theorem zn7:SdP 164 zou:=by
 letI:DecidableEq (ty 52):=inferInstanceAs (DecidableEq Wd)
 exact zWw (T:=52) zeA rfl Go.Proofs.Tryz.insW Tryz.isAgg52 (by unfold zl; exact Tryz.sizeOf52) call164 zf9 zcQ (λc=>zbw) zpl
open Go.Proofs Go.RowKit
def zcb (x:yD) (m:Int):Bool×yD:=(decide (SortOK zbw x)&&(decide (m=x.length)&&decide (m<20)),zgN zbw x)
def zjB:Ab.Spec ty:=zi (cx:=base) (zf (znZ 52) (zf (zg (zgr .i64)) (zf (zg (vFn 85 zcQ)) zF))) λx=>((zcb x.1 x.2.1).1,⟨[],[some ⟨52,(zcb x.1 x.2.1).2⟩]⟩)
set_option maxHeartbeats 1000000 in
theorem zr9:SdP 139 zjB where
 enters:=call139
 calls:=λavs r hsp w F vs hF ha hsep=>by
  unfold zjB zi at hsp;split at hsp
  ·rename_i x hx;simp only [qa,qb] at hsp;obtain ⟨hpre,rfl⟩:=hsp;have hk:=(zf (znZ 52) (zf (zg (zgr .i64)) (zf (zg (vFn 85 zcQ)) zF)):AL base _).kind vs avs x hx;have ha':=(zf (znZ 52) (zf (zg (zgr .i64)) (zf (zg (vFn 85 zcQ)) zF)):AL base _).ok Tryz.prog zeA F w vs avs x hx ha;rw [hk] at hsep ⊢;clear hk hx ha;obtain ⟨l0,m,c,u0⟩:=x;obtain ⟨l,rfl⟩:∃ l:yD,l=l0:=⟨l0,rfl⟩;obtain ⟨v,vs',rfl,hv,hv'⟩:=ha'.inv;obtain ⟨mv,vs1,rfl,hm,hv1⟩:=hv'.inv;obtain ⟨fv,vs'',rfl,hfv,h0⟩:=hv1.inv;obtain rfl:=h0.nil_left.1;have hm:Rep base F w mv (.lit (.int .i64 m)):=hm;obtain rfl:mv=.int .i64 m:=by cases hm; rfl
   have hsl:∃ p cap,v=.slice p l.length cap:=by
    obtain ⟨⟨xs,hown,_⟩,_⟩:=(show zcn base F w v 52 l/\∀ b,zS v=some b->¬ F b from hv)
    rcases hown.2 with ⟨h1,h2⟩ | ⟨g0,cap,cur,h1,_⟩
    ·exact ⟨none,0,by rw [h1,show l.length=0 from h2]⟩
    ·exact ⟨_,cap,h1⟩
   have hpre:(decide (SortOK (α:=Wd) zbw l)&&(decide (m=l.length)&&decide (m<20)))=true:=hpre;simp only [qc,qe] at hpre;obtain ⟨hok,rfl,h20⟩:=hpre
   have hpp:(ze1 l 0 (l.length:Int)).1=true:=by
    show (decide (SortOK (α:=Wd) zbw l)&&(decide ((0:Int)=0)&&decide ((l.length:Int)=l.length)))=true;simp only [qc,qe];exact ⟨hok,trivial,trivial⟩
   have hp:=(zn7).calls [.own 52 l,.pure (.lit (.int .i64 0)),.pure (.lit (.int .i64 (l.length:Int))),.pure (.fn 85 [])] ⟨[],[some ⟨52,(zcb l (l.length:Int)).2⟩]⟩
    (by rw [<- hpp]; kernel_rfl) w F [v,.int .i64 0,.int .i64 (l.length:Int),fv] hF (.cons hv (.cons (Rep.lit _) (.cons (Rep.lit _) (.cons hfv .nil)))) hsep
   replace hp:Calls Tryz.prog 164 #[v,.int .i64 0,.int .i64 (l.length:Int),fv] w λe w'=>∃ u,e=.returned u/\Post base F w [v] ⟨[],[some ⟨52,(zcb l (l.length:Int)).2⟩]⟩ u w':=hp
   show Calls Tryz.prog 139 #[v,.int .i64 (l.length:Int),fv] w λe w'=>∃ u,e=.returned u/\Post base F w [v] ⟨[],[some ⟨52,(zcb l (l.length:Int)).2⟩]⟩ u w'
   generalize (zcb l (l.length:Int)).2=res at hp ⊢;generalize hn:l.length=m at *;clear hpp hv hfv hsep hok hF hm;obtain ⟨p,cap,rfl⟩:=hsl;clear hn
   go_enter func139,ntmps139
   go_wp2
   refine wp_loop_rounds 1 ?_;rw [rounds_succ]
   go_wp2_with (go_at_call 164; refine hp.mono ?_; rintro e w' ⟨u,rfl,hpost⟩; obtain rfl:=hpost.unit)
   refine wp_loop_rounds 1 ?_;rw [rounds_succ]
   go_wp2
   all_goals first | (exfalso; omega) | (go_end0; exact ⟨_,rfl,hpost⟩)
  ·cases hsp
end Go.Proofs.YtnolcogncjijpaaGreatDoor
namespace Go.Proofs.YtnolcogncjijpaaGreatDoor
open Go Go.Ab
open Go.Proofs Go.RowKit
open Go.Proofs.Tryz
def zbo (x:yD):Bool×yD:=(decide (SortOK zbw x)&&decide (x.length<20),zgN zbw x)
def zc4:Ab.Spec ty:=zi (cx:=base) (zf (znZ 52) (zf (zg (vFn 85 zcQ)) zF)) λx=>((zbo x.1).1,⟨[],[some ⟨52,(zbo x.1).2⟩]⟩)
set_option maxHeartbeats 1000000 in
theorem zj9:SdP 84 zc4 where
 enters:=call84
 calls:=λavs r hsp w F vs hF ha hsep=>by
  unfold zc4 zi at hsp;split at hsp
  ·rename_i x hx;simp only [qa,qb] at hsp;obtain ⟨hpre,rfl⟩:=hsp;have hk:=(zf (znZ 52) (zf (zg (vFn 85 zcQ)) zF):AL base _).kind vs avs x hx;have ha':=(zf (znZ 52) (zf (zg (vFn 85 zcQ)) zF):AL base _).ok Tryz.prog zeA F w vs avs x hx ha;rw [hk] at hsep ⊢;clear hk hx ha;obtain ⟨l0,c,u0⟩:=x;obtain ⟨l,rfl⟩:∃ l:yD,l=l0:=⟨l0,rfl⟩;obtain ⟨v,vs',rfl,hv,hv'⟩:=ha'.inv;obtain ⟨fv,vs'',rfl,hfv,h0⟩:=hv'.inv;obtain rfl:=h0.nil_left.1
   have hsl:∃ p cap,v=.slice p l.length cap:=by
    obtain ⟨⟨xs,hown,_⟩,_⟩:=(show zcn base F w v 52 l/\∀ b,zS v=some b->¬ F b from hv)
    rcases hown.2 with ⟨h1,h2⟩ | ⟨g0,cap,cur,h1,_⟩
    ·exact ⟨none,0,by rw [h1,show l.length=0 from h2]⟩
    ·exact ⟨_,cap,h1⟩
   have hpre:(decide (SortOK (α:=Wd) zbw l)&&decide (l.length<20))=true:=hpre;simp only [qc,qe] at hpre;obtain ⟨hok,h20⟩:=hpre
   have hpp:(zcb l (l.length:Int)).1=true:=by
    show (decide (SortOK (α:=Wd) zbw l)&&(decide ((l.length:Int)=l.length)&&decide ((l.length:Int)<20)))=true;simp only [qc,qe];exact ⟨hok,trivial,by omega⟩
   have hp:=(zr9).calls [.own 52 l,.pure (.lit (.int .i64 (l.length:Int))),.pure (.fn 85 [])] ⟨[],[some ⟨52,(zbo l).2⟩]⟩
    (by rw [<- hpp]; kernel_rfl) w F [v,.int .i64 (l.length:Int),fv] hF (.cons hv (.cons (Rep.lit _) (.cons hfv .nil))) hsep
   replace hp:Calls Tryz.prog 139 #[v,.int .i64 (l.length:Int),fv] w λe w'=>∃ u,e=.returned u/\Post base F w [v] ⟨[],[some ⟨52,(zbo l).2⟩]⟩ u w':=hp
   show Calls Tryz.prog 84 #[v,fv] w λe w'=>∃ u,e=.returned u/\Post base F w [v] ⟨[],[some ⟨52,(zbo l).2⟩]⟩ u w'
   generalize (zbo l).2=res at hp ⊢;generalize hn:l.length=m at *;clear hpp hv hfv hsep hok hF;obtain ⟨p,cap,rfl⟩:=hsl;clear hn
   go_enter func84,ntmps84
   go_wp2_with (go_at_call 139; refine hp.mono ?_; rintro e w' ⟨u,rfl,hpost⟩; obtain rfl:=hpost.unit)
   go_end0
   exact ⟨_,rfl,hpost⟩
  ·cases hsp
end Go.Proofs.YtnolcogncjijpaaGreatDoor
namespace Go.Proofs.YtnolcogncjijpaaGreatDoor
open Go Go.Ab
open Go.Proofs.Tryz
abbrev znm:=Unit×yD×Int×Int×Unit
abbrev zjA:=yD×Unit
def zKy (t6:yD) (t7:Int) (t8:Int) (out_:yD):Wy znm zjA (yD):=.i (decide (t8<t7)) (.i (decide (0<=t8)&&decide (t8<Int.ofNat t6.length)) (.i (decide (Int.ofNat (t6.getD t8.toNat default).Ann.length>0)) (.bn (zhk (t6.getD t8.toNat default).Ann) λr0=>.i (decide ((out_.length+[WO.mk (t6.getD t8.toNat default).Value r0].length)*56<=zbO)) (.h ((),t6,t7,(IntKind.i64.wrap (t8+1)),()) ((out_++[WO.mk (t6.getD t8.toNat default).Value r0]),())) .d) (.h ((),t6,t7,(IntKind.i64.wrap (t8+1)),()) (out_,()))) .d) (.k out_)
def zxI (x:znm) (y:zjA):=zKy x.2.1 x.2.2.1 x.2.2.2.1 y.1
def zK8 (n:Nat) (t6:yD) (t7:Int) (t8:Int) (out_:yD):=zN (zxI) default n ((),t6,t7,t8,()) (out_,())
def zIi (r:yD):LTree ty:=.done (.exit 0) [.own 116] [.arr 52 r false]
def zKC:LL ty znm:=za (zhT 116) (za (lSl 52) (za zm (za zm zr)))
def zLk:BL ty zjA:=zhU 52 false (zbv)
def zIE (x:znm) (y:zjA):Nat:=(x.2.1.length+Int.toNat x.2.2.1+Int.toNat x.2.2.2.1+y.1.length+1)
def zxC:=zcC base 29 [(61,zfi),(84,zc4),(85,zeu)] [(84,[true,false])] [(3,[(3,.own 52),(6,.keep),(7,.keep),(8,.keep)])] [(3,1,(kpL [3]))] [(3,spW zKC zLk (zxI) default zIi zIE)] []
theorem zJG:zR zxC (lp (body f36) 0):=zD (id:=3) (hl:=rfl)
def zMW (l:yD):Wy0 (yD):=.bn (zK8 (l.length+(Int.ofNat l.length).toNat +Int.toNat 0+0+1) l (Int.ofNat l.length) 0 []) λr3=>.bn (zbo r3) λr2=>.k r2
def zvl (l:yD):=(zMW l).fin default
def zIV (r:yD):ARes ty:=⟨[.own 52 r],[]⟩
def zMX:AL base zjA:=zf (zg (vSl 52)) zF
def zvG:=zi zMX λx=>((zvl x.1).1,zIV (zvl x.1).2)
theorem zGr:SdP 36 zvG:=
 sT (cx':=zxC) (zn ⟨zg5,zj9,zf9,trivial⟩) call36 func36 (lOK (aC zJG aN)) (sg:=⟨[.own 52],[]⟩)
def zHO:=zbR base 7 [(31,zcp)]
def zJp (w:Wd):Wy0 (Bool):=.bn (zb8 w.Ann) λr0=>.k (!r0)
def zte (w:Wd):=(zJp w).fin default
def zjs:=zi zCn λx=>((zte x.1).1,zRi (zte x.1).2)
theorem zmZ:SdP 77 zjs:=
 sT (cx':=zHO) (zn ⟨zcw,trivial⟩) call77 func77 (lOK aN)
def zKL:=zbR base 28 []
def zLN (op:Int) (sign:Int):Wy0 (Bool):=.i (op==5) (.k (sign==0)) (.i (op==6) (.k (sign != 0)) (.i (op==7) (.k (decide (sign<0))) (.i (op==8) (.k (decide (sign<=0))) (.i (op==9) (.k (decide (sign>0))) (.k (decide (sign≥0)))))))
def zvx (op:Int) (sign:Int):=(zLN op sign).fin default
def zv9:=zi zSB λx=>((zvx x.1 x.2.1).1,zRi (zvx x.1 x.2.1).2)
theorem zGy:SdP 78 zv9:=
 sT (cx':=zKL) (zn trivial) call78 func78 (lOK aN)
abbrev zcT:=yD×Unit×Int×Int×Unit
def zmr (s:yD) (t7:Int) (t8:Int):Wy zcT Unit (Int⊕Unit):=.i (decide (t8<t7)) (.i (decide (0<=t8)&&decide (t8<Int.ofNat s.length)) (.bn (zte (s.getD t8.toNat default)) λr0=>.i (r0) (.k (.inl t8)) (.h (s,(),t7,(IntKind.i64.wrap (t8+1)),()) ())) .d) (.k (.inr ()))
def zfZ (x:zcT) (y:Unit):=zmr x.1 x.2.2.1 x.2.2.2.1
def zmJ (n:Nat) (s:yD) (t7:Int) (t8:Int):=zN (zfZ) (.inl default) n (s,(),t7,t8,()) ()
def zmI:LL ty zcT:=za (lSl 52) (za (lFn 77 (zr)) (za zm (za zm zr)))
def zlN (x:zcT) (y:Unit):Nat:=(x.1.length+Int.toNat x.2.2.1+Int.toNat x.2.2.2.1+1)
def zfS:=zcC base 19 [(77,zjs)] [] [(2,(kpL [0,1,7,8]))] [(2,1,[]),(2,0,(kpL [4]))] [(2,spW zmI zQf (zfZ) (.inl default) zoj zlN)] []
theorem zlY:zR zfS (lp (body f135) 0):=zD (id:=2) (hl:=rfl)
def zmP (s:yD):Wy0 (Int):=.bn (zmJ (s.length+(Int.ofNat s.length).toNat +Int.toNat 0+1) s (Int.ofNat s.length) 0) λr2=>.i (isL r2) (.k (getL r2)) (.k (-1:Int))
def zdK (s:yD):=(zmP s).fin default
def zm7:AL base (yD×Unit×Unit):=zf (zg (vSl 52)) (zf (zg (vFn 77 zcQ)) zF)
def zfw:=zi zm7 λx=>((zdK x.1).1,zRK (zdK x.1).2)
theorem zli:SdP 135 zfw:=
 sT (cx':=zfS) (zn ⟨zmZ,trivial⟩) call135 func135 (lOK (aC zlY aN))
def zlc:=zbR base 9 [(77,zjs),(135,zfw)]
def zly (s:yD):Wy0 (Bool):=.bn (zdK s) λr0=>.k (decide (r0≥0))
def zdt (s:yD):=(zly s).fin default
def zeT:=zi zm7 λx=>((zdt x.1).1,zRi (zdt x.1).2)
theorem zj8:SdP 76 zeT:=
 sT (cx':=zlc) (zn ⟨zmZ,zli,trivial⟩) call76 func76 (lOK aN)
def zLT:=zbR base 45 [(29,zno),(36,zvG),(53,zdL),(62,zfk),(75,znQ),(76,zeT),(77,zjs),(78,zv9),(79,zjW)]
def zOy (fn:Int) (items:yD) (op:Int) (bound:Value):Wy0 (yB×Int):=.bn (zhX fn items op bound) λr5=>.i (!r5) (.k ([],1)) (.bn (zdt items) λr4=>.i (r4) (.k ([],1)) (.bn (zvl items) λr3=>.i (decide (Int.ofNat r3.length>0)) (.bn (zeM (zhe (At.mk 4 (RowID.mk 0 0) [] fn r3 op bound)).2) λr0=>.k (r0.1,r0.2)) (.i (fn==0) (.bn (zhg 0 bound.Int) λr2=>.bn (zvx op r2) λr1=>.i (r1) (.k (zp2.2,0)) (.k ([],0))) (.k ([],0)))))
def zxi (fn:Int) (items:yD) (op:Int) (bound:Value):=(zOy fn items op bound).fin default
def zwL:=zi zTs λx=>((zxi x.1 x.2.1 x.2.2.1 x.2.2.2.1).1,zGx (zxi x.1 x.2.1 x.2.2.1 x.2.2.2.1).2)
theorem zHC:SdP 33 zwL:=
 sT (cx':=zLT) (zn ⟨zrg,zGr,zew,zg3,zs8,zj8,zmZ,zGy,znR,trivial⟩) call33 func33 (lOK aN) (sg:=⟨[.own 42,.pure],[]⟩)
abbrev zii:=((yF×Unit)×Unit)×Unit×Unit×yA×Int×Int×Unit
abbrev zir:=At×yA×Unit
abbrev zsY:=Int⊕(yF×At×yA)
abbrev zit:=((yF×Unit)×Unit)×Unit×Unit×yD×Int×Int×Unit
abbrev zih:=At×yD×Unit
abbrev zsH:=Int⊕(At×yD)
def zz6 (zL:yB->yF->Bool×(yB×Int)) (to:yF) (t24:yA) (t25:Int) (t26:Int) (x_:At) (args:yA):Wy zii zir zsY:=.i (decide (t26<t25)) (.i (decide (0<=t26)&&decide (t26<Int.ofNat t24.length)) (.bn (zL (t24.getD t26.toNat default) to) λr2=>.i (r2.2 != 0) (.k (.inl (r2.2))) (.i (decide ((args.length+[r2.1].length)*24<=zbO)) (.h (((to,()),()),(),(),t24,t25,(IntKind.i64.wrap (t26+1)),()) (x_,(args++[r2.1]),())) .d)) .d) (.k (.inr (to,x_,args)))
def zqV (zL:yB->yF->Bool×(yB×Int)) (x:zii) (y:zir):=zz6 zL x.1.1.1 x.2.2.2.1 x.2.2.2.2.1 x.2.2.2.2.2.1 y.1 y.2.1
def zzz (zL:yB->yF->Bool×(yB×Int)) (n:Nat) (to:yF) (t24:yA) (t25:Int) (t26:Int) (x_:At) (args:yA):=zN (zqV zL) (.inl default) n (((to,()),()),(),(),t24,t25,t26,()) (x_,args,())
def zyl (r:zsY):LTree ty:=.ite (isL r) (.done .ret [.lit (.slice none 0 0),.lit (.int .i64 (getL r))] []) (.done (.exit 0) [.fn 93 ([.bptr ([.sl 69 (getR r).1]) 0]),.ptr 432 0,.own 433] [.box (base.enc 48 (getR r).2.1) false,.arr 23 (getR r).2.2 false])
def zAh:LL ty zii:=za (lFn 93 (za (zAd (za (lSl 69) zr) 0) zr)) (za (zeB 432 0) (za (zhT 433) (za (lSl 23) (za zm (za zm zr)))))
def zzb:BL ty zir:=zhD (zhu (λx=>(⟨x.1,⟨x.2.1,x.2.2.1⟩,x.2.2.2.1,x.2.2.2.2.1,x.2.2.2.2.2.1,x.2.2.2.2.2.2.1,⟨x.2.2.2.2.2.2.2.1,x.2.2.2.2.2.2.2.2.1,x.2.2.2.2.2.2.2.2.2.1⟩⟩:At)) (λx=>(x.Kind,x.Row.Table,x.Row.Seq,x.Ag,x.Func,x.Items,x.Op,x.Bd.Kind,x.Bd.Int,x.Bd.Text,())) (λ_=>rfl) (za (zA .i64) (za (zA .i64) (za (zA .i64) (za (lSl 23) (za (zA .i64) (za (lSl 52) (za (zA .i64) (za (zA .i64) (za (zA .i64) (za zmf zr))))))))))) false (zhU 23 false (zbv))
def zyi (zL:yB->yF->Bool×(yB×Int)) (to:yF) (t74:yD) (t75:Int) (t76:Int) (x_:At) (items:yD):Wy zit zih zsH:=.i (decide (t76<t75)) (.i (decide (0<=t76)&&decide (t76<Int.ofNat t74.length)) (.bn (zL (t74.getD t76.toNat default).Ann to) λr4=>.i (r4.2 != 0) (.k (.inl (r4.2))) (.i (decide ((items.length+[WO.mk (t74.getD t76.toNat default).Value r4.1].length)*56<=zbO)) (.h (((to,()),()),(),(),t74,t75,(IntKind.i64.wrap (t76+1)),()) (x_,(items++[WO.mk (t74.getD t76.toNat default).Value r4.1]),())) .d)) .d) (.k (.inr (x_,items)))
def zp8 (zL:yB->yF->Bool×(yB×Int)) (x:zit) (y:zih):=zyi zL x.1.1.1 x.2.2.2.1 x.2.2.2.2.1 x.2.2.2.2.2.1 y.1 y.2.1
def zyg (zL:yB->yF->Bool×(yB×Int)) (n:Nat) (to:yF) (t74:yD) (t75:Int) (t76:Int) (x_:At) (items:yD):=zN (zp8 zL) (.inl default) n (((to,()),()),(),(),t74,t75,t76,()) (x_,items,())
def zxy (r:zsH):LTree ty:=.ite (isL r) (.done .ret [.lit (.slice none 0 0),.lit (.int .i64 (getL r))] []) (.done (.exit 3) [.ptr 432 0,.own 433] [.box (base.enc 48 (getR r).1) false,.arr 52 (getR r).2 false])
def zx0:LL ty zit:=za (lFn 93 (za (zAd (za (lSl 69) zr) 0) zr)) (za (zeB 432 0) (za (zhT 433) (za (lSl 52) (za zm (za zm zr)))))
def zyr:BL ty zih:=zhD (zhu (λx=>(⟨x.1,⟨x.2.1,x.2.2.1⟩,x.2.2.2.1,x.2.2.2.2.1,x.2.2.2.2.2.1,x.2.2.2.2.2.2.1,⟨x.2.2.2.2.2.2.2.1,x.2.2.2.2.2.2.2.2.1,x.2.2.2.2.2.2.2.2.2.1⟩⟩:At)) (λx=>(x.Kind,x.Row.Table,x.Row.Seq,x.Ag,x.Func,x.Items,x.Op,x.Bd.Kind,x.Bd.Int,x.Bd.Text,())) (λ_=>rfl) (za (zA .i64) (za (zA .i64) (za (zA .i64) (za (lSl 23) (za (zA .i64) (za (lSl 52) (za (zA .i64) (za (zA .i64) (za (zA .i64) (za zmf zr))))))))))) false (zhU 52 false (zbv))
def zyb (x:zii) (y:zir):Nat:=(x.1.1.1.length+x.2.2.2.1.length+Int.toNat x.2.2.2.2.1+Int.toNat x.2.2.2.2.2.1+y.1.Ag.length+y.1.Items.length+y.2.1.length+1)
def zxk (x:zit) (y:zih):Nat:=(x.1.1.1.length+x.2.2.2.1.length+Int.toNat x.2.2.2.2.1+Int.toNat x.2.2.2.2.2.1+y.1.Ag.length+y.1.Items.length+y.2.1.length+1)
def zki (zL:yB->yF->Bool×(yB×Int)):=zcC zbK 108 [(18,zpP),(20,zqk),(22,zuV),(33,zwL),(92,(ziV zL)),(93,zga)] [] [(5,[(1,.keep),(2,.keep),(6,.own 23),(24,.keep),(25,.keep),(26,.keep)]),(21,[(1,.keep),(2,.keep),(11,.own 52),(74,.keep),(75,.keep),(76,.keep)])] [(5,1,(kpL [1,2,6])),(5,0,(kpL [4,5])),(21,4,(kpL [2,11])),(21,0,(kpL [4,5]))] [(5,spW zAh zzb (zqV zL) (.inl default) zyl zyb),(21,spW zx0 zyr (zp8 zL) (.inl default) zxy zxk)] []
theorem zyo (zL:yB->yF->Bool×(yB×Int)):zR (zki zL) (lp (body f140) 0):=zD (id:=5) (hl:=rfl)
theorem zxx (zL:yB->yF->Bool×(yB×Int)):zR (zki zL) (lp (body f140) 1):=zD (id:=21) (hl:=rfl)
def zAJ (zL:yB->yF->Bool×(yB×Int)) (x_:At) (to:yF):Wy0 (yB×Int):=.i (x_.Kind==0) (.bn (zmR x_.Row to) λr6=>.k (r6,0)) (.bn (zzz zL (to.length+x_.Ag.length+(Int.ofNat x_.Ag.length).toNat +Int.toNat 0+x_.Ag.length+x_.Items.length+0+1) to x_.Ag (Int.ofNat x_.Ag.length) 0 (At.mk x_.Kind x_.Row x_.Ag x_.Func x_.Items x_.Op x_.Bd) []) λr12=>.i (isL r12) (.k ([],getL r12)) (.i ((getR r12).2.1.Kind==1) (.i (decide ((0:Int)<=(0:Int))&&decide (0<Int.ofNat (getR r12).2.2.length)) (.i (decide ((0:Int)<=(1:Int))&&decide (1<Int.ofNat (getR r12).2.2.length)) (.bn (zvw ((getR r12).2.2.getD (Int.toNat 0) default) ((getR r12).2.2.getD (Int.toNat 1) default)) λr7=>.k (r7.1,r7.2)) .d) .d) (.i ((getR r12).2.1.Kind==2) (.i (decide ((0:Int)<=(0:Int))&&decide (0<Int.ofNat (getR r12).2.2.length)) (.bn (zvr ((getR r12).2.2.getD (Int.toNat 0) default)) λr8=>.k (r8.1,r8.2)) .d) (.i ((getR r12).2.1.Kind==3) (.i (decide ((0:Int)<=(0:Int))&&decide (0<Int.ofNat (getR r12).2.2.length)) (.bn (zux ((getR r12).2.2.getD (Int.toNat 0) default)) λr9=>.k (r9.1,r9.2)) .d) (.bn (zyg zL ((getR r12).1.length+(getR r12).2.1.Items.length+(Int.ofNat (getR r12).2.1.Items.length).toNat +Int.toNat 0+(getR r12).2.1.Ag.length+(getR r12).2.1.Items.length+0+1) (getR r12).1 (getR r12).2.1.Items (Int.ofNat (getR r12).2.1.Items.length) 0 (At.mk (getR r12).2.1.Kind (getR r12).2.1.Row (getR r12).2.1.Ag (getR r12).2.1.Func (getR r12).2.1.Items (getR r12).2.1.Op (getR r12).2.1.Bd) []) λr11=>.i (isL r11) (.k ([],getL r11)) (.bn (zxi (getR r11).1.Func (getR r11).2 (getR r11).1.Op (getR r11).1.Bd) λr10=>.k (r10.1,r10.2)))))))
def ztl (zL:yB->yF->Bool×(yB×Int)) (x_:At) (to:yF):=(zAJ zL x_ to).fin default
theorem zwV (zL:yB->yF->Bool×(yB×Int)) (zFS:Sound Tryz.prog zbK 92 (ziV zL)):Sound Tryz.prog zbK 140 (ziA (ztl zL)):=
 sU (cx':=(zki zL)) (zn ⟨zu1.nodr,zuU.nodr,zEj.nodr,zHC.nodr,zFS,ziM.nodr,trivial⟩) call140 func140 (lOK (aC (zyo zL) (aC (zxx zL) aN))) (sg:=⟨[.own 42,.pure],[]⟩)
def zyR:Nat->(yB->yF->Bool×(yB×Int))×(At->yF->Bool×(yB×Int))
 | 0=>(λ_ _=>(false,default),λ_ _=>(false,default))
 | n+1=>(zwR ((zyR n).2),ztl ((zyR n).1))
def zxe (n:Nat):yB->yF->Bool×(yB×Int):=(zyR n).1
def zDy (n:Nat):At->yF->Bool×(yB×Int):=(zyR n).2
theorem zJ0:∀ n,Sound Tryz.prog zbK 92 (ziV (zxe n))/\Sound Tryz.prog zbK 140 (ziA (zDy n))
 | 0=>⟨zbd call92 (λ_=>rfl),zbd call140 (λ_=>rfl)⟩
 | n+1=>by
  have ih:=zJ0 n;exact ⟨zBg _ (ih.2),zwV _ (ih.1)⟩
def zz1:yB->yF->Bool×(yB×Int):=zxe 1000
def zt6:Ab.Spec ty:=ziV zz1
theorem zDz:Sound Tryz.prog zbK 92 zt6:=(zJ0 1000).1
def zzp:=zbR base 7 [(31,zcp)]
def zAR (b:Bg):Wy0 (Bool):=.bn (zb8 b.To) λr0=>.k (!r0)
def zmY (b:Bg):=(zAR b).fin default
def zAE:AL base (Bg×Unit):=zf (zg (zdh 69)) zF
def zgc:=zi zAE λx=>((zmY x.1).1,zRi (zmY x.1).2)
theorem ziW:SdP 91 zgc:=
 sT (cx':=zzp) (zn ⟨zcw,trivial⟩) call91 func91 (lOK aN)
abbrev zda:=yF×Unit×Int×Int×Unit
def znD (s:yF) (t7:Int) (t8:Int):Wy zda Unit (Int⊕Unit):=.i (decide (t8<t7)) (.i (decide (0<=t8)&&decide (t8<Int.ofNat s.length)) (.bn (zmY (s.getD t8.toNat default)) λr0=>.i (r0) (.k (.inl t8)) (.h (s,(),t7,(IntKind.i64.wrap (t8+1)),()) ())) .d) (.k (.inr ()))
def zgE (x:zda) (y:Unit):=znD x.1 x.2.2.1 x.2.2.2.1
def znN (n:Nat) (s:yF) (t7:Int) (t8:Int):=zN (zgE) (.inl default) n (s,(),t7,t8,()) ()
def znP:LL ty zda:=za (lSl 69) (za (lFn 91 (zr)) (za zm (za zm zr)))
def zmV (x:zda) (y:Unit):Nat:=(x.1.length+Int.toNat x.2.2.1+Int.toNat x.2.2.2.1+1)
def zgG:=zcC base 19 [(91,zgc)] [] [(2,(kpL [0,1,7,8]))] [(2,1,[]),(2,0,(kpL [4]))] [(2,spW znP zQf (zgE) (.inl default) zoj zmV)] []
theorem zmS:zR zgG (lp (body f94) 0):=zD (id:=2) (hl:=rfl)
def zn8 (s:yF):Wy0 (Int):=.bn (znN (s.length+(Int.ofNat s.length).toNat +Int.toNat 0+1) s (Int.ofNat s.length) 0) λr2=>.i (isL r2) (.k (getL r2)) (.k (-1:Int))
def zd0 (s:yF):=(zn8 s).fin default
def znV:AL base (yF×Unit×Unit):=zf (zg (vSl 69)) (zf (zg (vFn 91 zcQ)) zF)
def zfV:=zi znV λx=>((zd0 x.1).1,zRK (zd0 x.1).2)
theorem zmh:SdP 94 zfV:=
 sT (cx':=zgG) (zn ⟨ziW,trivial⟩) call94 func94 (lOK (aC zmS aN))
def zma:=zbR base 9 [(91,zgc),(94,zfV)]
def zmx (s:yF):Wy0 (Bool):=.bn (zd0 s) λr0=>.k (decide (r0≥0))
def zdE (s:yF):=(zmx s).fin default
def ze9:=zi znV λx=>((zdE x.1).1,zRi (zdE x.1).2)
theorem zkF:SdP 90 ze9:=
 sT (cx':=zma) (zn ⟨ziW,zmh,trivial⟩) call90 func90 (lOK aN)
def zCU:=zbR zbK 18 [(31,zcp),(90,ze9),(91,zgc),(92,zt6),(93,zga)]
def zEH (a:yB) (l:yF):Wy0 (yB×Int):=.bn (zb8 a) λr2=>.i (!r2) (.k ([],1)) (.bn (zdE l) λr1=>.i (r1) (.k ([],1)) (.bn (zz1 a l) λr0=>.k (r0.1,r0.2)))
def zvM (a:yB) (l:yF):=(zEH a l).fin default
def zEA:AL zbK (yB×yF×Unit):=zf (zg (vSl 42)) (zf (zg (vSl 69)) zF)
def zr8:=zi zEA λx=>((zvM x.1 x.2.1).1,zGx (zvM x.1 x.2.1).2)
theorem zAi:Sound Tryz.prog zbK 41 zr8:=
 sU (cx':=zCU) (zn ⟨zcw.nodr,zkF.nodr,ziW.nodr,zDz,ziM.nodr,trivial⟩) call41 func41 (lOK aN) (sg:=⟨[.own 42,.pure],[]⟩)
def zSf:=zbR zbK 84 [(13,zsD),(16,zsk),(18,zpP),(20,zqk),(25,zqh),(27,zsr),(41,zr8),(51,zu7)]
def zTl:Wy0 (Bool):=.k true
def zOY:Bool×Bool:=(zTl).fin default
def zTa:AL zbK (Unit):=zF
def zCA:=zi zTa λx=>((zOY ).1,zRi (zOY ).2)
theorem zOt:Sound Tryz.prog zbK 11 zCA:=
 sU (cx':=zSf) (zn ⟨zwF,zxj,zu1.nodr,zuU.nodr,zuH.nodr,zwI.nodr,zAi,zEw,trivial⟩) call11 func11 (lOK aN)
def zSv:AL base (yB×Int×Int×Unit):=zf (zg (vSl 42)) (zf (zg (zgr .i64)) (zf (zg (zgr .i64)) zF))
def zpT (F:yB->Int->Int->Bool×Int):Ab.Spec ty:=zi zSv λx=>((F x.1 x.2.1 x.2.2.1).1,zRK (F x.1 x.2.1 x.2.2.1).2)
abbrev zht:=yB×Int×Int×Int×Int×Int×Unit×Int×Unit
abbrev zFf:=yB×Int×Int×Int×Int×Int×At
abbrev zFg:=yB×Int×Int×Int×Int×Int
abbrev zsS:=yB×Int×Int×Int×Int×Int×Unit
abbrev zEN:=yB×Int×Int×Int×Int
abbrev zsT:=yB×Int×Int×Int×Int×Unit
def ztd (zC:yB->Int->Int->Bool×Int) (a:yB) (limit:Int) (zcD:Int) (n_:Int) (i:Int) (k:Int) (j:Int) (x_:At):Wy zht (At×Unit) zFf:=.i (decide (j<Int.ofNat x_.Ag.length)) (.i (decide (n_<=limit)) (.i (decide (0<=j)&&decide (j<Int.ofNat x_.Ag.length)) (.bn (zC (x_.Ag.getD j.toNat default) (IntKind.i64.wrap (limit - n_)) (IntKind.i64.wrap (zcD - 1))) λr0=>.h (a,limit,zcD,(IntKind.i64.wrap (n_+r0)),i,k,(),(IntKind.i64.wrap (j+1)),()) (x_,())) .d) (.k (a,limit,zcD,n_,i,k,x_))) (.k (a,limit,zcD,n_,i,k,x_))
def zzu (zC:yB->Int->Int->Bool×Int) (x:zht) (y:At×Unit):=ztd zC x.1 x.2.1 x.2.2.1 x.2.2.2.1 x.2.2.2.2.1 x.2.2.2.2.2.1 x.2.2.2.2.2.2.2.1 y.1
def ztJ (zC:yB->Int->Int->Bool×Int) (n:Nat) (a:yB) (limit:Int) (zcD:Int) (n_:Int) (i:Int) (k:Int) (j:Int) (x_:At):=zN (zzu zC) default n (a,limit,zcD,n_,i,k,(),j,()) (x_,())
def zKW (r:zFf):LTree ty:=.done (.exit 4) [.sl 42 r.1,.lit (.int .i64 r.2.1),.lit (.int .i64 r.2.2.1),.lit (.int .i64 r.2.2.2.1),.lit (.int .i64 r.2.2.2.2.1),.lit (.int .i64 r.2.2.2.2.2.1),.ptr 544 0] [.box (base.enc 48 r.2.2.2.2.2.2) false]
def zLH:LL ty zht:=za (lSl 42) (za zm (za zm (za zm (za zm (za zm (za (zeB 544 0) (za zm zr)))))))
def ztE (zC:yB->Int->Int->Bool×Int) (a:yB) (limit:Int) (zcD:Int) (n_:Int) (i:Int) (k:Int) (j:Int) (x_:At):Wy zht (At×Unit) zFg:=.i (decide (j<Int.ofNat x_.Items.length)) (.i (decide (n_<=limit)) (.i (decide (0<=j)&&decide (j<Int.ofNat x_.Items.length)) (.i (decide (0<=j)&&decide (j<Int.ofNat x_.Items.length)) (.bn (zC (x_.Items.getD j.toNat default).Ann (IntKind.i64.wrap (limit - n_)) (IntKind.i64.wrap (zcD - 1))) λr2=>.h (a,limit,zcD,(IntKind.i64.wrap (IntKind.i64.wrap (n_+Int.ofNat (x_.Items.getD j.toNat default).Value.Text.size)+r2)),i,k,(),(IntKind.i64.wrap (j+1)),()) (x_,())) .d) .d) (.k (a,limit,zcD,n_,i,k))) (.k (a,limit,zcD,n_,i,k))
def zzN (zC:yB->Int->Int->Bool×Int) (x:zht) (y:At×Unit):=ztE zC x.1 x.2.1 x.2.2.1 x.2.2.2.1 x.2.2.2.2.1 x.2.2.2.2.2.1 x.2.2.2.2.2.2.2.1 y.1
def ztv (zC:yB->Int->Int->Bool×Int) (n:Nat) (a:yB) (limit:Int) (zcD:Int) (n_:Int) (i:Int) (k:Int) (j:Int) (x_:At):=zN (zzN zC) default n (a,limit,zcD,n_,i,k,(),j,()) (x_,())
def zLi (r:zFg):LTree ty:=.done (.exit 6) [.sl 42 r.1,.lit (.int .i64 r.2.1),.lit (.int .i64 r.2.2.1),.lit (.int .i64 r.2.2.2.1),.lit (.int .i64 r.2.2.2.2.1),.lit (.int .i64 r.2.2.2.2.2)] []
def zuq (zC:yB->Int->Int->Bool×Int) (a:yB) (limit:Int) (zcD:Int) (n_:Int) (i:Int) (k:Int):Wy zsS Unit zEN:=.i (decide (0<=i)&&decide (i<Int.ofNat a.length)) (.i (decide (k<Int.ofNat (a.getD i.toNat default).Fs.length)) (.i (decide (n_<=limit)) (.i (decide (0<=i)&&decide (i<Int.ofNat a.length)) (.i (decide (0<=k)&&decide (k<Int.ofNat (a.getD i.toNat default).Fs.length)) (.bn (ztJ zC ((a.length+limit.toNat +zcD.toNat +(IntKind.i64.wrap (IntKind.i64.wrap (IntKind.i64.wrap (n_+Int.ofNat ((a.getD i.toNat default).Fs.getD k.toNat default).At.Items.length)+Int.ofNat ((a.getD i.toNat default).Fs.getD k.toNat default).At.Ag.length)+Int.ofNat ((a.getD i.toNat default).Fs.getD k.toNat default).At.Bd.Text.size)).toNat +i.toNat +k.toNat +Int.toNat 0+1)+(At.mk ((a.getD i.toNat default).Fs.getD k.toNat default).At.Kind ((a.getD i.toNat default).Fs.getD k.toNat default).At.Row ((a.getD i.toNat default).Fs.getD k.toNat default).At.Ag ((a.getD i.toNat default).Fs.getD k.toNat default).At.Func ((a.getD i.toNat default).Fs.getD k.toNat default).At.Items ((a.getD i.toNat default).Fs.getD k.toNat default).At.Op ((a.getD i.toNat default).Fs.getD k.toNat default).At.Bd).Ag.length+(At.mk ((a.getD i.toNat default).Fs.getD k.toNat default).At.Kind ((a.getD i.toNat default).Fs.getD k.toNat default).At.Row ((a.getD i.toNat default).Fs.getD k.toNat default).At.Ag ((a.getD i.toNat default).Fs.getD k.toNat default).At.Func ((a.getD i.toNat default).Fs.getD k.toNat default).At.Items ((a.getD i.toNat default).Fs.getD k.toNat default).At.Op ((a.getD i.toNat default).Fs.getD k.toNat default).At.Bd).Items.length) a limit zcD (IntKind.i64.wrap (IntKind.i64.wrap (IntKind.i64.wrap (n_+Int.ofNat ((a.getD i.toNat default).Fs.getD k.toNat default).At.Items.length)+Int.ofNat ((a.getD i.toNat default).Fs.getD k.toNat default).At.Ag.length)+Int.ofNat ((a.getD i.toNat default).Fs.getD k.toNat default).At.Bd.Text.size)) i k 0 (At.mk ((a.getD i.toNat default).Fs.getD k.toNat default).At.Kind ((a.getD i.toNat default).Fs.getD k.toNat default).At.Row ((a.getD i.toNat default).Fs.getD k.toNat default).At.Ag ((a.getD i.toNat default).Fs.getD k.toNat default).At.Func ((a.getD i.toNat default).Fs.getD k.toNat default).At.Items ((a.getD i.toNat default).Fs.getD k.toNat default).At.Op ((a.getD i.toNat default).Fs.getD k.toNat default).At.Bd)) λr5=>.bn (ztv zC ((r5.1.length+r5.2.1.toNat +r5.2.2.1.toNat +r5.2.2.2.1.toNat +r5.2.2.2.2.1.toNat +r5.2.2.2.2.2.1.toNat +Int.toNat 0+1)+(At.mk r5.2.2.2.2.2.2.Kind r5.2.2.2.2.2.2.Row r5.2.2.2.2.2.2.Ag r5.2.2.2.2.2.2.Func r5.2.2.2.2.2.2.Items r5.2.2.2.2.2.2.Op r5.2.2.2.2.2.2.Bd).Ag.length+(At.mk r5.2.2.2.2.2.2.Kind r5.2.2.2.2.2.2.Row r5.2.2.2.2.2.2.Ag r5.2.2.2.2.2.2.Func r5.2.2.2.2.2.2.Items r5.2.2.2.2.2.2.Op r5.2.2.2.2.2.2.Bd).Items.length) r5.1 r5.2.1 r5.2.2.1 r5.2.2.2.1 r5.2.2.2.2.1 r5.2.2.2.2.2.1 0 (At.mk r5.2.2.2.2.2.2.Kind r5.2.2.2.2.2.2.Row r5.2.2.2.2.2.2.Ag r5.2.2.2.2.2.2.Func r5.2.2.2.2.2.2.Items r5.2.2.2.2.2.2.Op r5.2.2.2.2.2.2.Bd)) λr4=>.h ((r4.1),(r4.2.1),(r4.2.2.1),(r4.2.2.2.1),(r4.2.2.2.2.1),(IntKind.i64.wrap (r4.2.2.2.2.2+1)),()) ()) .d) .d) (.k (a,limit,zcD,n_,i))) (.k (a,limit,zcD,n_,i))) .d
def zBl (zC:yB->Int->Int->Bool×Int) (x:zsS) (y:Unit):=zuq zC x.1 x.2.1 x.2.2.1 x.2.2.2.1 x.2.2.2.2.1 x.2.2.2.2.2.1
def zuo (zC:yB->Int->Int->Bool×Int) (n:Nat) (a:yB) (limit:Int) (zcD:Int) (n_:Int) (i:Int) (k:Int):=zN (zBl zC) default n (a,limit,zcD,n_,i,k,()) ()
def zLD (r:zEN):LTree ty:=.done (.exit 2) [.sl 42 r.1,.lit (.int .i64 r.2.1),.lit (.int .i64 r.2.2.1),.lit (.int .i64 r.2.2.2.1),.lit (.int .i64 r.2.2.2.2)] []
def zOq:LL ty zsS:=za (lSl 42) (za zm (za zm (za zm (za zm (za zm zr)))))
def zus (zC:yB->Int->Int->Bool×Int) (a:yB) (limit:Int) (zcD:Int) (n_:Int) (i:Int):Wy zsT Unit (Int):=.i (decide (i<Int.ofNat a.length)) (.i (decide (n_<=limit)) (.i (decide (0<=i)&&decide (i<Int.ofNat a.length)) (.bn (zuo zC (a.length+limit.toNat +zcD.toNat +(IntKind.i64.wrap (IntKind.i64.wrap (n_+1)+Int.ofNat (a.getD i.toNat default).Fs.length)).toNat +i.toNat +Int.toNat 0+1) a limit zcD (IntKind.i64.wrap (IntKind.i64.wrap (n_+1)+Int.ofNat (a.getD i.toNat default).Fs.length)) i 0) λr8=>.h ((r8.1),(r8.2.1),(r8.2.2.1),(r8.2.2.2.1),(IntKind.i64.wrap (r8.2.2.2.2+1)),()) ()) .d) (.k n_)) (.k n_)
def zBx (zC:yB->Int->Int->Bool×Int) (x:zsT) (y:Unit):=zus zC x.1 x.2.1 x.2.2.1 x.2.2.2.1 x.2.2.2.2.1
def zuu (zC:yB->Int->Int->Bool×Int) (n:Nat) (a:yB) (limit:Int) (zcD:Int) (n_:Int) (i:Int):=zN (zBx zC) default n (a,limit,zcD,n_,i,()) ()
def zNT:LL ty zsT:=za (lSl 42) (za zm (za zm (za zm (za zm zr))))
def zKJ (x:zht) (y:At×Unit):Nat:=((x.1.length+Int.toNat x.2.1+Int.toNat x.2.2.1+Int.toNat x.2.2.2.1+Int.toNat x.2.2.2.2.1+Int.toNat x.2.2.2.2.2.1+Int.toNat x.2.2.2.2.2.2.2.1+1)+y.1.Ag.length+y.1.Items.length)
def zMO (x:zsS) (y:Unit):Nat:=(x.1.length+Int.toNat x.2.1+Int.toNat x.2.2.1+Int.toNat x.2.2.2.1+Int.toNat x.2.2.2.2.1+Int.toNat x.2.2.2.2.2.1+1)
def zM2 (x:zsT) (y:Unit):Nat:=(x.1.length+Int.toNat x.2.1+Int.toNat x.2.2.1+Int.toNat x.2.2.2.1+Int.toNat x.2.2.2.2.1+1)
def zlw (zC:yB->Int->Int->Bool×Int):=zcC base 136 [(52,(zpT zC))] [] [(5,(kpL [0,1,2,7,8])),(9,(kpL [0,1,2,7,8,9])),(14,(kpL [0,1,2,7,8,9,10,11])),(18,(kpL [0,1,2,7,8,9,10,12]))] [(5,1,(kpL [7])),(9,3,(kpL [0,1,2,7,8])),(14,5,(kpL [0,1,2,7,8,9,10])),(18,7,(kpL [0,1,2,7,8,9]))] [(14,spW zLH zP5 (zzu zC) default zKW zKJ),(18,spW zLH zP5 (zzN zC) default zLi zKJ),(9,spW zOq zQf (zBl zC) default zLD zMO),(5,spW zNT zQf (zBx zC) default zPk zM2)] []
theorem zLo (zC:yB->Int->Int->Bool×Int):zR (zlw zC) (lp (body f52) 2):=zD (id:=14) (hl:=rfl)
theorem zKx (zC:yB->Int->Int->Bool×Int):zR (zlw zC) (lp (body f52) 3):=zD (id:=18) (hl:=rfl)
theorem zMt (zC:yB->Int->Int->Bool×Int):zR (zlw zC) (lp (body f52) 1):=zD (id:=9) (hl:=rfl)
theorem zMz (zC:yB->Int->Int->Bool×Int):zR (zlw zC) (lp (body f52) 0):=zD (id:=5) (hl:=rfl)
def zvz (zC:yB->Int->Int->Bool×Int) (a:yB) (limit:Int) (zcD:Int):Wy0 (Int):=.i (zcD==0) (.k (IntKind.i64.wrap (limit+1))) (.bn (zuu zC (a.length+limit.toNat +zcD.toNat +Int.toNat 0+Int.toNat 0+1) a limit zcD 0 0) λr10=>.k r10)
def zqe (zC:yB->Int->Int->Bool×Int) (a:yB) (limit:Int) (zcD:Int):=(zvz zC a limit zcD).fin default
theorem zI3 (zC:yB->Int->Int->Bool×Int) (zPN:SdP 52 (zpT zC)):SdP 52 (zpT (zqe zC)):=
 sT (cx':=(zlw zC)) (zn ⟨zPN,trivial⟩) call52 func52 (lOK (aC (zMz zC) (aC (zMt zC) (aC (zLo zC) (aC (zKx zC) aN)))))
def zOV:Nat->(yB->Int->Int->Bool×Int)
 | 0=>λ_ _ _=>(false,default)
 | n+1=>zqe (zOV n)
def zmK (n:Nat):yB->Int->Int->Bool×Int:=zOV n
theorem zBu (n:Nat):zmK (n+1)=zqe (zmK n):=rfl
theorem zKj:∀ n,SdP 52 (zpT (zmK n))
 | 0=>zbd call52 (λ_=>rfl)
 | n+1=>by
  have ih:=zKj n;exact zI3 _ (ih)
def zCI:yB->Int->Int->Bool×Int:=zmK 1000
def zBz:Ab.Spec ty:=zpT zCI
theorem zMg:SdP 52 zBz:=(zKj 1000)
abbrev zwH:=Int×yA×Int×Unit
def zDR (limit:Int) (l:yA) (i:Int):Wy zwH Unit (Bool⊕Unit):=.i (decide (i<Int.ofNat l.length)) (.i (decide (0<=i)&&decide (i<Int.ofNat l.length)) (.bn (zCI (l.getD i.toNat default) limit 12) λr0=>.i (decide (r0>limit)) (.k (.inl false)) (.h (limit,l,(IntKind.i64.wrap (i+1)),()) ())) .d) (.k (.inr ()))
def zMd (x:zwH) (y:Unit):=zDR x.1 x.2.1 x.2.2.1
def zDp (n:Nat) (limit:Int) (l:yA) (i:Int):=zN (zMd) (.inl default) n (limit,l,i,()) ()
def zVh:LL ty zwH:=za zm (za (lSl 23) (za zm zr))
def zTg (x:zwH) (y:Unit):Nat:=(Int.toNat x.1+x.2.1.length+Int.toNat x.2.2.1+1)
def zNh:=zcC base 20 [(52,zBz)] [] [(2,(kpL [0,1,5]))] [(2,1,[]),(2,0,(kpL [4]))] [(2,spW zVh zQf (zMd) (.inl default) zRH zTg)] []
theorem zTp:zR zNh (lp (body f12) 0):=zD (id:=2) (hl:=rfl)
def zON (limit:Int) (l:yA):Wy0 (Bool):=.bn (zDp (limit.toNat +l.length+Int.toNat 0+1) limit l 0) λr2=>.i (isL r2) (.k (getL r2)) (.k true)
def zwe (limit:Int) (l:yA):=(zON limit l).fin default
def zVt:AL base (Int×yA×Unit):=zf (zg zlk) (zf (zg (vSl 23)) zF)
def zG1:=zi zVt λx=>((zwe x.1 x.2.1).1,zRi (zwe x.1 x.2.1).2)
theorem zRr:SdP 12 zG1:=
 sT (cx':=zNh) (zn ⟨zMg,trivial⟩) call12 func12 (lOK (aC zTp aN))
abbrev zns:=yB×Int×Int×Unit
abbrev zxO:=Bool⊕(yB×Int)
abbrev znl:=yB×Int×Unit
def zsA (a:yB) (i:Int) (k:Int):Wy zns Unit zxO:=.i (decide (0<=i)&&decide (i<Int.ofNat a.length)) (.i (decide (k<Int.ofNat (a.getD i.toNat default).Fs.length)) (.i (decide (0<=i)&&decide (i<Int.ofNat a.length)) (.i (decide (0<=k)&&decide (k<Int.ofNat (a.getD i.toNat default).Fs.length)) (.i (((a.getD i.toNat default).Fs.getD k.toNat default).At.Kind != 0) (.k (.inl false)) (.h (a,i,(IntKind.i64.wrap (k+1)),()) ())) .d) .d) (.k (.inr (a,i)))) .d
def zsl (x:zns) (y:Unit):=zsA x.1 x.2.1 x.2.2.1
def zxE (n:Nat) (a:yB) (i:Int) (k:Int):=zN (zsl) (.inl default) n (a,i,k,()) ()
def zJa (r:zxO):LTree ty:=.ite (isL r) (.done .ret [.lit (.bool (getL r))] []) (.done (.exit 2) [.sl 42 (getR r).1,.lit (.int .i64 (getR r).2)] [])
def zKY:LL ty zns:=za (lSl 42) (za zm (za zm zr))
def zsu (a:yB) (i:Int):Wy znl Unit (Bool⊕Unit):=.i (decide (i<Int.ofNat a.length)) (.bn (zxE ((a.length+i.toNat +Int.toNat 0+1)+zdi a) a i 0) λr0=>.i (isL r0) (.k (.inl (getL r0))) (.h ((getR r0).1,(IntKind.i64.wrap ((getR r0).2+1)),()) ())) (.k (.inr ()))
def zsB (x:znl) (y:Unit):=zsu x.1 x.2.1
def zxJ (n:Nat) (a:yB) (i:Int):=zN (zsB) (.inl default) n (a,i,()) ()
def zKQ:LL ty znl:=za (lSl 42) (za zm zr)
def zJq (x:zns) (y:Unit):Nat:=((x.1.length+Int.toNat x.2.1+Int.toNat x.2.2.1+1)+zdi x.1)
def zJA (x:znl) (y:Unit):Nat:=((x.1.length+Int.toNat x.2.1+1)+zdi x.1)
def zsw:=zcC base 32 [] [] [(2,(kpL [0,3])),(5,(kpL [0,3,4]))] [(2,1,[]),(2,0,(kpL [2])),(5,3,(kpL [0,3])),(5,0,(kpL [2]))] [(5,spW zKY zQf (zsl) (.inl default) zJa zJq),(2,spW zKQ zQf (zsB) (.inl default) zRH zJA)] []
theorem zI2:zR zsw (lp (body f50) 1):=zD (id:=5) (hl:=rfl)
theorem zJi:zR zsw (lp (body f50) 0):=zD (id:=2) (hl:=rfl)
def zzs (a:yB):Wy0 (Bool):=.bn (zxJ ((a.length+Int.toNat 0+1)+zdi a) a 0) λr2=>.i (isL r2) (.k (getL r2)) (.k true)
def zm0 (a:yB):=(zzs a).fin default
def zwa:=zi zT8 λx=>((zm0 x.1).1,zRi (zm0 x.1).2)
theorem zFs:SdP 50 zwa:=
 sT (cx':=zsw) (zn trivial) call50 func50 (lOK (aC zJi (aC zI2 aN)))
abbrev zhx:=yB×Unit×yE×Int×Unit
abbrev zcW:=yE×Unit
abbrev zqM:=Bool⊕yB
abbrev zka:=yB×Unit×yE×Unit
abbrev zcY:=yB×Unit
def zeN (a:yB) (m:yE) (i:Int) (l:yE):Wy zhx zcW zqM:=.i (decide (i<Int.ofNat l.length)) (.i (decide (0<=i)&&decide (i<Int.ofNat l.length)) (.i (decide (0<=i)&&decide (i<Int.ofNat m.length)) (.i (!((l.getD i.toNat default).Table==(m.getD i.toNat default).Table&&((l.getD i.toNat default).Seq==(m.getD i.toNat default).Seq&&true))) (.k (.inl false)) (.h (a,(),m,(IntKind.i64.wrap (i+1)),()) (l,()))) .d) .d) (.k (.inr a))
def zkr (x:zhx) (y:zcW):=zeN x.1 x.2.2.1 x.2.2.2.1 y.1
def zqP (n:Nat) (a:yB) (m:yE) (i:Int) (l:yE):=zN (zkr) (.inl default) n (a,(),m,i,()) (l,())
def zx1 (r:zqM):LTree ty:=.ite (isL r) (.done .ret [.lit (.bool (getL r))] []) (.done (.exit 0) [.sl 42 (getR r)] [])
def zzq:LL ty zhx:=za (lSl 42) (za (zhT 220) (za (lSl 25) (za zm zr)))
def zzD:BL ty zcW:=zhU 25 false (zbv)
def zkz (a:yB) (m:yE) (l:yE):Wy zka zcW (Bool):=.bn (zqP (a.length+m.length+Int.toNat 0+l.length+1000) a m 0 l) λr6=>.i (isL r6) (.k (getL r6)) (.bn (zb8 (getR r6)) λr5=>.bn (zyU (getR r6)) λr4=>.i (r5==r4) (.bn (zoF (getR r6)) λr3=>.bn (zwX (getR r6)) λr2=>.i (r3==r2) (.bn (zg8 (getR r6)) λr1=>.bn (zm0 (getR r6)) λr0=>.k (r1==r0)) (.k false)) (.k false))
def zkb (x:zka) (y:zcW):=zkz x.1 x.2.2.1 y.1
def zqS (n:Nat) (a:yB) (m:yE) (l:yE):=zN (zkb) default n (a,(),m,()) (l,())
def zyN (r:Bool):LTree ty:=.done .ret [.lit (.bool r)] []
def zzW:LL ty zka:=za (lSl 42) (za (zhT 220) (za (lSl 25) zr))
def zkh (a:yB):Wy zcY Unit (Bool):=.bn (ziL a) λr16=>.bn (zwx a) λr15=>.i (Int.ofNat r16.length != Int.ofNat r15.length) (.k false) (.bn (zqS 1 a r15 r16) λr14=>.k r14)
def zkt (x:zcY) (y:Unit):=zkh x.1
def zqW (n:Nat) (a:yB):=zN (zkt) default n (a,()) ()
def zzF:LL ty zcY:=za (lSl 42) zr
def zkf (a:yB):Wy zcY Unit (Bool):=.bn (zwe 100 [a]) λr21=>.i (!r21) (.k true) (.bn (zqW 1 a) λr20=>.k r20)
def zkg (x:zcY) (y:Unit):=zkf x.1
def zqT (n:Nat) (a:yB):=zN (zkg) default n (a,()) ()
def zyJ (x:zhx) (y:zcW):Nat:=(x.1.length+x.2.2.1.length+Int.toNat x.2.2.2.1+y.1.length+1000)
def zeH:=zXh zbK 55 [(11,zCA),(12,zG1),(31,zcp),(44,zlT),(45,zw4),(46,zDN),(47,zro),(48,zwu),(49,zqs),(50,zwa)] [] [(9,(kpL [0,3,4,5])),(3,(kpL [0])),(5,(kpL [0])),(8,(kpL [0,3,4]))] [(9,1,(kpL [0])),(9,0,(kpL [2])),(3,0,(kpL [2])),(5,0,(kpL [2])),(8,0,(kpL [2]))] [(9,spW zzq zzD (zkr) (.inl default) zx1 zyJ)] [] [(8,spW zzW zzD (zkb) default zyN λx y=>(1)),(5,spW zzF zQf (zkt) default zyN λx y=>(1)),(3,spW zzF zQf (zkg) default zyN λx y=>(1))]
theorem zyz:zR zeH (lp (body f10) 0):=zD (id:=9) (hl:=rfl)
theorem zyI:zHB zeH (jn (body f10) 8):=zP1 (id:=8) (hl:=rfl)
theorem zyp:zHB zeH (jn (body f10) 5):=zP1 (id:=5) (hl:=rfl)
theorem zyM:zHB zeH (jn (body f10) 3):=zP1 (id:=3) (hl:=rfl)
def zrI (a:yB):Wy0 (Bool):=.bn (zqT 1 a) λr24=>.k r24
def zey (a:yB):=(zrI a).fin default
def zAB:AL zbK zcY:=zf (zg (vSl 42)) zF
def zji:=zi zAB λx=>((zey x.1).1,zRi (zey x.1).2)
theorem zw9:Sound Tryz.prog zbK 10 zji:=
 zSd (cx':=zeH) ztY zJw zZC (zYr ⟨zOt,zRr.nodr,zcw.nodr,zAP.nodr,zIb.nodr,zOG.nodr,zv8.nodr,zDT.nodr,zxs.nodr,zFs.nodr,trivial⟩) call10 func10 (c:=body f10) (by kernel_rfl) (zTf (l:=[lp (body f10) 0]) (by kernel_rfl) ⟨zyz,trivial⟩ (js:=[jn (body f10) 3,jn (body f10) 5,jn (body f10) 8]) (by kernel_rfl) ⟨zyM,zyp,zyI,trivial⟩) (sg:=⟨[.pure],[]⟩)
def trV (v:Value):TT:=.l [.i v.Kind,.i v.Int,trB v.Text]
mutual
def zfH:At->TT
 | ⟨k,r,a,f,i,o,b⟩=>.l [.i k,.i r.Table,.i r.Seq,.l (zrV a),.i f,.l (zfW i),.i o,trV b]
def zmO:Fc->TT
 | ⟨x,e⟩=>.l [zfH x,.i e]
def zbZ:yC->List TT
 | []=>[]
 | x::r=>zmO x::zbZ r
def ztu:Term->TT
 | ⟨c,fs⟩=>.l [.l (zbZ fs),.i c]
def zcN:yB->List TT
 | []=>[]
 | x::r=>ztu x::zcN r
def zrV:yA->List TT
 | []=>[]
 | x::r=>.l (zcN x)::zrV r
def zfc:Wd->TT
 | ⟨v,a⟩=>.l [trV v,.l (zcN a)]
def zfW:yD->List TT
 | []=>[]
 | x::r=>zfc x::zfW r
end
theorem zrP:∀ l,zbZ l=l.map zmO
 | []=>by rw [zbZ]; rfl
 | x::r=>by rw [zbZ,zrP r]; rfl
theorem zzo:∀ l,zcN l=l.map ztu
 | []=>by rw [zcN]; rfl
 | x::r=>by rw [zcN,zzo r]; rfl
theorem zwM:∀ l,zrV l=l.map λx=>.l (zcN x)
 | []=>by rw [zrV]; rfl
 | x::r=>by rw [zrV,zwM r]; rfl
theorem zpk:∀ l,zfW l=l.map zfc
 | []=>by rw [zfW]; rfl
 | x::r=>by rw [zfW,zpk r]; rfl
theorem zBe:∀ a b:List UInt8,(a.map λx=>TT.i (x.toNat:Int))=(b.map λx=>TT.i (x.toNat:Int))->a=b
 | [],[]=>λ_=>rfl
 | [],_::_=>λh=>by simp at h
 | _::_,[]=>λh=>by simp at h
 | x::a,y::b=>λh=>by
  simp only [List.map,qj,TT.i.injEq] at h;rw [zBe a b h.2,UInt8.toNat_inj.1 (Int.ofNat.inj h.1)]
theorem zWa {a b:Value} (h:trV a=trV b):a=b:=by
 obtain ⟨k,n,s⟩:=a; obtain ⟨k',n',s'⟩:=b;simp only [trV,trB,TT.l.injEq,qj,TT.i.injEq,and_true] at h;obtain ⟨rfl,rfl,h⟩:=h;have:=zBe _ _ h;obtain ⟨⟨l⟩⟩:=s; obtain ⟨⟨l'⟩⟩:=s';simp only at this; subst this; rfl
mutual
theorem zWA:∀ a b:At,zfH a=zfH b->a=b
 | ⟨k,r,a,f,i,o,v⟩,⟨k',r',a',f',i',o',v'⟩=>λh=>by
  simp only [zfH,TT.l.injEq,qj,TT.i.injEq,and_true] at h;obtain ⟨rfl,h1,h2,h3,rfl,h4,rfl,h5⟩:=h;obtain ⟨t,s⟩:=r; obtain ⟨t',s'⟩:=r';simp only at h1 h2; subst h1 h2;rw [zQW a a' h3,zO6 i i' h4,zWa h5]
theorem zUX:∀ a b:Fc,zmO a=zmO b->a=b
 | ⟨x,e⟩,⟨x',e'⟩=>λh=>by
  simp only [zmO,TT.l.injEq,qj,TT.i.injEq,and_true] at h;rw [zWA x x' h.1,h.2]
theorem zJY:∀ a b:yC,zbZ a=zbZ b->a=b
 | [],[]=>λ_=>rfl
 | [],_::_=>λh=>by simp [zbZ] at h
 | _::_,[]=>λh=>by simp [zbZ] at h
 | x::a,y::b=>λh=>by
  simp only [zbZ,qj] at h;rw [zUX x y h.1,zJY a b h.2]
theorem zWm:∀ a b:Term,ztu a=ztu b->a=b
 | ⟨c,l⟩,⟨c',l'⟩=>λh=>by
  simp only [ztu,TT.l.injEq,qj,TT.i.injEq,and_true] at h;rw [zJY l l' h.1,h.2]
theorem zAj:∀ a b:yB,zcN a=zcN b->a=b
 | [],[]=>λ_=>rfl
 | [],_::_=>λh=>by simp [zcN] at h
 | _::_,[]=>λh=>by simp [zcN] at h
 | x::a,y::b=>λh=>by
  simp only [zcN,qj] at h;rw [zWm x y h.1,zAj a b h.2]
theorem zQW:∀ a b:yA,zrV a=zrV b->a=b
 | [],[]=>λ_=>rfl
 | [],_::_=>λh=>by simp [zrV] at h
 | _::_,[]=>λh=>by simp [zrV] at h
 | x::a,y::b=>λh=>by
  simp only [zrV,qj,TT.l.injEq] at h;rw [zAj x y h.1,zQW a b h.2]
theorem zXb:∀ a b:Wd,zfc a=zfc b->a=b
 | ⟨c,l⟩,⟨c',l'⟩=>λh=>by
  simp only [zfc,TT.l.injEq,qj,and_true] at h;rw [zWa h.1,zAj l l' h.2]
theorem zO6:∀ a b:yD,zfW a=zfW b->a=b
 | [],[]=>λ_=>rfl
 | [],_::_=>λh=>by simp [zfW] at h
 | _::_,[]=>λh=>by simp [zfW] at h
 | x::a,y::b=>λh=>by
  simp only [zfW,qj] at h;rw [zXb x y h.1,zO6 a b h.2]
end
def zhd (P:yB->Prop) (x:At):Prop:=
 (x.Ag.length<=1000000/\x.Items.length<=1000000/\x.Bd.Text.size<=1000000000000)/\(∀ a∈x.Ag,P a)/\∀ w∈x.Items,w.Value.Text.size<=1000000000000/\P w.Ann
def zhF (P:yB->Prop) (l:yC):Prop:=l.length<=1000000/\∀ f∈l,zhd P f.At
def zP:Nat->yB->Prop
 | 0,_=>False
 | n+1,a=>a.length<=1000000/\∀ t∈a,zhF (zP n) t.Fs
theorem zhd.imp {P Q:yB->Prop} (h:∀ a,P a->Q a) {x:At} (hx:zhd P x):zhd Q x:=⟨hx.1,λa ha=>h a (hx.2.1 a ha),λw hw=>⟨(hx.2.2 w hw).1,h _ (hx.2.2 w hw).2⟩⟩
theorem zP.succ:∀ (n:Nat) (a:yB),zP n a->zP (n+1) a
 | 0,_,h=>h.elim
 | n+1,a,h=>⟨h.1,λt ht=>⟨(h.2 t ht).1,λf hf=>((h.2 t ht).2 f hf).imp (zP.succ n)⟩⟩
theorem zP.mono {n m:Nat} {a:yB} (h:zP n a) (hm:n<=m):zP m a:=by
 obtain ⟨k,rfl⟩:=Nat.exists_eq_add_of_le hm;clear hm;induction k with
 | zero=>exact h
 | succ k ih=>exact zP.succ _ _ ih
end Go.Proofs.YtnolcogncjijpaaGreatDoor
end
