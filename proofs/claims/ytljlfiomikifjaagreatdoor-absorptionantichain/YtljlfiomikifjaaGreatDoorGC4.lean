/- Texts of this claim, joined (the program, its functions in plain words, and what they compute). -/
import Derived.Test.YtljlfiomikifjaaGreatDoorGC3
set_option autoImplicit false
set_option linter.unusedVariables false
set_option linter.unusedSectionVars false
set_option linter.unusedSimpArgs false
set_option maxRecDepth 1000000
set_option maxHeartbeats 0
noncomputable section
namespace Go.Proofs.YtljlfiomikifjaaGreatDoor
open Go Go.Ab
open Go.Proofs.Tryz
def zLs:=zbt base 18 [(85,zij),(86,zlc),(87,zhv),(88,zIE)]
def zzX (id:RowID) (p1:yG):Wy0 (yC):=.bn (zcP p1 id) λr2=>.i (decide (r2≥0)) (.i (decide (0<=r2)&&decide (r2<Int.ofNat p1.length)) (.bn (zhz (p1.getD r2.toNat default).To) λr0=>.k r0) .d) (.bn (zxo id) λr1=>.k r1)
def ziA (id:RowID) (p1:yG):=(zzX id p1).fin default
def zMl:AL base (RowID×(yG×Unit)×Unit):=ze (zf (zcV 49)) (ze (zf (zvI (zdP (vSl 51) zb7))) zu)
def ziw:=zi zMl λx=>((ziA x.1 x.2.1.1).1,zSe (ziA x.1 x.2.1.1).2)
theorem zmy:SdP 84 ziw:=
 sT (cx':=zLs) (zk ⟨zq8,zrr,zjS,zVV,trivial⟩) call84 func84 (lOK aN) (sg:=⟨[.own 28],[]⟩)
abbrev zpE:=((yG×Unit)×Unit)×Unit×Unit×yC×Int×yC×Int×Int×yD×Int×Int×Int×Int×Unit
abbrev zfa:=yC×yC×Unit
abbrev zFC:=yG×Int×yC×Int×Int×yD×Int×Int×yC×yC
abbrev zpz:=((yG×Unit)×Unit)×Unit×Unit×yC×Int×Int×yD×Int×Int×Unit
abbrev zGc:=Int⊕(yG×yC×Int×Int×yC×yC)
abbrev zpp:=((yG×Unit)×Unit)×Unit×yC×Int×Int×Unit
abbrev zph:=yC×Unit
abbrev zFI:=Int⊕yC
def zsD (zr:At->yG->Bool×(yC×Int)) (to:yG) (b:yC) (e:Int) (t16:yC) (t17:Int) (t18:Int) (t26:yD) (t27:Int) (t28:Int) (t40:Int) (t41:Int) (sum:yC) (product:yC):Wy zpE zfa zFC:=.i (decide (t41<t40)) (.i (e==0) (.bn (zxQ product b) λr6=>.h (((to,()),()),(),(),b,(r6.2),t16,t17,t18,t26,t27,t28,t40,(IntKind.i64.wrap (t41+1)),()) (sum,(r6.1),())) (.h (((to,()),()),(),(),b,e,t16,t17,t18,t26,t27,t28,t40,(IntKind.i64.wrap (t41+1)),()) (sum,product,()))) (.k (to,e,t16,t17,t18,t26,t27,t28,sum,product))
def zCW (zr:At->yG->Bool×(yC×Int)) (x:zpE) (y:zfa):=zsD zr x.1.1.1 x.2.2.2.1 x.2.2.2.2.1 x.2.2.2.2.2.1 x.2.2.2.2.2.2.1 x.2.2.2.2.2.2.2.1 x.2.2.2.2.2.2.2.2.1 x.2.2.2.2.2.2.2.2.2.1 x.2.2.2.2.2.2.2.2.2.2.1 x.2.2.2.2.2.2.2.2.2.2.2.1 x.2.2.2.2.2.2.2.2.2.2.2.2.1 y.1 y.2.1
def zsy (zr:At->yG->Bool×(yC×Int)) (n:Nat) (to:yG) (b:yC) (e:Int) (t16:yC) (t17:Int) (t18:Int) (t26:yD) (t27:Int) (t28:Int) (t40:Int) (t41:Int) (sum:yC) (product:yC):=zC (zCW zr) default n (((to,()),()),(),(),b,e,t16,t17,t18,t26,t27,t28,t40,t41,()) (sum,product,())
def zNE (r:zFC):LTree ty:=.done (.exit 4) [.fn 84 ([.bptr ([.sl 51 r.1]) 0]),.own 272,.own 273,.lit (.int .i64 r.2.1),.sl 28 r.2.2.1,.lit (.int .i64 r.2.2.2.1),.lit (.int .i64 r.2.2.2.2.1),.sl 69 r.2.2.2.2.2.1,.lit (.int .i64 r.2.2.2.2.2.2.1),.lit (.int .i64 r.2.2.2.2.2.2.2.1)] [.arr 28 r.2.2.2.2.2.2.2.2.1 false,.arr 28 r.2.2.2.2.2.2.2.2.2 false]
def zPg:LL ty zpE:=za (lFn 84 (za (zoD (za (lSl 51) zl) 0) zl)) (za (zds 272) (za (zds 273) (za (lSl 28) (za zj (za (lSl 28) (za zj (za zj (za (lSl 69) (za zj (za zj (za zj (za zj zl))))))))))))
def zPF:BL ty zfa:=zdw 28 false (zdw 28 false (zbe))
def zt8 (zr:At->yG->Bool×(yC×Int)) (to:yG) (t16:yC) (t17:Int) (t18:Int) (t26:yD) (t27:Int) (t28:Int) (sum:yC) (product:yC):Wy zpz zfa zGc:=.i (decide (t28<t27)) (.i (decide (0<=t28)&&decide (t28<Int.ofNat t26.length)) (.bn (zr (At.mk (t26.getD t28.toNat default).At.Kind (t26.getD t28.toNat default).At.Row (t26.getD t28.toNat default).At.Ag (t26.getD t28.toNat default).At.Func (t26.getD t28.toNat default).At.Items (t26.getD t28.toNat default).At.Op (t26.getD t28.toNat default).At.Bd) to) λr9=>.bn (zsy zr (to.length+r9.1.length+r9.2.toNat +t16.length+t17.toNat +t18.toNat +t26.length+t27.toNat +t28.toNat +(t26.getD t28.toNat default).Exp.toNat +Int.toNat 0+sum.length+product.length+1) to r9.1 r9.2 t16 t17 t18 t26 t27 t28 (t26.getD t28.toNat default).Exp 0 sum product) λr8=>.i (r8.2.1 != 0) (.k (.inl (r8.2.1))) (.h ((((r8.1),()),()),(),(),(r8.2.2.1),(r8.2.2.2.1),(r8.2.2.2.2.1),(r8.2.2.2.2.2.1),(r8.2.2.2.2.2.2.1),(IntKind.i64.wrap (r8.2.2.2.2.2.2.2.1+1)),()) ((r8.2.2.2.2.2.2.2.2.1),(r8.2.2.2.2.2.2.2.2.2),()))) .d) (.k (.inr (to,t16,t17,t18,sum,product)))
def zDR (zr:At->yG->Bool×(yC×Int)) (x:zpz) (y:zfa):=zt8 zr x.1.1.1 x.2.2.2.1 x.2.2.2.2.1 x.2.2.2.2.2.1 x.2.2.2.2.2.2.1 x.2.2.2.2.2.2.2.1 x.2.2.2.2.2.2.2.2.1 y.1 y.2.1
def zui (zr:At->yG->Bool×(yC×Int)) (n:Nat) (to:yG) (t16:yC) (t17:Int) (t18:Int) (t26:yD) (t27:Int) (t28:Int) (sum:yC) (product:yC):=zC (zDR zr) (.inl default) n (((to,()),()),(),(),t16,t17,t18,t26,t27,t28,()) (sum,product,())
def zPf (r:zGc):LTree ty:=.ite (isL r) (.done .ret [.lit (.slice none 0 0),.lit (.int .i64 (getL r))] []) (.done (.exit 2) [.fn 84 ([.bptr ([.sl 51 (getR r).1]) 0]),.own 272,.own 273,.sl 28 (getR r).2.1,.lit (.int .i64 (getR r).2.2.1),.lit (.int .i64 (getR r).2.2.2.1)] [.arr 28 (getR r).2.2.2.2.1 false,.arr 28 (getR r).2.2.2.2.2 false])
def zQR:LL ty zpz:=za (lFn 84 (za (zoD (za (lSl 51) zl) 0) zl)) (za (zds 272) (za (zds 273) (za (lSl 28) (za zj (za zj (za (lSl 69) (za zj (za zj zl))))))))
def ztV (zr:At->yG->Bool×(yC×Int)) (to:yG) (t16:yC) (t17:Int) (t18:Int) (sum:yC):Wy zpp zph zFI:=.i (decide (t18<t17)) (.i (decide (0<=t18)&&decide (t18<Int.ofNat t16.length)) (.bn (zsu (t16.getD t18.toNat default).Cf) λr14=>.bn (zui zr (to.length+t16.length+t17.toNat +t18.toNat +(t16.getD t18.toNat default).Fs.length+(Int.ofNat (t16.getD t18.toNat default).Fs.length).toNat +Int.toNat 0+sum.length+r14.length+1) to t16 t17 t18 (t16.getD t18.toNat default).Fs (Int.ofNat (t16.getD t18.toNat default).Fs.length) 0 sum r14) λr13=>.i (isL r13) (.k (.inl (getL r13))) (.bn (zxj (getR r13).2.2.2.2.1 (getR r13).2.2.2.2.2) λr12=>.i (r12.2 != 0) (.k (.inl (r12.2))) (.h ((((getR r13).1,()),()),(),(getR r13).2.1,(getR r13).2.2.1,(IntKind.i64.wrap ((getR r13).2.2.2.1+1)),()) ((r12.1),())))) .d) (.k (.inr sum))
def zD5 (zr:At->yG->Bool×(yC×Int)) (x:zpp) (y:zph):=ztV zr x.1.1.1 x.2.2.1 x.2.2.2.1 x.2.2.2.2.1 y.1
def zt7 (zr:At->yG->Bool×(yC×Int)) (n:Nat) (to:yG) (t16:yC) (t17:Int) (t18:Int) (sum:yC):=zC (zD5 zr) (.inl default) n (((to,()),()),(),t16,t17,t18,()) (sum,())
def zPV (r:zFI):LTree ty:=.ite (isL r) (.done .ret [.lit (.slice none 0 0),.lit (.int .i64 (getL r))] []) (.done (.exit 0) [.own 272] [.arr 28 (getR r) false])
def zQq:LL ty zpp:=za (lFn 84 (za (zoD (za (lSl 51) zl) 0) zl)) (za (zds 272) (za (lSl 28) (za zj (za zj zl))))
def zQv:BL ty zph:=zdw 28 false (zbe)
def zNd (x:zpE) (y:zfa):Nat:=(x.1.1.1.length+x.2.2.2.1.length+Int.toNat x.2.2.2.2.1+x.2.2.2.2.2.1.length+Int.toNat x.2.2.2.2.2.2.1+Int.toNat x.2.2.2.2.2.2.2.1+x.2.2.2.2.2.2.2.2.1.length+Int.toNat x.2.2.2.2.2.2.2.2.2.1+Int.toNat x.2.2.2.2.2.2.2.2.2.2.1+Int.toNat x.2.2.2.2.2.2.2.2.2.2.2.1+Int.toNat x.2.2.2.2.2.2.2.2.2.2.2.2.1+y.1.length+y.2.1.length+1)
def zOm (x:zpz) (y:zfa):Nat:=(x.1.1.1.length+x.2.2.2.1.length+Int.toNat x.2.2.2.2.1+Int.toNat x.2.2.2.2.2.1+x.2.2.2.2.2.2.1.length+Int.toNat x.2.2.2.2.2.2.2.1+Int.toNat x.2.2.2.2.2.2.2.2.1+y.1.length+y.2.1.length+1)
def zPY (x:zpp) (y:zph):Nat:=(x.1.1.1.length+x.2.2.1.length+Int.toNat x.2.2.2.1+Int.toNat x.2.2.2.2.1+y.1.length+1)
def zne (zr:At->yG->Bool×(yC×Int)):=zb3 zb2 68 [(23,zIq),(84,ziw),(92,zIy),(149,zFJ),(150,(zl8 zr))] [] [(3,[(1,.keep),(6,.own 28),(16,.keep),(17,.keep),(18,.keep)]),(7,(kpL [1,6,9,16,17,18,26,27,28])),(11,[(1,.keep),(6,.keep),(9,.keep),(12,.sl 28),(13,.keep),(16,.keep),(17,.keep),(18,.keep),(26,.keep),(27,.keep),(28,.keep),(40,.keep),(41,.keep)])] [(3,1,(kpL [6])),(3,0,(kpL [4,5])),(7,3,(kpL [1,6,9,16,17,18])),(7,0,(kpL [4,5])),(11,5,(kpL [1,6,9,13,16,17,18,26,27,28]))] [(11,spW zPg zPF (zCW zr) default zNE zNd),(7,spW zQR zPF (zDR zr) (.inl default) zPf zOm),(3,spW zQq zQv (zD5 zr) (.inl default) zPV zPY)] []
theorem zNz (zr:At->yG->Bool×(yC×Int)):zF (zne zr) (lp (body f83) 2):=zq (id:=11) (hl:=rfl)
theorem zPp (zr:At->yG->Bool×(yC×Int)):zF (zne zr) (lp (body f83) 1):=zq (id:=7) (hl:=rfl)
theorem zPC (zr:At->yG->Bool×(yC×Int)):zF (zne zr) (lp (body f83) 0):=zq (id:=3) (hl:=rfl)
def zEX (zr:At->yG->Bool×(yC×Int)) (a:yC) (to:yG):Wy0 (yC×Int):=.bn (zt7 zr (to.length+a.length+(Int.ofNat a.length).toNat +Int.toNat 0+0+1) to a (Int.ofNat a.length) 0 []) λr18=>.i (isL r18) (.k ([],getL r18)) (.k (getR r18,0))
def zmo (zr:At->yG->Bool×(yC×Int)) (a:yC) (to:yG):=(zEX zr a to).fin default
theorem zMt (zr:At->yG->Bool×(yC×Int)) (zMf:Sound Tryz.prog zb2 150 (zl8 zr)):Sound Tryz.prog zb2 83 (zmx (zmo zr)):=
 sU (cx':=(zne zr)) (zk ⟨zVv,zmy.nodr,zWC,zSX.nodr,zMf,trivial⟩) call83 func83 (lOK (aC (zPC zr) (aC (zPp zr) (aC (zNz zr) aN)))) (sg:=⟨[.own 28,.pure],[]⟩)
def z2M:=zbt base 3 []
def z5h:Wy0 (yC):=.k [TO.mk 1 []]
def zxb:Bool×yC:=(z5h).fin default
def zsX:=zi zR4 λx=>((zxb ).1,zSe (zxb ).2)
theorem zzc:SdP 36 zsX:=
 sT (cx':=z2M) (zk trivial) call36 func36 (lOK aN) (sg:=⟨[.own 28],[]⟩)
def zVT:=zbt base 23 [(20,zce),(36,zsX),(70,zfj),(131,zoV),(152,zhp)]
def zIB (a:yC):Wy0 (yC×Int):=.bn (zbZ a) λr2=>.i (!r2) (.k ([],1)) (.i (Int.ofNat a.length==0) (.k (zxb.2,0)) (.bn (zfE a) λr1=>.i (r1) (.k ([],0)) (.bn (zeW (zf8 (At.mk 3 (RowID.mk 0 0) [a] 0 [] 0 (Value.mk 0 0 (ByteArray.mk #[])))).2) λr0=>.k (r0.1,r0.2))))
def zqk (a:yC):=(zIB a).fin default
def zES:=zi zZJ λx=>((zqk x.1).1,zR6 (zqk x.1).2)
theorem zQA:SdP 179 zES:=
 sT (cx':=zVT) (zk ⟨zcg,zzc,zgn,zw3,zj1,trivial⟩) call179 func179 (lOK aN) (sg:=⟨[.own 28,.pure],[]⟩)
def zYa:=zbt base 29 [(20,zce),(36,zsX),(70,zfj),(87,zhv),(129,zpI),(130,zvv),(152,zhp)]
def zKc (a:yC):Wy0 (yC×Int):=.bn (zbZ a) λr5=>.i (!r5) (.k ([],1)) (.i (Int.ofNat a.length==0) (.bn (zhz a) λr0=>.k (r0,0)) (.bn (zmI a) λr4=>.i (r4) (.bn (zhz a) λr1=>.k (r1,0)) (.bn (zit a) λr3=>.i (r3) (.k (zxb.2,0)) (.bn (zeW (zf8 (At.mk 2 (RowID.mk 0 0) [a] 0 [] 0 (Value.mk 0 0 (ByteArray.mk #[])))).2) λr2=>.k (r2.1,r2.2)))))
def zsJ (a:yC):=(zKc a).fin default
def zFU:=zi zZJ λx=>((zsJ x.1).1,zR6 (zsJ x.1).2)
theorem zSQ:SdP 178 zFU:=
 sT (cx':=zYa) (zk ⟨zcg,zzc,zgn,zjS,zyB,zD1,zj1,trivial⟩) call178 func178 (lOK aN) (sg:=⟨[.own 28,.pure],[]⟩)
def zX0:=zbt base 38 [(20,zce),(21,zii),(70,zfj),(87,zhv),(152,zhp)]
def zKA (a:yC) (b:yC):Wy0 (yC×Int):=.bn (zbZ a) λr4=>.i (!r4) (.k ([],1)) (.bn (zbZ b) λr3=>.i (!r3) (.k ([],1)) (.i (Int.ofNat b.length==0) (.bn (zhz a) λr0=>.k (r0,0)) (.i (Int.ofNat a.length==0) (.k ([],0)) (.bn (ze7 a b) λr2=>.i (r2) (.k ([],0)) (.bn (zeW (zf8 (At.mk 1 (RowID.mk 0 0) [a,b] 0 [] 0 (Value.mk 0 0 (ByteArray.mk #[])))).2) λr1=>.k (r1.1,r1.2))))))
def zr3 (a:yC) (b:yC):=(zKA a b).fin default
def zFS:=zi z6l λx=>((zr3 x.1 x.2.1).1,zR6 (zr3 x.1 x.2.1).2)
theorem zSv:SdP 177 zFS:=
 sT (cx':=zX0) (zk ⟨zcg,zkI,zgn,zjS,zj1,trivial⟩) call177 func177 (lOK aN) (sg:=⟨[.own 28,.pure],[]⟩)
def zzQ (r:yE):ARes ty:=⟨[],[some ⟨100,r⟩]⟩
def zBY:AL base (yE×Int×Int×Int×Unit×Unit):=ze (zrf 100) (ze (zf (znO .i64)) (ze (zf (znO .i64)) (ze (zf (znO .i64)) (ze (zf (vFn 124 zb7)) zu))))
def zd0 (F:yE->Int->Int->Int->Bool×yE):Ab.Spec ty:=zi zBY λx=>((F x.1 x.2.1 x.2.2.1 x.2.2.2.1).1,zzQ (F x.1 x.2.1 x.2.2.1 x.2.2.2.1).2)
abbrev zff:=Unit×Int×Int×Int×Int×Unit
abbrev zfg:=yE×Unit
def zdy (a:Int) (b:Int) (n_:Int) (i:Int) (data:yE):Wy zff zfg (yE):=.i (decide (i<n_)) (.i (decide (0<=IntKind.i64.wrap (b+i))&&decide (IntKind.i64.wrap (b+i)<Int.ofNat data.length)) (.i (decide (0<=IntKind.i64.wrap (a+i))&&decide (IntKind.i64.wrap (a+i)<Int.ofNat data.length)) (.i (decide (0<=IntKind.i64.wrap (a+i))&&decide (IntKind.i64.wrap (a+i)<Int.ofNat data.length)) (.i (decide ((IntKind.i64.wrap (a+i)).toNat<data.length)) (.i (decide (0<=IntKind.i64.wrap (b+i))&&decide (IntKind.i64.wrap (b+i)<Int.ofNat (data.set (IntKind.i64.wrap (a+i)).toNat (data.getD (IntKind.i64.wrap (b+i)).toNat default)).length)) (.i (decide ((IntKind.i64.wrap (b+i)).toNat<(data.set (IntKind.i64.wrap (a+i)).toNat (data.getD (IntKind.i64.wrap (b+i)).toNat default)).length)) (.h ((),a,b,n_,(IntKind.i64.wrap (i+1)),()) (((data.set (IntKind.i64.wrap (a+i)).toNat (data.getD (IntKind.i64.wrap (b+i)).toNat default)).set (IntKind.i64.wrap (b+i)).toNat (data.getD (IntKind.i64.wrap (a+i)).toNat default)),())) .d) .d) .d) .d) .d) .d) (.k data)
def zhg (x:zff) (y:zfg):=zdy x.2.1 x.2.2.1 x.2.2.2.1 x.2.2.2.2.1 y.1
def zmO (n:Nat) (a:Int) (b:Int) (n_:Int) (i:Int) (data:yE):=zC (zhg) default n ((),a,b,n_,i,()) (data,())
def zzx (r:yE):LTree ty:=.done (.exit 0) [.own 152] [.arr 100 r false]
def zAu:LL ty zff:=za (zds 152) (za zj (za zj (za zj (za zj zl))))
def zAl:BL ty zfg:=zdw 100 false (zbe)
def zzn (x:zff) (y:zfg):Nat:=(Int.toNat x.2.1+Int.toNat x.2.2.1+Int.toNat x.2.2.2.1+Int.toNat x.2.2.2.2.1+y.1.length+1000)
def zmN:=zb3 base 38 [(124,zch)] [] [(1,(kpL [0,1,2,3,10]))] [(1,1,(kpL [0]))] [(1,spW zAu zAl (zhg) default zzx zzn)] []
theorem zzl:zF zmN (lp (body f299) 0):=zq (id:=1) (hl:=rfl)
def znu (data:yE) (a:Int) (b:Int) (n_:Int):Wy0 (yE):=.bn (zmO (a.toNat +b.toNat +n_.toNat +Int.toNat 0+data.length+1000) a b n_ 0 data) λr0=>.k r0
def zcr (data:yE) (a:Int) (b:Int) (n_:Int):=(znu data a b n_).fin default
def zAX:AL base (yE×Int×Int×Int×Unit×Unit):=ze (zrf 100) (ze (zf zfl) (ze (zf zfl) (ze (zf zfl) (ze (zf (vFn 124 zb7)) zu))))
def zlO:=zi zAX λx=>((zcr x.1 x.2.1 x.2.2.1 x.2.2.2.1).1,zzQ (zcr x.1 x.2.1 x.2.2.1 x.2.2.2.1).2)
theorem zwS:SdP 299 zlO:=
 sT (cx':=zmN) (zk ⟨zcq,trivial⟩) call299 func299 (lOK (aC zzl aN)) (sg:=⟨[],[true]⟩)
abbrev zf3:=Unit×Int×Unit×Int×Int×Unit
abbrev zga:=yE×Unit
abbrev zqb:=Int×Int×yE
def ziT (m:Int) (i:Int) (j:Int) (data:yE):Wy zf3 zga zqb:=.i (i != j) (.i (decide (i>j)) (.bn (zcr data (IntKind.i64.wrap (m - i)) m j) λr0=>.h ((),m,(),(IntKind.i64.wrap (i - j)),j,()) ((r0),())) (.bn (zcr data (IntKind.i64.wrap (m - i)) (IntKind.i64.wrap (IntKind.i64.wrap (m+j) - i)) i) λr1=>.h ((),m,(),i,(IntKind.i64.wrap (j - i)),()) ((r1),()))) (.k (m,i,data))
def zoX (x:zf3) (y:zga):=ziT x.2.1 x.2.2.2.1 x.2.2.2.2.1 y.1
def zi2 (n:Nat) (m:Int) (i:Int) (j:Int) (data:yE):=zC (zoX) default n ((),m,(),i,j,()) (data,())
def zBR (r:zqb):LTree ty:=.done (.exit 0) [.own 232,.lit (.int .i64 r.1),.fn 124 ([]),.lit (.int .i64 r.2.1)] [.arr 100 r.2.2 false]
def zCu:LL ty zf3:=za (zds 232) (za zj (za (lFn 124 (zl)) (za zj (za zj zl))))
def zB9:BL ty zga:=zdw 100 false (zbe)
def zBM (x:zf3) (y:zga):Nat:=(Int.toNat x.2.1+Int.toNat x.2.2.2.1+Int.toNat x.2.2.2.2.1+y.1.length+1000)
def zoI:=zb3 base 58 [(124,zch),(299,zlO)] [(299,[true,false,false,false,false])] [(2,(kpL [0,2,4,10,11]))] [(2,1,(kpL [0,2,4,10]))] [(2,spW zCu zB9 (zoX) default zBR zBM)] []
theorem zB1:zF zoI (lp (body f293) 0):=zq (id:=2) (hl:=rfl)
def zpA (data:yE) (a:Int) (m:Int) (b:Int):Wy0 (yE):=.bn (zi2 (m.toNat +(IntKind.i64.wrap (m - a)).toNat +(IntKind.i64.wrap (b - m)).toNat +data.length+1000) m (IntKind.i64.wrap (m - a)) (IntKind.i64.wrap (b - m)) data) λr5=>.bn (zcr r5.2.2 (IntKind.i64.wrap (r5.1 - r5.2.1)) r5.1 r5.2.1) λr4=>.k r4
def zcR (data:yE) (a:Int) (m:Int) (b:Int):=(zpA data a m b).fin default
def znD:=zi zAX λx=>((zcR x.1 x.2.1 x.2.2.1 x.2.2.2.1).1,zzQ (zcR x.1 x.2.1 x.2.2.1 x.2.2.2.1).2)
theorem zzR:SdP 293 znD:=
 sT (cx':=zoI) (zk ⟨zcq,zwS,trivial⟩) call293 func293 (lOK (aC zB1 aN)) (sg:=⟨[],[true]⟩)
abbrev zca:=Unit×Int×Unit×Int×Int×Unit
abbrev zG:=yE×Unit
abbrev zfy:=Int×Int×yE
abbrev zb8:=Unit×Int×Int×Unit
abbrev zfz:=Unit×Int×Int×Int×Unit×Int×Int×Int×Int×Int×Unit
abbrev zo6:=Int×Int×Int×Int×Int×Int×yE
def zg0 (zb:yE->Int->Int->Int->Bool×yE) (a:Int) (i:Int) (j:Int) (data:yE):Wy zca zG zfy:=.i (decide (i<j)) (.i (decide (0<=IntKind.i64.wrap ((IntKind.u64.wrap (IntKind.i64.wrap (i+j))).fdiv (2 ^ min (Int.toNat 1) IntKind.u64.bits)))&&decide (IntKind.i64.wrap ((IntKind.u64.wrap (IntKind.i64.wrap (i+j))).fdiv (2 ^ min (Int.toNat 1) IntKind.u64.bits))<Int.ofNat data.length)) (.i (decide (0<=a)&&decide (a<Int.ofNat data.length)) (.bn (zbQ (data.getD (IntKind.i64.wrap ((IntKind.u64.wrap (IntKind.i64.wrap (i+j))).fdiv (2 ^ min (Int.toNat 1) IntKind.u64.bits))).toNat default) (data.getD a.toNat default)) λr0=>.i (decide (r0<0)) (.h ((),a,(),(IntKind.i64.wrap (IntKind.i64.wrap ((IntKind.u64.wrap (IntKind.i64.wrap (i+j))).fdiv (2 ^ min (Int.toNat 1) IntKind.u64.bits))+1)),j,()) (data,())) (.h ((),a,(),i,(IntKind.i64.wrap ((IntKind.u64.wrap (IntKind.i64.wrap (i+j))).fdiv (2 ^ min (Int.toNat 1) IntKind.u64.bits))),()) (data,()))) .d) .d) (.k (a,i,data))
def zl1 (zb:yE->Int->Int->Int->Bool×yE) (x:zca) (y:zG):=zg0 zb x.2.1 x.2.2.2.1 x.2.2.2.2.1 y.1
def zgV (zb:yE->Int->Int->Int->Bool×yE) (n:Nat) (a:Int) (i:Int) (j:Int) (data:yE):=zC (zl1 zb) default n ((),a,(),i,j,()) (data,())
def zyi (r:zfy):LTree ty:=.done (.exit 0) [.own 880,.lit (.int .i64 r.1),.lit (.int .i64 r.2.1)] [.arr 100 r.2.2 false]
def zy5:LL ty zca:=za (zds 880) (za zj (za (lFn 124 (zl)) (za zj (za zj zl))))
def zyX:BL ty zG:=zdw 100 false (zbe)
def zg6 (zb:yE->Int->Int->Int->Bool×yE) (i:Int) (k:Int) (data:yE):Wy zb8 zG (yE):=.i (decide (k<IntKind.i64.wrap (i - 1))) (.i (decide (0<=IntKind.i64.wrap (k+1))&&decide (IntKind.i64.wrap (k+1)<Int.ofNat data.length)) (.i (decide (0<=k)&&decide (k<Int.ofNat data.length)) (.i (decide (0<=k)&&decide (k<Int.ofNat data.length)) (.i (decide (k.toNat<data.length)) (.i (decide (0<=IntKind.i64.wrap (k+1))&&decide (IntKind.i64.wrap (k+1)<Int.ofNat (data.set k.toNat (data.getD (IntKind.i64.wrap (k+1)).toNat default)).length)) (.i (decide ((IntKind.i64.wrap (k+1)).toNat<(data.set k.toNat (data.getD (IntKind.i64.wrap (k+1)).toNat default)).length)) (.h ((),i,(IntKind.i64.wrap (k+1)),()) (((data.set k.toNat (data.getD (IntKind.i64.wrap (k+1)).toNat default)).set (IntKind.i64.wrap (k+1)).toNat (data.getD k.toNat default)),())) .d) .d) .d) .d) .d) .d) (.k data)
def zmj (zb:yE->Int->Int->Int->Bool×yE) (x:zb8) (y:zG):=zg6 zb x.2.1 x.2.2.1 y.1
def zeS (zb:yE->Int->Int->Int->Bool×yE) (n:Nat) (i:Int) (k:Int) (data:yE):=zC (zmj zb) default n ((),i,k,()) (data,())
def zyv (r:yE):LTree ty:=.done (.exit 2) [.own 880] [.arr 100 r false]
def zzi:LL ty zb8:=za (zds 880) (za zj (za zj zl))
def zgC (zb:yE->Int->Int->Int->Bool×yE) (m:Int) (i:Int) (j:Int) (data:yE):Wy zca zG zfy:=.i (decide (i<j)) (.i (decide (0<=m)&&decide (m<Int.ofNat data.length)) (.i (decide (0<=IntKind.i64.wrap ((IntKind.u64.wrap (IntKind.i64.wrap (i+j))).fdiv (2 ^ min (Int.toNat 1) IntKind.u64.bits)))&&decide (IntKind.i64.wrap ((IntKind.u64.wrap (IntKind.i64.wrap (i+j))).fdiv (2 ^ min (Int.toNat 1) IntKind.u64.bits))<Int.ofNat data.length)) (.bn (zbQ (data.getD m.toNat default) (data.getD (IntKind.i64.wrap ((IntKind.u64.wrap (IntKind.i64.wrap (i+j))).fdiv (2 ^ min (Int.toNat 1) IntKind.u64.bits))).toNat default)) λr2=>.i (!decide (r2<0)) (.h ((),m,(),(IntKind.i64.wrap (IntKind.i64.wrap ((IntKind.u64.wrap (IntKind.i64.wrap (i+j))).fdiv (2 ^ min (Int.toNat 1) IntKind.u64.bits))+1)),j,()) (data,())) (.h ((),m,(),i,(IntKind.i64.wrap ((IntKind.u64.wrap (IntKind.i64.wrap (i+j))).fdiv (2 ^ min (Int.toNat 1) IntKind.u64.bits))),()) (data,()))) .d) .d) (.k (m,i,data))
def zlU (zb:yE->Int->Int->Int->Bool×yE) (x:zca) (y:zG):=zgC zb x.2.1 x.2.2.2.1 x.2.2.2.2.1 y.1
def zgE (zb:yE->Int->Int->Int->Bool×yE) (n:Nat) (m:Int) (i:Int) (j:Int) (data:yE):=zC (zlU zb) default n ((),m,(),i,j,()) (data,())
def zxS (r:zfy):LTree ty:=.done (.exit 4) [.own 880,.lit (.int .i64 r.1),.lit (.int .i64 r.2.1)] [.arr 100 r.2.2 false]
def zgA (zb:yE->Int->Int->Int->Bool×yE) (i:Int) (k:Int) (data:yE):Wy zb8 zG (yE):=.i (decide (k>i)) (.i (decide (0<=IntKind.i64.wrap (k - 1))&&decide (IntKind.i64.wrap (k - 1)<Int.ofNat data.length)) (.i (decide (0<=k)&&decide (k<Int.ofNat data.length)) (.i (decide (0<=k)&&decide (k<Int.ofNat data.length)) (.i (decide (k.toNat<data.length)) (.i (decide (0<=IntKind.i64.wrap (k - 1))&&decide (IntKind.i64.wrap (k - 1)<Int.ofNat (data.set k.toNat (data.getD (IntKind.i64.wrap (k - 1)).toNat default)).length)) (.i (decide ((IntKind.i64.wrap (k - 1)).toNat<(data.set k.toNat (data.getD (IntKind.i64.wrap (k - 1)).toNat default)).length)) (.h ((),i,(IntKind.i64.wrap (k - 1)),()) (((data.set k.toNat (data.getD (IntKind.i64.wrap (k - 1)).toNat default)).set (IntKind.i64.wrap (k - 1)).toNat (data.getD k.toNat default)),())) .d) .d) .d) .d) .d) .d) (.k data)
def zlQ (zb:yE->Int->Int->Int->Bool×yE) (x:zb8) (y:zG):=zgA zb x.2.1 x.2.2.1 y.1
def zeB (zb:yE->Int->Int->Int->Bool×yE) (n:Nat) (i:Int) (k:Int) (data:yE):=zC (zlQ zb) default n ((),i,k,()) (data,())
def zx0 (r:yE):LTree ty:=.done (.exit 6) [.own 880] [.arr 100 r false]
def zgF (zb:yE->Int->Int->Int->Bool×yE) (a:Int) (m:Int) (b:Int) (mid:Int) (n_:Int) (start:Int) (r:Int) (p:Int) (data:yE):Wy zfz zG zo6:=.i (decide (start<r)) (.i (decide (0<=IntKind.i64.wrap (p - IntKind.i64.wrap ((IntKind.u64.wrap (IntKind.i64.wrap (start+r))).fdiv (2 ^ min (Int.toNat 1) IntKind.u64.bits))))&&decide (IntKind.i64.wrap (p - IntKind.i64.wrap ((IntKind.u64.wrap (IntKind.i64.wrap (start+r))).fdiv (2 ^ min (Int.toNat 1) IntKind.u64.bits)))<Int.ofNat data.length)) (.i (decide (0<=IntKind.i64.wrap ((IntKind.u64.wrap (IntKind.i64.wrap (start+r))).fdiv (2 ^ min (Int.toNat 1) IntKind.u64.bits)))&&decide (IntKind.i64.wrap ((IntKind.u64.wrap (IntKind.i64.wrap (start+r))).fdiv (2 ^ min (Int.toNat 1) IntKind.u64.bits))<Int.ofNat data.length)) (.bn (zbQ (data.getD (IntKind.i64.wrap (p - IntKind.i64.wrap ((IntKind.u64.wrap (IntKind.i64.wrap (start+r))).fdiv (2 ^ min (Int.toNat 1) IntKind.u64.bits)))).toNat default) (data.getD (IntKind.i64.wrap ((IntKind.u64.wrap (IntKind.i64.wrap (start+r))).fdiv (2 ^ min (Int.toNat 1) IntKind.u64.bits))).toNat default)) λr4=>.i (!decide (r4<0)) (.h ((),a,m,b,(),mid,n_,(IntKind.i64.wrap (IntKind.i64.wrap ((IntKind.u64.wrap (IntKind.i64.wrap (start+r))).fdiv (2 ^ min (Int.toNat 1) IntKind.u64.bits))+1)),r,p,()) (data,())) (.h ((),a,m,b,(),mid,n_,start,(IntKind.i64.wrap ((IntKind.u64.wrap (IntKind.i64.wrap (start+r))).fdiv (2 ^ min (Int.toNat 1) IntKind.u64.bits))),p,()) (data,()))) .d) .d) (.k (a,m,b,mid,n_,start,data))
def zlS (zb:yE->Int->Int->Int->Bool×yE) (x:zfz) (y:zG):=zgF zb x.2.1 x.2.2.1 x.2.2.2.1 x.2.2.2.2.2.1 x.2.2.2.2.2.2.1 x.2.2.2.2.2.2.2.1 x.2.2.2.2.2.2.2.2.1 x.2.2.2.2.2.2.2.2.2.1 y.1
def zeC (zb:yE->Int->Int->Int->Bool×yE) (n:Nat) (a:Int) (m:Int) (b:Int) (mid:Int) (n_:Int) (start:Int) (r:Int) (p:Int) (data:yE):=zC (zlS zb) default n ((),a,m,b,(),mid,n_,start,r,p,()) (data,())
def zxI (r:zo6):LTree ty:=.done (.exit 8) [.own 880,.lit (.int .i64 r.1),.lit (.int .i64 r.2.1),.lit (.int .i64 r.2.2.1),.fn 124 ([]),.lit (.int .i64 r.2.2.2.1),.lit (.int .i64 r.2.2.2.2.1),.lit (.int .i64 r.2.2.2.2.2.1)] [.arr 100 r.2.2.2.2.2.2 false]
def zx2:LL ty zfz:=za (zds 880) (za zj (za zj (za zj (za (lFn 124 (zl)) (za zj (za zj (za zj (za zj (za zj zl)))))))))
def zyc (x:zca) (y:zG):Nat:=(Int.toNat x.2.1+Int.toNat x.2.2.2.1+Int.toNat x.2.2.2.2.1+y.1.length+1000)
def zx3 (x:zb8) (y:zG):Nat:=(Int.toNat x.2.1+Int.toNat x.2.2.1+y.1.length+1000)
def zxA (x:zfz) (y:zG):Nat:=(Int.toNat x.2.1+Int.toNat x.2.2.1+Int.toNat x.2.2.2.1+Int.toNat x.2.2.2.2.2.1+Int.toNat x.2.2.2.2.2.2.1+Int.toNat x.2.2.2.2.2.2.2.1+Int.toNat x.2.2.2.2.2.2.2.2.1+Int.toNat x.2.2.2.2.2.2.2.2.2.1+y.1.length+1000)
def zcw (zb:yE->Int->Int->Int->Bool×yE):=zb3 base 220 [(124,zch),(282,(zd0 zb)),(293,znD)] [(282,[true,false,false,false,false]),(293,[true,false,false,false,false])] [(3,(kpL [0,1,4,10,11])),(9,(kpL [0,10,13])),(15,(kpL [0,2,4,14,15])),(21,(kpL [0,14,17])),(33,(kpL [0,1,2,3,4,18,19,20,21,22]))] [(3,1,(kpL [0,1,10])),(9,3,(kpL [0])),(15,5,(kpL [0,2,14])),(21,7,(kpL [0])),(33,9,(kpL [0,1,2,3,4,18,19,20]))] [(3,spW zy5 zyX (zl1 zb) default zyi zyc),(9,spW zzi zyX (zmj zb) default zyv zx3),(15,spW zy5 zyX (zlU zb) default zxS zyc),(21,spW zzi zyX (zlQ zb) default zx0 zx3),(33,spW zx2 zyX (zlS zb) default zxI zxA)] []
theorem zyq (zb:yE->Int->Int->Int->Bool×yE):zF (zcw zb) (lp (body f282) 0):=zq (id:=3) (hl:=rfl)
theorem zyj (zb:yE->Int->Int->Int->Bool×yE):zF (zcw zb) (lp (body f282) 1):=zq (id:=9) (hl:=rfl)
theorem zwP (zb:yE->Int->Int->Int->Bool×yE):zF (zcw zb) (lp (body f282) 2):=zq (id:=15) (hl:=rfl)
theorem zxN (zb:yE->Int->Int->Int->Bool×yE):zF (zcw zb) (lp (body f282) 3):=zq (id:=21) (hl:=rfl)
theorem zxK (zb:yE->Int->Int->Int->Bool×yE):zF (zcw zb) (lp (body f282) 4):=zq (id:=33) (hl:=rfl)
def zmR (zb:yE->Int->Int->Int->Bool×yE) (data:yE) (a:Int) (m:Int) (b:Int):Wy0 (yE):=.i (IntKind.i64.wrap (m - a)==1) (.bn (zgV zb (a.toNat +m.toNat +b.toNat +data.length+1000) a m b data) λr7=>.bn (zeS zb (r7.2.1.toNat +r7.1.toNat +r7.2.2.length+1000) r7.2.1 r7.1 r7.2.2) λr6=>.k r6) (.i (IntKind.i64.wrap (b - m)==1) (.bn (zgE zb (m.toNat +a.toNat +m.toNat +data.length+1000) m a m data) λr9=>.bn (zeB zb (r9.2.1.toNat +r9.1.toNat +r9.2.2.length+1000) r9.2.1 r9.1 r9.2.2) λr8=>.k r8) (.i (decide (m>IntKind.i64.wrap ((IntKind.u64.wrap (IntKind.i64.wrap (a+b))).fdiv (2 ^ min (Int.toNat 1) IntKind.u64.bits)))) (.bn (zeC zb (a.toNat +m.toNat +b.toNat +(IntKind.i64.wrap ((IntKind.u64.wrap (IntKind.i64.wrap (a+b))).fdiv (2 ^ min (Int.toNat 1) IntKind.u64.bits))).toNat +(IntKind.i64.wrap (IntKind.i64.wrap ((IntKind.u64.wrap (IntKind.i64.wrap (a+b))).fdiv (2 ^ min (Int.toNat 1) IntKind.u64.bits))+m)).toNat +(IntKind.i64.wrap (IntKind.i64.wrap (IntKind.i64.wrap ((IntKind.u64.wrap (IntKind.i64.wrap (a+b))).fdiv (2 ^ min (Int.toNat 1) IntKind.u64.bits))+m) - b)).toNat +(IntKind.i64.wrap ((IntKind.u64.wrap (IntKind.i64.wrap (a+b))).fdiv (2 ^ min (Int.toNat 1) IntKind.u64.bits))).toNat +(IntKind.i64.wrap (IntKind.i64.wrap (IntKind.i64.wrap ((IntKind.u64.wrap (IntKind.i64.wrap (a+b))).fdiv (2 ^ min (Int.toNat 1) IntKind.u64.bits))+m) - 1)).toNat +data.length+1000) a m b (IntKind.i64.wrap ((IntKind.u64.wrap (IntKind.i64.wrap (a+b))).fdiv (2 ^ min (Int.toNat 1) IntKind.u64.bits))) (IntKind.i64.wrap (IntKind.i64.wrap ((IntKind.u64.wrap (IntKind.i64.wrap (a+b))).fdiv (2 ^ min (Int.toNat 1) IntKind.u64.bits))+m)) (IntKind.i64.wrap (IntKind.i64.wrap (IntKind.i64.wrap ((IntKind.u64.wrap (IntKind.i64.wrap (a+b))).fdiv (2 ^ min (Int.toNat 1) IntKind.u64.bits))+m) - b)) (IntKind.i64.wrap ((IntKind.u64.wrap (IntKind.i64.wrap (a+b))).fdiv (2 ^ min (Int.toNat 1) IntKind.u64.bits))) (IntKind.i64.wrap (IntKind.i64.wrap (IntKind.i64.wrap ((IntKind.u64.wrap (IntKind.i64.wrap (a+b))).fdiv (2 ^ min (Int.toNat 1) IntKind.u64.bits))+m) - 1)) data) λr23=>.i (decide (r23.2.2.2.2.2.1<r23.2.1)) (.i (decide (r23.2.1<IntKind.i64.wrap (r23.2.2.2.2.1 - r23.2.2.2.2.2.1))) (.bn (zcR r23.2.2.2.2.2.2 r23.2.2.2.2.2.1 r23.2.1 (IntKind.i64.wrap (r23.2.2.2.2.1 - r23.2.2.2.2.2.1))) λr14=>.i (decide (r23.1<r23.2.2.2.2.2.1)) (.i (decide (r23.2.2.2.2.2.1<r23.2.2.2.1)) (.bn (zb r14 r23.1 r23.2.2.2.2.2.1 r23.2.2.2.1) λr11=>.i (decide (r23.2.2.2.1<IntKind.i64.wrap (r23.2.2.2.2.1 - r23.2.2.2.2.2.1))) (.i (decide (IntKind.i64.wrap (r23.2.2.2.2.1 - r23.2.2.2.2.2.1)<r23.2.2.1)) (.bn (zb r11 r23.2.2.2.1 (IntKind.i64.wrap (r23.2.2.2.2.1 - r23.2.2.2.2.2.1)) r23.2.2.1) λr10=>.k r10) (.k r11)) (.k r11)) (.i (decide (r23.2.2.2.1<IntKind.i64.wrap (r23.2.2.2.2.1 - r23.2.2.2.2.2.1))) (.i (decide (IntKind.i64.wrap (r23.2.2.2.2.1 - r23.2.2.2.2.2.1)<r23.2.2.1)) (.bn (zb r14 r23.2.2.2.1 (IntKind.i64.wrap (r23.2.2.2.2.1 - r23.2.2.2.2.2.1)) r23.2.2.1) λr12=>.k r12) (.k r14)) (.k r14))) (.i (decide (r23.2.2.2.1<IntKind.i64.wrap (r23.2.2.2.2.1 - r23.2.2.2.2.2.1))) (.i (decide (IntKind.i64.wrap (r23.2.2.2.2.1 - r23.2.2.2.2.2.1)<r23.2.2.1)) (.bn (zb r14 r23.2.2.2.1 (IntKind.i64.wrap (r23.2.2.2.2.1 - r23.2.2.2.2.2.1)) r23.2.2.1) λr13=>.k r13) (.k r14)) (.k r14))) (.i (decide (r23.1<r23.2.2.2.2.2.1)) (.i (decide (r23.2.2.2.2.2.1<r23.2.2.2.1)) (.bn (zb r23.2.2.2.2.2.2 r23.1 r23.2.2.2.2.2.1 r23.2.2.2.1) λr16=>.i (decide (r23.2.2.2.1<IntKind.i64.wrap (r23.2.2.2.2.1 - r23.2.2.2.2.2.1))) (.i (decide (IntKind.i64.wrap (r23.2.2.2.2.1 - r23.2.2.2.2.2.1)<r23.2.2.1)) (.bn (zb r16 r23.2.2.2.1 (IntKind.i64.wrap (r23.2.2.2.2.1 - r23.2.2.2.2.2.1)) r23.2.2.1) λr15=>.k r15) (.k r16)) (.k r16)) (.i (decide (r23.2.2.2.1<IntKind.i64.wrap (r23.2.2.2.2.1 - r23.2.2.2.2.2.1))) (.i (decide (IntKind.i64.wrap (r23.2.2.2.2.1 - r23.2.2.2.2.2.1)<r23.2.2.1)) (.bn (zb r23.2.2.2.2.2.2 r23.2.2.2.1 (IntKind.i64.wrap (r23.2.2.2.2.1 - r23.2.2.2.2.2.1)) r23.2.2.1) λr17=>.k r17) (.k r23.2.2.2.2.2.2)) (.k r23.2.2.2.2.2.2))) (.i (decide (r23.2.2.2.1<IntKind.i64.wrap (r23.2.2.2.2.1 - r23.2.2.2.2.2.1))) (.i (decide (IntKind.i64.wrap (r23.2.2.2.2.1 - r23.2.2.2.2.2.1)<r23.2.2.1)) (.bn (zb r23.2.2.2.2.2.2 r23.2.2.2.1 (IntKind.i64.wrap (r23.2.2.2.2.1 - r23.2.2.2.2.2.1)) r23.2.2.1) λr18=>.k r18) (.k r23.2.2.2.2.2.2)) (.k r23.2.2.2.2.2.2)))) (.i (decide (r23.1<r23.2.2.2.2.2.1)) (.i (decide (r23.2.2.2.2.2.1<r23.2.2.2.1)) (.bn (zb r23.2.2.2.2.2.2 r23.1 r23.2.2.2.2.2.1 r23.2.2.2.1) λr20=>.i (decide (r23.2.2.2.1<IntKind.i64.wrap (r23.2.2.2.2.1 - r23.2.2.2.2.2.1))) (.i (decide (IntKind.i64.wrap (r23.2.2.2.2.1 - r23.2.2.2.2.2.1)<r23.2.2.1)) (.bn (zb r20 r23.2.2.2.1 (IntKind.i64.wrap (r23.2.2.2.2.1 - r23.2.2.2.2.2.1)) r23.2.2.1) λr19=>.k r19) (.k r20)) (.k r20)) (.i (decide (r23.2.2.2.1<IntKind.i64.wrap (r23.2.2.2.2.1 - r23.2.2.2.2.2.1))) (.i (decide (IntKind.i64.wrap (r23.2.2.2.2.1 - r23.2.2.2.2.2.1)<r23.2.2.1)) (.bn (zb r23.2.2.2.2.2.2 r23.2.2.2.1 (IntKind.i64.wrap (r23.2.2.2.2.1 - r23.2.2.2.2.2.1)) r23.2.2.1) λr21=>.k r21) (.k r23.2.2.2.2.2.2)) (.k r23.2.2.2.2.2.2))) (.i (decide (r23.2.2.2.1<IntKind.i64.wrap (r23.2.2.2.2.1 - r23.2.2.2.2.2.1))) (.i (decide (IntKind.i64.wrap (r23.2.2.2.2.1 - r23.2.2.2.2.2.1)<r23.2.2.1)) (.bn (zb r23.2.2.2.2.2.2 r23.2.2.2.1 (IntKind.i64.wrap (r23.2.2.2.2.1 - r23.2.2.2.2.2.1)) r23.2.2.1) λr22=>.k r22) (.k r23.2.2.2.2.2.2)) (.k r23.2.2.2.2.2.2)))) (.bn (zeC zb (a.toNat +m.toNat +b.toNat +(IntKind.i64.wrap ((IntKind.u64.wrap (IntKind.i64.wrap (a+b))).fdiv (2 ^ min (Int.toNat 1) IntKind.u64.bits))).toNat +(IntKind.i64.wrap (IntKind.i64.wrap ((IntKind.u64.wrap (IntKind.i64.wrap (a+b))).fdiv (2 ^ min (Int.toNat 1) IntKind.u64.bits))+m)).toNat +a.toNat +m.toNat +(IntKind.i64.wrap (IntKind.i64.wrap (IntKind.i64.wrap ((IntKind.u64.wrap (IntKind.i64.wrap (a+b))).fdiv (2 ^ min (Int.toNat 1) IntKind.u64.bits))+m) - 1)).toNat +data.length+1000) a m b (IntKind.i64.wrap ((IntKind.u64.wrap (IntKind.i64.wrap (a+b))).fdiv (2 ^ min (Int.toNat 1) IntKind.u64.bits))) (IntKind.i64.wrap (IntKind.i64.wrap ((IntKind.u64.wrap (IntKind.i64.wrap (a+b))).fdiv (2 ^ min (Int.toNat 1) IntKind.u64.bits))+m)) a m (IntKind.i64.wrap (IntKind.i64.wrap (IntKind.i64.wrap ((IntKind.u64.wrap (IntKind.i64.wrap (a+b))).fdiv (2 ^ min (Int.toNat 1) IntKind.u64.bits))+m) - 1)) data) λr37=>.i (decide (r37.2.2.2.2.2.1<r37.2.1)) (.i (decide (r37.2.1<IntKind.i64.wrap (r37.2.2.2.2.1 - r37.2.2.2.2.2.1))) (.bn (zcR r37.2.2.2.2.2.2 r37.2.2.2.2.2.1 r37.2.1 (IntKind.i64.wrap (r37.2.2.2.2.1 - r37.2.2.2.2.2.1))) λr28=>.i (decide (r37.1<r37.2.2.2.2.2.1)) (.i (decide (r37.2.2.2.2.2.1<r37.2.2.2.1)) (.bn (zb r28 r37.1 r37.2.2.2.2.2.1 r37.2.2.2.1) λr25=>.i (decide (r37.2.2.2.1<IntKind.i64.wrap (r37.2.2.2.2.1 - r37.2.2.2.2.2.1))) (.i (decide (IntKind.i64.wrap (r37.2.2.2.2.1 - r37.2.2.2.2.2.1)<r37.2.2.1)) (.bn (zb r25 r37.2.2.2.1 (IntKind.i64.wrap (r37.2.2.2.2.1 - r37.2.2.2.2.2.1)) r37.2.2.1) λr24=>.k r24) (.k r25)) (.k r25)) (.i (decide (r37.2.2.2.1<IntKind.i64.wrap (r37.2.2.2.2.1 - r37.2.2.2.2.2.1))) (.i (decide (IntKind.i64.wrap (r37.2.2.2.2.1 - r37.2.2.2.2.2.1)<r37.2.2.1)) (.bn (zb r28 r37.2.2.2.1 (IntKind.i64.wrap (r37.2.2.2.2.1 - r37.2.2.2.2.2.1)) r37.2.2.1) λr26=>.k r26) (.k r28)) (.k r28))) (.i (decide (r37.2.2.2.1<IntKind.i64.wrap (r37.2.2.2.2.1 - r37.2.2.2.2.2.1))) (.i (decide (IntKind.i64.wrap (r37.2.2.2.2.1 - r37.2.2.2.2.2.1)<r37.2.2.1)) (.bn (zb r28 r37.2.2.2.1 (IntKind.i64.wrap (r37.2.2.2.2.1 - r37.2.2.2.2.2.1)) r37.2.2.1) λr27=>.k r27) (.k r28)) (.k r28))) (.i (decide (r37.1<r37.2.2.2.2.2.1)) (.i (decide (r37.2.2.2.2.2.1<r37.2.2.2.1)) (.bn (zb r37.2.2.2.2.2.2 r37.1 r37.2.2.2.2.2.1 r37.2.2.2.1) λr30=>.i (decide (r37.2.2.2.1<IntKind.i64.wrap (r37.2.2.2.2.1 - r37.2.2.2.2.2.1))) (.i (decide (IntKind.i64.wrap (r37.2.2.2.2.1 - r37.2.2.2.2.2.1)<r37.2.2.1)) (.bn (zb r30 r37.2.2.2.1 (IntKind.i64.wrap (r37.2.2.2.2.1 - r37.2.2.2.2.2.1)) r37.2.2.1) λr29=>.k r29) (.k r30)) (.k r30)) (.i (decide (r37.2.2.2.1<IntKind.i64.wrap (r37.2.2.2.2.1 - r37.2.2.2.2.2.1))) (.i (decide (IntKind.i64.wrap (r37.2.2.2.2.1 - r37.2.2.2.2.2.1)<r37.2.2.1)) (.bn (zb r37.2.2.2.2.2.2 r37.2.2.2.1 (IntKind.i64.wrap (r37.2.2.2.2.1 - r37.2.2.2.2.2.1)) r37.2.2.1) λr31=>.k r31) (.k r37.2.2.2.2.2.2)) (.k r37.2.2.2.2.2.2))) (.i (decide (r37.2.2.2.1<IntKind.i64.wrap (r37.2.2.2.2.1 - r37.2.2.2.2.2.1))) (.i (decide (IntKind.i64.wrap (r37.2.2.2.2.1 - r37.2.2.2.2.2.1)<r37.2.2.1)) (.bn (zb r37.2.2.2.2.2.2 r37.2.2.2.1 (IntKind.i64.wrap (r37.2.2.2.2.1 - r37.2.2.2.2.2.1)) r37.2.2.1) λr32=>.k r32) (.k r37.2.2.2.2.2.2)) (.k r37.2.2.2.2.2.2)))) (.i (decide (r37.1<r37.2.2.2.2.2.1)) (.i (decide (r37.2.2.2.2.2.1<r37.2.2.2.1)) (.bn (zb r37.2.2.2.2.2.2 r37.1 r37.2.2.2.2.2.1 r37.2.2.2.1) λr34=>.i (decide (r37.2.2.2.1<IntKind.i64.wrap (r37.2.2.2.2.1 - r37.2.2.2.2.2.1))) (.i (decide (IntKind.i64.wrap (r37.2.2.2.2.1 - r37.2.2.2.2.2.1)<r37.2.2.1)) (.bn (zb r34 r37.2.2.2.1 (IntKind.i64.wrap (r37.2.2.2.2.1 - r37.2.2.2.2.2.1)) r37.2.2.1) λr33=>.k r33) (.k r34)) (.k r34)) (.i (decide (r37.2.2.2.1<IntKind.i64.wrap (r37.2.2.2.2.1 - r37.2.2.2.2.2.1))) (.i (decide (IntKind.i64.wrap (r37.2.2.2.2.1 - r37.2.2.2.2.2.1)<r37.2.2.1)) (.bn (zb r37.2.2.2.2.2.2 r37.2.2.2.1 (IntKind.i64.wrap (r37.2.2.2.2.1 - r37.2.2.2.2.2.1)) r37.2.2.1) λr35=>.k r35) (.k r37.2.2.2.2.2.2)) (.k r37.2.2.2.2.2.2))) (.i (decide (r37.2.2.2.1<IntKind.i64.wrap (r37.2.2.2.2.1 - r37.2.2.2.2.2.1))) (.i (decide (IntKind.i64.wrap (r37.2.2.2.2.1 - r37.2.2.2.2.2.1)<r37.2.2.1)) (.bn (zb r37.2.2.2.2.2.2 r37.2.2.2.1 (IntKind.i64.wrap (r37.2.2.2.2.1 - r37.2.2.2.2.2.1)) r37.2.2.1) λr36=>.k r36) (.k r37.2.2.2.2.2.2)) (.k r37.2.2.2.2.2.2))))))
def zdY (zb:yE->Int->Int->Int->Bool×yE) (data:yE) (a:Int) (m:Int) (b:Int):=(zmR zb data a m b).fin default
theorem zwo (zb:yE->Int->Int->Int->Bool×yE) (zAj:SdP 282 (zd0 zb)):SdP 282 (zd0 (zdY zb)):=
 sT (cx':=(zcw zb)) (zk ⟨zcq,zAj,zzR,trivial⟩) call282 func282 (lOK (aC (zyq zb) (aC (zyj zb) (aC (zwP zb) (aC (zxN zb) (aC (zxK zb) aN)))))) (sg:=⟨[],[true]⟩)
def zYQ:Nat->(yE->Int->Int->Int->Bool×yE)
 | 0=>λ_ _ _ _=>(false,default)
 | n+1=>zdY (zYQ n)
def zd1 (n:Nat):yE->Int->Int->Int->Bool×yE:=zYQ n
theorem zzL (n:Nat):zd1 (n+1)=zdY (zd1 n):=rfl
theorem zTI:∀ n,SdP 282 (zd0 (zd1 n))
 | 0=>zbc call282 (λ_=>rfl)
 | n+1=>by
  have ih:=zTI n;exact zwo _ (ih)
def zfQ:yE->Int->Int->Int->Bool×yE:=zd1 1000
def zmC:Ab.Spec ty:=zd0 zfQ
theorem zx1:SdP 282 zmC:=(zTI 1000)
abbrev zeA:=Unit×Int×Int×Unit×Int×Int×Unit
abbrev zbP:=yE×Unit
abbrev zlW:=Int×Int×Int×yE
abbrev zeG:=Unit×Int×Int×Unit×Int×Unit
def zfW (a:Int) (b:Int) (i:Int) (j:Int) (data:yE):Wy zeA zbP zlW:=.i (decide (j>a)) (.i (decide (0<=j)&&decide (j<Int.ofNat data.length)) (.i (decide (0<=IntKind.i64.wrap (j - 1))&&decide (IntKind.i64.wrap (j - 1)<Int.ofNat data.length)) (.bn (zbQ (data.getD j.toNat default) (data.getD (IntKind.i64.wrap (j - 1)).toNat default)) λr0=>.i (decide (r0<0)) (.i (decide (0<=IntKind.i64.wrap (j - 1))&&decide (IntKind.i64.wrap (j - 1)<Int.ofNat data.length)) (.i (decide (0<=j)&&decide (j<Int.ofNat data.length)) (.i (decide (0<=j)&&decide (j<Int.ofNat data.length)) (.i (decide (j.toNat<data.length)) (.i (decide (0<=IntKind.i64.wrap (j - 1))&&decide (IntKind.i64.wrap (j - 1)<Int.ofNat (data.set j.toNat (data.getD (IntKind.i64.wrap (j - 1)).toNat default)).length)) (.i (decide ((IntKind.i64.wrap (j - 1)).toNat<(data.set j.toNat (data.getD (IntKind.i64.wrap (j - 1)).toNat default)).length)) (.h ((),a,b,(),i,(IntKind.i64.wrap (j - 1)),()) (((data.set j.toNat (data.getD (IntKind.i64.wrap (j - 1)).toNat default)).set (IntKind.i64.wrap (j - 1)).toNat (data.getD j.toNat default)),())) .d) .d) .d) .d) .d) .d) (.k (a,b,i,data))) .d) .d) (.k (a,b,i,data))
def zk5 (x:zeA) (y:zbP):=zfW x.2.1 x.2.2.1 x.2.2.2.2.1 x.2.2.2.2.2.1 y.1
def zfY (n:Nat) (a:Int) (b:Int) (i:Int) (j:Int) (data:yE):=zC (zk5) default n ((),a,b,(),i,j,()) (data,())
def zvP (r:zlW):LTree ty:=.done (.exit 2) [.own 212,.lit (.int .i64 r.1),.lit (.int .i64 r.2.1),.fn 124 ([]),.lit (.int .i64 r.2.2.1)] [.arr 100 r.2.2.2 false]
def zwl:LL ty zeA:=za (zds 212) (za zj (za zj (za (lFn 124 (zl)) (za zj (za zj zl)))))
def zwr:BL ty zbP:=zdw 100 false (zbe)
def zcZ (a:Int) (b:Int) (i:Int) (data:yE):Wy zeG zbP (yE):=.i (decide (i<b)) (.bn (zfY (a.toNat +b.toNat +i.toNat +i.toNat +data.length+1000) a b i i data) λr2=>.h ((),(r2.1),(r2.2.1),(),(IntKind.i64.wrap (r2.2.2.1+1)),()) ((r2.2.2.2),())) (.k data)
def zk7 (x:zeG) (y:zbP):=zcZ x.2.1 x.2.2.1 x.2.2.2.2.1 y.1
def zcY (n:Nat) (a:Int) (b:Int) (i:Int) (data:yE):=zC (zk7) default n ((),a,b,(),i,()) (data,())
def zvp (r:yE):LTree ty:=.done (.exit 0) [.own 212] [.arr 100 r false]
def zwp:LL ty zeG:=za (zds 212) (za zj (za zj (za (lFn 124 (zl)) (za zj zl))))
def zvU (x:zeA) (y:zbP):Nat:=(Int.toNat x.2.1+Int.toNat x.2.2.1+Int.toNat x.2.2.2.2.1+Int.toNat x.2.2.2.2.2.1+y.1.length+1000)
def zvz (x:zeG) (y:zbP):Nat:=(Int.toNat x.2.1+Int.toNat x.2.2.1+Int.toNat x.2.2.2.2.1+y.1.length+1000)
def zfV:=zb3 base 53 [(124,zch)] [] [(1,(kpL [0,1,2,3,8])),(4,(kpL [0,1,2,3,8,9]))] [(1,1,(kpL [0])),(4,3,(kpL [0,1,2,3,8]))] [(4,spW zwl zwr (zk5) default zvP zvU),(1,spW zwp zwr (zk7) default zvp zvz)] []
theorem zvu:zF zfV (lp (body f281) 1):=zq (id:=4) (hl:=rfl)
theorem zv8:zF zfV (lp (body f281) 0):=zq (id:=1) (hl:=rfl)
def zlj (data:yE) (a:Int) (b:Int):Wy0 (yE):=.bn (zcY (a.toNat +b.toNat +(IntKind.i64.wrap (a+1)).toNat +data.length+1000) a b (IntKind.i64.wrap (a+1)) data) λr4=>.k r4
def zcd (data:yE) (a:Int) (b:Int):=(zlj data a b).fin default
def zxd:AL base (yE×Int×Int×Unit×Unit):=ze (zrf 100) (ze (zf zfl) (ze (zf zfl) (ze (zf (vFn 124 zb7)) zu)))
def zkq:=zi zxd λx=>((zcd x.1 x.2.1 x.2.2.1).1,zzQ (zcd x.1 x.2.1 x.2.2.1).2)
theorem zul:SdP 281 zkq:=
 sT (cx':=zfV) (zk ⟨zcq,trivial⟩) call281 func281 (lOK (aC zv8 (aC zvu aN))) (sg:=⟨[],[true]⟩)
abbrev zci:=Unit×Int×Unit×Int×Int×Int×Unit
abbrev zbo:=yE×Unit
abbrev zf9:=Int×Int×Int×yE
abbrev zf7:=Unit×Int×Unit×Int×Unit
def zed (n_:Int) (blockSize:Int) (a:Int) (b:Int) (data:yE):Wy zci zbo zf9:=.i (decide (b<=n_)) (.bn (zcd data a b) λr0=>.h ((),n_,(),blockSize,b,(IntKind.i64.wrap (b+blockSize)),()) ((r0),())) (.k (n_,blockSize,a,data))
def zoT (x:zci) (y:zbo):=zed x.2.1 x.2.2.2.1 x.2.2.2.2.1 x.2.2.2.2.2.1 y.1
def zc6 (n:Nat) (n_:Int) (blockSize:Int) (a:Int) (b:Int) (data:yE):=zC (zoT) default n ((),n_,(),blockSize,a,b,()) (data,())
def zBX (r:zf9):LTree ty:=.done (.exit 0) [.own 252,.lit (.int .i64 r.1),.fn 124 ([]),.lit (.int .i64 r.2.1),.lit (.int .i64 r.2.2.1)] [.arr 100 r.2.2.2 false]
def zCL:LL ty zci:=za (zds 252) (za zj (za (lFn 124 (zl)) (za zj (za zj (za zj zl)))))
def zC6:BL ty zbo:=zdw 100 false (zbe)
def ziP (n_:Int) (blockSize:Int) (a:Int) (b:Int) (data:yE):Wy zci zbo zf9:=.i (decide (b<=n_)) (.bn (zfQ data a (IntKind.i64.wrap (a+blockSize)) b) λr2=>.h ((),n_,(),blockSize,b,(IntKind.i64.wrap (b+IntKind.i64.wrap (2*blockSize))),()) ((r2),())) (.k (n_,blockSize,a,data))
def zoQ (x:zci) (y:zbo):=ziP x.2.1 x.2.2.2.1 x.2.2.2.2.1 x.2.2.2.2.2.1 y.1
def ziO (n:Nat) (n_:Int) (blockSize:Int) (a:Int) (b:Int) (data:yE):=zC (zoQ) default n ((),n_,(),blockSize,a,b,()) (data,())
def zBZ (r:zf9):LTree ty:=.done (.exit 4) [.own 252,.lit (.int .i64 r.1),.fn 124 ([]),.lit (.int .i64 r.2.1),.lit (.int .i64 r.2.2.1)] [.arr 100 r.2.2.2 false]
def zef (n_:Int) (blockSize:Int) (data:yE):Wy zf7 zbo (yE):=.i (decide (blockSize<n_)) (.bn (ziO (n_.toNat +blockSize.toNat +Int.toNat 0+(IntKind.i64.wrap (2*blockSize)).toNat +data.length+1000) n_ blockSize 0 (IntKind.i64.wrap (2*blockSize)) data) λr5=>.i (decide (IntKind.i64.wrap (r5.2.2.1+r5.2.1)<r5.1)) (.bn (zfQ r5.2.2.2 r5.2.2.1 (IntKind.i64.wrap (r5.2.2.1+r5.2.1)) r5.1) λr4=>.h ((),(r5.1),(),(IntKind.i64.wrap (r5.2.1*2)),()) ((r4),())) (.h ((),(r5.1),(),(IntKind.i64.wrap (r5.2.1*2)),()) ((r5.2.2.2),()))) (.k data)
def zo9 (x:zf7) (y:zbo):=zef x.2.1 x.2.2.2.1 y.1
def zc9 (n:Nat) (n_:Int) (blockSize:Int) (data:yE):=zC (zo9) default n ((),n_,(),blockSize,()) (data,())
def zBI (r:yE):LTree ty:=.done (.exit 2) [.own 252] [.arr 100 r false]
def zCC:LL ty zf7:=za (zds 252) (za zj (za (lFn 124 (zl)) (za zj zl)))
def zBN (x:zci) (y:zbo):Nat:=(Int.toNat x.2.1+Int.toNat x.2.2.2.1+Int.toNat x.2.2.2.2.1+Int.toNat x.2.2.2.2.2.1+y.1.length+1000)
def zBL (x:zf7) (y:zbo):Nat:=(Int.toNat x.2.1+Int.toNat x.2.2.2.1+y.1.length+1000)
def zfv:=zb3 base 63 [(124,zch),(281,zkq),(282,zmC)] [(281,[true,false,false,false]),(282,[true,false,false,false,false])] [(2,(kpL [0,1,2,6,7,8])),(7,(kpL [0,1,2,6])),(9,(kpL [0,1,2,6,7,8]))] [(2,1,(kpL [0,1,2,6,7])),(7,3,(kpL [0])),(9,5,(kpL [0,1,2,6,7]))] [(2,spW zCL zC6 (zoT) default zBX zBN),(9,spW zCL zC6 (zoQ) default zBZ zBN),(7,spW zCC zC6 (zo9) default zBI zBL)] []
theorem zBK:zF zfv (lp (body f262) 0):=zq (id:=2) (hl:=rfl)
theorem zBE:zF zfv (lp (body f262) 2):=zq (id:=9) (hl:=rfl)
theorem zBF:zF zfv (lp (body f262) 1):=zq (id:=7) (hl:=rfl)
def zpi (data:yE) (n_:Int):Wy0 (yE):=.bn (zc6 (n_.toNat +Int.toNat 20+Int.toNat 0+Int.toNat 20+data.length+1000) n_ 20 0 20 data) λr10=>.bn (zcd r10.2.2.2 r10.2.2.1 r10.1) λr9=>.bn (zc9 (r10.1.toNat +r10.2.1.toNat +r9.length+1000) r10.1 r10.2.1 r9) λr8=>.k r8
def zeU (data:yE) (n_:Int):=(zpi data n_).fin default
def zDI:AL base (yE×Int×Unit×Unit):=ze (zrf 100) (ze (zf zfl) (ze (zf (vFn 124 zb7)) zu))
def znt:=zi zDI λx=>((zeU x.1 x.2.1).1,zzQ (zeU x.1 x.2.1).2)
theorem zAi:SdP 262 znt:=
 sT (cx':=zfv) (zk ⟨zcq,zul,zx1,trivial⟩) call262 func262 (lOK (aC zBK (aC zBF (aC zBE aN)))) (sg:=⟨[],[true]⟩)
def zqn:=zb3 base 9 [(124,zch),(262,znt)] [(262,[true,false,false])] [] [] [] []
def zhW (x_:yE):Wy0 (yE):=.bn (zeU x_ (Int.ofNat x_.length)) λr0=>.k r0
def zbY (x_:yE):=(zhW x_).fin default
def zrh:AL base (yE×Unit×Unit):=ze (zrf 100) (ze (zf (vFn 124 zb7)) zu)
def zg9:=zi zrh λx=>((zbY x.1).1,zzQ (zbY x.1).2)
theorem zo3:SdP 242 zg9:=
 sT (cx':=zqn) (zk ⟨zcq,zAi,trivial⟩) call242 func242 (lOK aN) (sg:=⟨[],[true]⟩)
abbrev zs0:=Unit×yE×Int×Int×Unit
abbrev znv:=yE×Unit
def znI (t6:yE) (t7:Int) (t8:Int) (out_:yE):Wy zs0 znv (yE):=.i (decide (t8<t7)) (.i (decide (0<=t8)&&decide (t8<Int.ofNat t6.length)) (.i (decide (Int.ofNat (t6.getD t8.toNat default).Ann.length>0)) (.bn (zhz (t6.getD t8.toNat default).Ann) λr0=>.i (decide ((out_.length+[WO.mk (t6.getD t8.toNat default).Value r0].length)*56<=zO)) (.h ((),t6,t7,(IntKind.i64.wrap (t8+1)),()) ((out_++[WO.mk (t6.getD t8.toNat default).Value r0]),())) .d) (.h ((),t6,t7,(IntKind.i64.wrap (t8+1)),()) (out_,()))) .d) (.k out_)
def zAH (x:zs0) (y:znv):=znI x.2.1 x.2.2.1 x.2.2.2.1 y.1
def zIm (n:Nat) (t6:yE) (t7:Int) (t8:Int) (out_:yE):=zC (zAH) default n ((),t6,t7,t8,()) (out_,())
def zWz (r:yE):LTree ty:=.done (.exit 0) [.own 116] [.arr 100 r false]
def zXX:LL ty zs0:=za (zds 116) (za (lSl 100) (za zj (za zj zl)))
def zYw:BL ty znv:=zdw 100 false (zbe)
def zWu (x:zs0) (y:znv):Nat:=(x.2.1.length+Int.toNat x.2.2.1+Int.toNat x.2.2.2.1+y.1.length+1)
def zIr:=zb3 base 29 [(87,zhv),(124,zch),(242,zg9)] [(242,[true,false])] [(3,[(3,.own 100),(6,.keep),(7,.keep),(8,.keep)])] [(3,1,(kpL [3]))] [(3,spW zXX zYw (zAH) default zWz zWu)] []
theorem zWr:zF zIr (lp (body f218) 0):=zq (id:=3) (hl:=rfl)
def zLg (l:yE):Wy0 (yE):=.bn (zIm (l.length+(Int.ofNat l.length).toNat +Int.toNat 0+0+1) l (Int.ofNat l.length) 0 []) λr3=>.bn (zbY r3) λr2=>.k r2
def zsr (l:yE):=(zLg l).fin default
def zU6 (r:yE):ARes ty:=⟨[.own 100 r],[]⟩
def zY8:AL base znv:=ze (zf (vSl 100)) zu
def zFW:=zi zY8 λx=>((zsr x.1).1,zU6 (zsr x.1).2)
theorem zRZ:SdP 218 zFW:=
 sT (cx':=zIr) (zk ⟨zjS,zcq,zo3,trivial⟩) call218 func218 (lOK (aC zWr aN)) (sg:=⟨[.own 100],[]⟩)
def zTp:=zbt base 7 [(20,zce)]
def zHO (w:Wd):Wy0 (Bool):=.bn (zbZ w.Ann) λr0=>.k (!r0)
def zo0 (w:Wd):=(zHO w).fin default
def zni:=zi zNF λx=>((zo0 x.1).1,zYt (zo0 x.1).2)
theorem zss:SdP 217 zni:=
 sT (cx':=zTp) (zk ⟨zcg,trivial⟩) call217 func217 (lOK aN)
def zYn:=zbt base 28 []
def zLo (op:Int) (sign:Int):Wy0 (Bool):=.i (op==5) (.k (sign==0)) (.i (op==6) (.k (sign != 0)) (.i (op==7) (.k (decide (sign<0))) (.i (op==8) (.k (decide (sign<=0))) (.i (op==9) (.k (decide (sign>0))) (.k (decide (sign≥0)))))))
def zsd (op:Int) (sign:Int):=(zLo op sign).fin default
def zFQ:=zi z8x λx=>((zsd x.1 x.2.1).1,zYt (zsd x.1 x.2.1).2)
theorem zSz:SdP 219 zFQ:=
 sT (cx':=zYn) (zk trivial) call219 func219 (lOK aN)
abbrev zd3:=yE×Unit×Int×Int×Unit
def zrQ (s:yE) (t7:Int) (t8:Int):Wy zd3 Unit (Int⊕Unit):=.i (decide (t8<t7)) (.i (decide (0<=t8)&&decide (t8<Int.ofNat s.length)) (.bn (zo0 (s.getD t8.toNat default)) λr0=>.i (r0) (.k (.inl t8)) (.h (s,(),t7,(IntKind.i64.wrap (t8+1)),()) ())) .d) (.k (.inr ()))
def zio (x:zd3) (y:Unit):=zrQ x.1 x.2.2.1 x.2.2.2.1
def zrz (n:Nat) (s:yE) (t7:Int) (t8:Int):=zC (zio) (.inl default) n (s,(),t7,t8,()) ()
def zrR:LL ty zd3:=za (lSl 100) (za (lFn 217 (zl)) (za zj (za zj zl)))
def zqW (x:zd3) (y:Unit):Nat:=(x.1.length+Int.toNat x.2.2.1+Int.toNat x.2.2.2.1+1)
def zif:=zb3 base 19 [(217,zni)] [] [(2,(kpL [0,1,7,8]))] [(2,1,[]),(2,0,(kpL [4]))] [(2,spW zrR zZe (zio) (.inl default) ztL zqW)] []
theorem zqL:zF zif (lp (body f163) 0):=zq (id:=2) (hl:=rfl)
def zr6 (s:yE):Wy0 (Int):=.bn (zrz (s.length+(Int.ofNat s.length).toNat +Int.toNat 0+1) s (Int.ofNat s.length) 0) λr2=>.i (isL r2) (.k (getL r2)) (.k (-1:Int))
def zdI (s:yE):=(zr6 s).fin default
def zsg:AL base (yE×Unit×Unit):=ze (zf (vSl 100)) (ze (zf (vFn 217 zb7)) zu)
def zhI:=zi zsg λx=>((zdI x.1).1,z2L (zdI x.1).2)
theorem zpP:SdP 163 zhI:=
 sT (cx':=zif) (zk ⟨zss,trivial⟩) call163 func163 (lOK (aC zqL aN))
def zpZ:=zbt base 9 [(163,zhI),(217,zni)]
def zhH (s:yE):Wy0 (Bool):=.bn (zdI s) λr0=>.k (decide (r0≥0))
def zcp (s:yE):=(zhH s).fin default
def zgL:=zi zsg λx=>((zcp x.1).1,zYt (zcp x.1).2)
theorem zor:SdP 132 zgL:=
 sT (cx':=zpZ) (zk ⟨zpP,zss,trivial⟩) call132 func132 (lOK aN)
def zZ1:=zbt base 45 [(36,zsX),(70,zfj),(132,zgL),(135,ztU),(138,zom),(152,zhp),(217,zni),(218,zFW),(219,zFQ)]
def zMP (fn:Int) (items:yE) (op:Int) (bound:Value):Wy0 (yC×Int):=.bn (zlf fn items op bound) λr5=>.i (!r5) (.k ([],1)) (.bn (zcp items) λr4=>.i (r4) (.k ([],1)) (.bn (zsr items) λr3=>.i (decide (Int.ofNat r3.length>0)) (.bn (zeW (zf8 (At.mk 4 (RowID.mk 0 0) [] fn r3 op bound)).2) λr0=>.k (r0.1,r0.2)) (.i (fn==0) (.bn (zj9 0 bound.Int) λr2=>.bn (zsd op r2) λr1=>.i (r1) (.k (zxb.2,0)) (.k ([],0))) (.k ([],0)))))
def zpD (fn:Int) (items:yE) (op:Int) (bound:Value):=(zMP fn items op bound).fin default
def zHJ:=zi zWE λx=>((zpD x.1 x.2.1 x.2.2.1 x.2.2.2.1).1,zR6 (zpD x.1 x.2.1 x.2.2.1 x.2.2.2.1).2)
theorem zT6:SdP 180 zHJ:=
 sT (cx':=zZ1) (zk ⟨zzc,zgn,zor,zDh,ztE,zj1,zss,zRZ,zSz,trivial⟩) call180 func180 (lOK aN) (sg:=⟨[.own 28,.pure],[]⟩)
abbrev zlI:=((yG×Unit)×Unit)×Unit×Unit×yA×Int×Int×Unit
abbrev zlC:=At×yA×Unit
abbrev zBh:=Int⊕(yG×At×yA)
abbrev zlB:=((yG×Unit)×Unit)×Unit×Unit×yE×Int×Int×Unit
abbrev zlH:=At×yE×Unit
abbrev zBu:=Int⊕(At×yE)
def zoA (zW:yC->yG->Bool×(yC×Int)) (to:yG) (t24:yA) (t25:Int) (t26:Int) (x_:At) (args:yA):Wy zlI zlC zBh:=.i (decide (t26<t25)) (.i (decide (0<=t26)&&decide (t26<Int.ofNat t24.length)) (.bn (zW (t24.getD t26.toNat default) to) λr2=>.i (r2.2 != 0) (.k (.inl (r2.2))) (.i (decide ((args.length+[r2.1].length)*24<=zO)) (.h (((to,()),()),(),(),t24,t25,(IntKind.i64.wrap (t26+1)),()) (x_,(args++[r2.1]),())) .d)) .d) (.k (.inr (to,x_,args)))
def zyC (zW:yC->yG->Bool×(yC×Int)) (x:zlI) (y:zlC):=zoA zW x.1.1.1 x.2.2.2.1 x.2.2.2.2.1 x.2.2.2.2.2.1 y.1 y.2.1
def zkt (zW:yC->yG->Bool×(yC×Int)) (n:Nat) (to:yG) (t24:yA) (t25:Int) (t26:Int) (x_:At) (args:yA):=zC (zyC zW) (.inl default) n (((to,()),()),(),(),t24,t25,t26,()) (x_,args,())
def zJO (r:zBh):LTree ty:=.ite (isL r) (.done .ret [.lit (.slice none 0 0),.lit (.int .i64 (getL r))] []) (.done (.exit 0) [.fn 84 ([.bptr ([.sl 51 (getR r).1]) 0]),.ptr 432 0,.own 433] [.box (base.enc 67 (getR r).2.1) false,.arr 23 (getR r).2.2 false])
def zKi:LL ty zlI:=za (lFn 84 (za (zoD (za (lSl 51) zl) 0) zl)) (za (zgc 432 0) (za (zds 433) (za (lSl 23) (za zj (za zj zl)))))
def zKd:BL ty zlC:=zj7 (zh1 (λx=>(⟨x.1,⟨x.2.1,x.2.2.1⟩,x.2.2.2.1,x.2.2.2.2.1,x.2.2.2.2.2.1,x.2.2.2.2.2.2.1,⟨x.2.2.2.2.2.2.2.1,x.2.2.2.2.2.2.2.2.1,x.2.2.2.2.2.2.2.2.2.1⟩⟩:At)) (λx=>(x.Kind,x.Row.Table,x.Row.Seq,x.Ag,x.Func,x.Items,x.Op,x.Bd.Kind,x.Bd.Int,x.Bd.Text,())) (λ_=>rfl) (za (zT .i64) (za (zT .i64) (za (zT .i64) (za (lSl 23) (za (zT .i64) (za (lSl 100) (za (zT .i64) (za (zT .i64) (za (zT .i64) (za zsR zl))))))))))) false (zdw 23 false (zbe))
def znZ (zW:yC->yG->Bool×(yC×Int)) (to:yG) (t74:yE) (t75:Int) (t76:Int) (x_:At) (items:yE):Wy zlB zlH zBu:=.i (decide (t76<t75)) (.i (decide (0<=t76)&&decide (t76<Int.ofNat t74.length)) (.bn (zW (t74.getD t76.toNat default).Ann to) λr4=>.i (r4.2 != 0) (.k (.inl (r4.2))) (.i (decide ((items.length+[WO.mk (t74.getD t76.toNat default).Value r4.1].length)*56<=zO)) (.h (((to,()),()),(),(),t74,t75,(IntKind.i64.wrap (t76+1)),()) (x_,(items++[WO.mk (t74.getD t76.toNat default).Value r4.1]),())) .d)) .d) (.k (.inr (x_,items)))
def zxZ (zW:yC->yG->Bool×(yC×Int)) (x:zlB) (y:zlH):=znZ zW x.1.1.1 x.2.2.2.1 x.2.2.2.2.1 x.2.2.2.2.2.1 y.1 y.2.1
def zjp (zW:yC->yG->Bool×(yC×Int)) (n:Nat) (to:yG) (t74:yE) (t75:Int) (t76:Int) (x_:At) (items:yE):=zC (zxZ zW) (.inl default) n (((to,()),()),(),(),t74,t75,t76,()) (x_,items,())
def zHW (r:zBu):LTree ty:=.ite (isL r) (.done .ret [.lit (.slice none 0 0),.lit (.int .i64 (getL r))] []) (.done (.exit 3) [.ptr 432 0,.own 433] [.box (base.enc 67 (getR r).1) false,.arr 100 (getR r).2 false])
def zJk:LL ty zlB:=za (lFn 84 (za (zoD (za (lSl 51) zl) 0) zl)) (za (zgc 432 0) (za (zds 433) (za (lSl 100) (za zj (za zj zl)))))
def zI4:BL ty zlH:=zj7 (zh1 (λx=>(⟨x.1,⟨x.2.1,x.2.2.1⟩,x.2.2.2.1,x.2.2.2.2.1,x.2.2.2.2.2.1,x.2.2.2.2.2.2.1,⟨x.2.2.2.2.2.2.2.1,x.2.2.2.2.2.2.2.2.1,x.2.2.2.2.2.2.2.2.2.1⟩⟩:At)) (λx=>(x.Kind,x.Row.Table,x.Row.Seq,x.Ag,x.Func,x.Items,x.Op,x.Bd.Kind,x.Bd.Int,x.Bd.Text,())) (λ_=>rfl) (za (zT .i64) (za (zT .i64) (za (zT .i64) (za (lSl 23) (za (zT .i64) (za (lSl 100) (za (zT .i64) (za (zT .i64) (za (zT .i64) (za zsR zl))))))))))) false (zdw 100 false (zbe))
def zJP (x:zlI) (y:zlC):Nat:=(x.1.1.1.length+x.2.2.2.1.length+Int.toNat x.2.2.2.2.1+Int.toNat x.2.2.2.2.2.1+y.1.Ag.length+y.1.Items.length+y.2.1.length+1)
def zId (x:zlB) (y:zlH):Nat:=(x.1.1.1.length+x.2.2.2.1.length+Int.toNat x.2.2.2.2.1+Int.toNat x.2.2.2.2.2.1+y.1.Ag.length+y.1.Items.length+y.2.1.length+1)
def zo7 (zW:yC->yG->Bool×(yC×Int)):=zb3 zb2 108 [(83,(zmx zW)),(84,ziw),(177,zFS),(178,zFU),(179,zES),(180,zHJ)] [] [(5,[(1,.keep),(2,.keep),(6,.own 23),(24,.keep),(25,.keep),(26,.keep)]),(21,[(1,.keep),(2,.keep),(11,.own 100),(74,.keep),(75,.keep),(76,.keep)])] [(5,1,(kpL [1,2,6])),(5,0,(kpL [4,5])),(21,4,(kpL [2,11])),(21,0,(kpL [4,5]))] [(5,spW zKi zKd (zyC zW) (.inl default) zJO zJP),(21,spW zJk zI4 (zxZ zW) (.inl default) zHW zId)] []
theorem zIL (zW:yC->yG->Bool×(yC×Int)):zF (zo7 zW) (lp (body f150) 0):=zq (id:=5) (hl:=rfl)
theorem zHV (zW:yC->yG->Bool×(yC×Int)):zF (zo7 zW) (lp (body f150) 1):=zq (id:=21) (hl:=rfl)
def zAm (zW:yC->yG->Bool×(yC×Int)) (x_:At) (to:yG):Wy0 (yC×Int):=.i (x_.Kind==0) (.bn (ziA x_.Row to) λr6=>.k (r6,0)) (.bn (zkt zW (to.length+x_.Ag.length+(Int.ofNat x_.Ag.length).toNat +Int.toNat 0+x_.Ag.length+x_.Items.length+0+1) to x_.Ag (Int.ofNat x_.Ag.length) 0 (At.mk x_.Kind x_.Row x_.Ag x_.Func x_.Items x_.Op x_.Bd) []) λr12=>.i (isL r12) (.k ([],getL r12)) (.i ((getR r12).2.1.Kind==1) (.i (decide ((0:Int)<=(0:Int))&&decide (0<Int.ofNat (getR r12).2.2.length)) (.i (decide ((0:Int)<=(1:Int))&&decide (1<Int.ofNat (getR r12).2.2.length)) (.bn (zr3 ((getR r12).2.2.getD (Int.toNat 0) default) ((getR r12).2.2.getD (Int.toNat 1) default)) λr7=>.k (r7.1,r7.2)) .d) .d) (.i ((getR r12).2.1.Kind==2) (.i (decide ((0:Int)<=(0:Int))&&decide (0<Int.ofNat (getR r12).2.2.length)) (.bn (zsJ ((getR r12).2.2.getD (Int.toNat 0) default)) λr8=>.k (r8.1,r8.2)) .d) (.i ((getR r12).2.1.Kind==3) (.i (decide ((0:Int)<=(0:Int))&&decide (0<Int.ofNat (getR r12).2.2.length)) (.bn (zqk ((getR r12).2.2.getD (Int.toNat 0) default)) λr9=>.k (r9.1,r9.2)) .d) (.bn (zjp zW ((getR r12).1.length+(getR r12).2.1.Items.length+(Int.ofNat (getR r12).2.1.Items.length).toNat +Int.toNat 0+(getR r12).2.1.Ag.length+(getR r12).2.1.Items.length+0+1) (getR r12).1 (getR r12).2.1.Items (Int.ofNat (getR r12).2.1.Items.length) 0 (At.mk (getR r12).2.1.Kind (getR r12).2.1.Row (getR r12).2.1.Ag (getR r12).2.1.Func (getR r12).2.1.Items (getR r12).2.1.Op (getR r12).2.1.Bd) []) λr11=>.i (isL r11) (.k ([],getL r11)) (.bn (zpD (getR r11).1.Func (getR r11).2 (getR r11).1.Op (getR r11).1.Bd) λr10=>.k (r10.1,r10.2)))))))
def ziE (zW:yC->yG->Bool×(yC×Int)) (x_:At) (to:yG):=(zAm zW x_ to).fin default
theorem zHK (zW:yC->yG->Bool×(yC×Int)) (zSB:Sound Tryz.prog zb2 83 (zmx zW)):Sound Tryz.prog zb2 150 (zl8 (ziE zW)):=
 sU (cx':=(zo7 zW)) (zk ⟨zSB,zmy.nodr,zSv.nodr,zSQ.nodr,zQA.nodr,zT6.nodr,trivial⟩) call150 func150 (lOK (aC (zIL zW) (aC (zHV zW) aN))) (sg:=⟨[.own 28,.pure],[]⟩)
def zJ4:Nat->(yC->yG->Bool×(yC×Int))×(At->yG->Bool×(yC×Int))
 | 0=>(λ_ _=>(false,default),λ_ _=>(false,default))
 | n+1=>(zmo ((zJ4 n).2),ziE ((zJ4 n).1))
def zma (n:Nat):yC->yG->Bool×(yC×Int):=(zJ4 n).1
def zi0 (n:Nat):At->yG->Bool×(yC×Int):=(zJ4 n).2
theorem zQo (n:Nat):zma (n+1)=zmo (zi0 n):=rfl
theorem zLn (n:Nat):zi0 (n+1)=ziE (zma n):=rfl
theorem zXf:∀ n,Sound Tryz.prog zb2 83 (zmx (zma n))/\Sound Tryz.prog zb2 150 (zl8 (zi0 n))
 | 0=>⟨zbc call83 (λ_=>rfl),zbc call150 (λ_=>rfl)⟩
 | n+1=>by
  have ih:=zXf n;exact ⟨zMt _ (ih.2),zHK _ (ih.1)⟩
def zCS:yC->yG->Bool×(yC×Int):=zma 1000
def zDM:Ab.Spec ty:=zmx zCS
theorem zQf:Sound Tryz.prog zb2 83 zDM:=(zXf 1000).1
def zKR:=zbt base 7 [(20,zce)]
def zzM (b:Bg):Wy0 (Bool):=.bn (zbZ b.To) λr0=>.k (!r0)
def ziM (b:Bg):=(zzM b).fin default
def zL0:AL base (Bg×Unit):=ze (zf (zcV 51)) zu
def ziu:=zi zL0 λx=>((ziM x.1).1,zYt (ziM x.1).2)
theorem zmF:SdP 82 ziu:=
 sT (cx':=zKR) (zk ⟨zcg,trivial⟩) call82 func82 (lOK aN)
abbrev zen:=yG×Unit×Int×Int×Unit
def ztA (s:yG) (t7:Int) (t8:Int):Wy zen Unit (Int⊕Unit):=.i (decide (t8<t7)) (.i (decide (0<=t8)&&decide (t8<Int.ofNat s.length)) (.bn (ziM (s.getD t8.toNat default)) λr0=>.i (r0) (.k (.inl t8)) (.h (s,(),t7,(IntKind.i64.wrap (t8+1)),()) ())) .d) (.k (.inr ()))
def zjn (x:zen) (y:Unit):=ztA x.1 x.2.2.1 x.2.2.2.1
def ztc (n:Nat) (s:yG) (t7:Int) (t8:Int):=zC (zjn) (.inl default) n (s,(),t7,t8,()) ()
def ztb:LL ty zen:=za (lSl 51) (za (lFn 82 (zl)) (za zj (za zj zl)))
def zsi (x:zen) (y:Unit):Nat:=(x.1.length+Int.toNat x.2.2.1+Int.toNat x.2.2.2.1+1)
def zjh:=zb3 base 19 [(82,ziu)] [] [(2,(kpL [0,1,7,8]))] [(2,1,[]),(2,0,(kpL [4]))] [(2,spW ztb zZe (zjn) (.inl default) ztL zsi)] []
theorem zr8:zF zjh (lp (body f85) 0):=zq (id:=2) (hl:=rfl)
def ztF (s:yG):Wy0 (Int):=.bn (ztc (s.length+(Int.ofNat s.length).toNat +Int.toNat 0+1) s (Int.ofNat s.length) 0) λr2=>.i (isL r2) (.k (getL r2)) (.k (-1:Int))
def zd6 (s:yG):=(ztF s).fin default
def ztG:AL base (yG×Unit×Unit):=ze (zf (vSl 51)) (ze (zf (vFn 82 zb7)) zu)
def zin:=zi ztG λx=>((zd6 x.1).1,z2L (zd6 x.1).2)
theorem zqV:SdP 85 zin:=
 sT (cx':=zjh) (zk ⟨zmF,trivial⟩) call85 func85 (lOK (aC zr8 aN))
def zq2:=zbt base 9 [(82,ziu),(85,zin)]
def zim (s:yG):Wy0 (Bool):=.bn (zd6 s) λr0=>.k (decide (r0≥0))
def zcv (s:yG):=(zim s).fin default
def zhd:=zi ztG λx=>((zcv x.1).1,zYt (zcv x.1).2)
theorem zpe:SdP 81 zhd:=
 sT (cx':=zq2) (zk ⟨zmF,zqV,trivial⟩) call81 func81 (lOK aN)
def zPa:=zbt zb2 18 [(20,zce),(81,zhd),(82,ziu),(83,zDM),(84,ziw)]
def zDV (a:yC) (l:yG):Wy0 (yC×Int):=.bn (zbZ a) λr2=>.i (!r2) (.k ([],1)) (.bn (zcv l) λr1=>.i (r1) (.k ([],1)) (.bn (zCS a l) λr0=>.k (r0.1,r0.2)))
def zik (a:yC) (l:yG):=(zDV a l).fin default
def zQH:AL zb2 (yC×yG×Unit):=ze (zf (vSl 28)) (ze (zf (vSl 51)) zu)
def zAs:=zi zQH λx=>((zik x.1 x.2.1).1,zR6 (zik x.1 x.2.1).2)
theorem zJ6:Sound Tryz.prog zb2 29 zAs:=
 sU (cx':=zPa) (zk ⟨zcg.nodr,zpe.nodr,zmF.nodr,zQf,zmy.nodr,trivial⟩) call29 func29 (lOK aN) (sg:=⟨[.own 28,.pure],[]⟩)
def zWs:=zbt zb2 11 [(29,zAs)]
def zIs (a:yC):Wy0 (yC):=.bn (zik a []) λr0=>.k r0.1
def zp7 (a:yC):=(zIs a).fin default
def zE0:=zi z2b λx=>((zp7 x.1).1,zSe (zp7 x.1).2)
theorem zQF:Sound Tryz.prog zb2 68 zE0:=
 sU (cx':=zWs) (zk ⟨zJ6,trivial⟩) call68 func68 (lOK aN) (sg:=⟨[.own 28],[]⟩)
def zNr:=zbt base 8 []
def zCb (x_:At):Wy0 (yC):=.k [TO.mk 1 [FO.mk (At.mk x_.Kind x_.Row x_.Ag x_.Func x_.Items x_.Op x_.Bd) 1]]
def zhs (x_:At):=(zCb x_).fin default
def zyG:=zi zE5 λx=>((zhs x.1).1,zSe (zhs x.1).2)
theorem zJz:SdP 104 zyG:=
 sT (cx':=zNr) (zk trivial) call104 func104 (lOK aN) (sg:=⟨[.own 28],[]⟩)
def zS9:=zbt base 13 [(21,zii),(104,zyG)]
def zF6 (x_:At) (y_:At):Wy0 (Bool):=.bn (ze7 (zhs (At.mk x_.Kind x_.Row x_.Ag x_.Func x_.Items x_.Op x_.Bd)).2 (zhs (At.mk y_.Kind y_.Row y_.Ag y_.Func y_.Items y_.Op y_.Bd)).2) λr0=>.k r0
def znq (x_:At) (y_:At):=(zF6 x_ y_).fin default
def zCB:=zi zXK λx=>((znq x.1 x.2.1).1,zYt (znq x.1 x.2.1).2)
theorem zN1:SdP 52 zCB:=
 sT (cx':=zS9) (zk ⟨zkI,zJz,trivial⟩) call52 func52 (lOK aN)
def zKI:=zbt base 16 [(52,zCB)]
def zAt (g:Fc) (p1:Fc):Wy0 (Bool):=.i (decide (p1.Exp<=g.Exp)) (.bn (znq (At.mk p1.At.Kind p1.At.Row p1.At.Ag p1.At.Func p1.At.Items p1.At.Op p1.At.Bd) (At.mk g.At.Kind g.At.Row g.At.Ag g.At.Func g.At.Items g.At.Op g.At.Bd)) λr0=>.k r0) (.k false)
def ze6 (g:Fc) (p1:Fc):=(zAt g p1).fin default
def zMq:AL base (Fc×Fc×Unit):=ze (zf (zcV 69)) (ze (zf (zBc 69)) zu)
def ziv:=zi zMq λx=>((ze6 x.1 x.2.1).1,zYt (ze6 x.1 x.2.1).2)
theorem zmw:SdP 51 ziv:=
 sT (cx':=zKI) (zk ⟨zN1,trivial⟩) call51 func51 (lOK aN)
abbrev zeO:=yD×(Fc×Unit)×Int×Int×Unit
def zki (s:yD) (f:Fc) (t7:Int) (t8:Int):Wy zeO Unit (Int⊕Unit):=.i (decide (t8<t7)) (.i (decide (0<=t8)&&decide (t8<Int.ofNat s.length)) (.bn (ze6 (FO.mk (At.mk (s.getD t8.toNat default).At.Kind (s.getD t8.toNat default).At.Row (s.getD t8.toNat default).At.Ag (s.getD t8.toNat default).At.Func (s.getD t8.toNat default).At.Items (s.getD t8.toNat default).At.Op (s.getD t8.toNat default).At.Bd) (s.getD t8.toNat default).Exp) (FO.mk (At.mk f.At.Kind f.At.Row f.At.Ag f.At.Func f.At.Items f.At.Op f.At.Bd) f.Exp)) λr0=>.i (r0) (.k (.inl t8)) (.h (s,(f,()),t7,(IntKind.i64.wrap (t8+1)),()) ())) .d) (.k (.inr ()))
def zdQ (x:zeO) (y:Unit):=zki x.1 x.2.1.1 x.2.2.1 x.2.2.2.1
def zkn (n:Nat) (s:yD) (f:Fc) (t7:Int) (t8:Int):=zC (zdQ) (.inl default) n (s,(f,()),t7,t8,()) ()
def zvd:LL ty zeO:=za (lSl 69) (za (lFn 51 (za (zoD (zh1 (λx=>(⟨⟨x.1,⟨x.2.1,x.2.2.1⟩,x.2.2.2.1,x.2.2.2.2.1,x.2.2.2.2.2.1,x.2.2.2.2.2.2.1,⟨x.2.2.2.2.2.2.2.1,x.2.2.2.2.2.2.2.2.1,x.2.2.2.2.2.2.2.2.2.1⟩⟩,x.2.2.2.2.2.2.2.2.2.2.1⟩:Fc)) (λx=>(x.At.Kind,x.At.Row.Table,x.At.Row.Seq,x.At.Ag,x.At.Func,x.At.Items,x.At.Op,x.At.Bd.Kind,x.At.Bd.Int,x.At.Bd.Text,x.Exp,())) (λ_=>rfl) (za zj (za zj (za zj (za (lSl 23) (za zj (za (lSl 100) (za zj (za zj (za zj (za zsR (za zj zl)))))))))))) 0) zl)) (za zj (za zj zl)))
def zuc (x:zeO) (y:Unit):Nat:=(x.1.length+x.2.1.1.At.Ag.length+x.2.1.1.At.Items.length+Int.toNat x.2.2.1+Int.toNat x.2.2.2.1+1000)
def zks:=zb3 base 19 [(51,ziv)] [] [(2,(kpL [0,1,7,8]))] [(2,1,[]),(2,0,(kpL [4]))] [(2,spW zvd zZe (zdQ) (.inl default) ztL zuc)] []
theorem ztR:zF zks (lp (body f103) 0):=zq (id:=2) (hl:=rfl)
def zkM (s:yD) (f:Fc):Wy0 (Int):=.bn (zkn (s.length+f.At.Ag.length+f.At.Items.length+(Int.ofNat s.length).toNat +Int.toNat 0+1000) s (FO.mk (At.mk f.At.Kind f.At.Row f.At.Ag f.At.Func f.At.Items f.At.Op f.At.Bd) f.Exp) (Int.ofNat s.length) 0) λr2=>.i (isL r2) (.k (getL r2)) (.k (-1:Int))
def zda (s:yD) (f:Fc):=(zkM s f).fin default
def zvx:AL base (yD×(Fc×Unit)×Unit):=ze (zf (vSl 69)) (ze (zf (vFn 51 (zdP (zBc 69) zb7))) zu)
def zjj:=zi zvx λx=>((zda x.1 x.2.1.1).1,z2L (zda x.1 x.2.1.1).2)
theorem zsV:SdP 103 zjj:=
 sT (cx':=zks) (zk ⟨zmw,trivial⟩) call103 func103 (lOK (aC ztR aN))
def zsK:=zbt base 9 [(51,ziv),(103,zjj)]
def zjg (s:yD) (f:Fc):Wy0 (Bool):=.bn (zda s (FO.mk (At.mk f.At.Kind f.At.Row f.At.Ag f.At.Func f.At.Items f.At.Op f.At.Bd) f.Exp)) λr0=>.k (decide (r0≥0))
def zcM (s:yD) (f:Fc):=(zjg s f).fin default
def zhU:=zi zvx λx=>((zcM x.1 x.2.1.1).1,zYt (zcM x.1 x.2.1.1).2)
theorem zql:SdP 49 zhU:=
 sT (cx':=zsK) (zk ⟨zmw,zsV,trivial⟩) call49 func49 (lOK aN)
def zPM:=zbt base 9 [(49,zhU),(51,ziv)]
def zDW (f:Fc) (p1:Term):Wy0 (Bool):=.bn (zcM p1.Fs (FO.mk (At.mk f.At.Kind f.At.Row f.At.Ag f.At.Func f.At.Items f.At.Op f.At.Bd) f.Exp)) λr0=>.k (!r0)
def zgm (f:Fc) (p1:Term):=(zDW f p1).fin default
def zQm:AL base (Fc×Term×Unit):=ze (zf (zcV 69)) (ze (zf (zBc 28)) zu)
def zk1:=zi zQm λx=>((zgm x.1 x.2.1).1,zYt (zgm x.1 x.2.1).2)
theorem zo1:SdP 50 zk1:=
 sT (cx':=zPM) (zk ⟨zql,zmw,trivial⟩) call50 func50 (lOK aN)
abbrev ze2:=yD×(Term×Unit)×Int×Int×Unit
def zkN (s:yD) (f:Term) (t7:Int) (t8:Int):Wy ze2 Unit (Int⊕Unit):=.i (decide (t8<t7)) (.i (decide (0<=t8)&&decide (t8<Int.ofNat s.length)) (.bn (zgm (FO.mk (At.mk (s.getD t8.toNat default).At.Kind (s.getD t8.toNat default).At.Row (s.getD t8.toNat default).At.Ag (s.getD t8.toNat default).At.Func (s.getD t8.toNat default).At.Items (s.getD t8.toNat default).At.Op (s.getD t8.toNat default).At.Bd) (s.getD t8.toNat default).Exp) f) λr0=>.i (r0) (.k (.inl t8)) (.h (s,(f,()),t7,(IntKind.i64.wrap (t8+1)),()) ())) .d) (.k (.inr ()))
def zd7 (x:ze2) (y:Unit):=zkN x.1 x.2.1.1 x.2.2.1 x.2.2.2.1
def zkE (n:Nat) (s:yD) (f:Term) (t7:Int) (t8:Int):=zC (zd7) (.inl default) n (s,(f,()),t7,t8,()) ()
def zvH:LL ty ze2:=za (lSl 69) (za (lFn 50 (za (zoD (zh1 (λx=>(⟨x.1,x.2.1⟩:Term)) (λx=>(x.Cf,x.Fs,())) (λ_=>rfl) (za zj (za (lSl 69) zl))) 0) zl)) (za zj (za zj zl)))
def zuK (x:ze2) (y:Unit):Nat:=(x.1.length+x.2.1.1.Fs.length+Int.toNat x.2.2.1+Int.toNat x.2.2.2.1+1000)
def zkV:=zb3 base 19 [(50,zk1)] [] [(2,(kpL [0,1,7,8]))] [(2,1,[]),(2,0,(kpL [4]))] [(2,spW zvH zZe (zd7) (.inl default) ztL zuK)] []
theorem zuF:zF zkV (lp (body f103) 0):=zq (id:=2) (hl:=rfl)
def zk3 (s:yD) (f:Term):Wy0 (Int):=.bn (zkE (s.length+f.Fs.length+(Int.ofNat s.length).toNat +Int.toNat 0+1000) s f (Int.ofNat s.length) 0) λr2=>.i (isL r2) (.k (getL r2)) (.k (-1:Int))
def zdi (s:yD) (f:Term):=(zk3 s f).fin default
def zwm:AL base (yD×(Term×Unit)×Unit):=ze (zf (vSl 69)) (ze (zf (vFn 50 (zdP (zBc 28) zb7))) zu)
def zjJ:=zi zwm λx=>((zdi x.1 x.2.1.1).1,z2L (zdi x.1 x.2.1.1).2)
theorem ztn:SdP 103 zjJ:=
 sT (cx':=zkV) (zk ⟨zo1,trivial⟩) call103 func103 (lOK (aC zuF aN))
def zts:=zbt base 9 [(50,zk1),(103,zjJ)]
def zjZ (s:yD) (f:Term):Wy0 (Bool):=.bn (zdi s f) λr0=>.k (decide (r0≥0))
def zcQ (s:yD) (f:Term):=(zjZ s f).fin default
def zih:=zi zwm λx=>((zcQ x.1 x.2.1.1).1,zYt (zcQ x.1 x.2.1.1).2)
theorem zqB:SdP 49 zih:=
 sT (cx':=zts) (zk ⟨zo1,ztn,trivial⟩) call49 func49 (lOK aN)
def zUX:=zbt base 10 [(49,zih),(50,zk1)]
def zHl (a:Term) (b:Term):Wy0 (Bool):=.bn (zcQ a.Fs b) λr0=>.k (!r0)
def zfA (a:Term) (b:Term):=(zHl a b).fin default
def zj4:=zi zQO λx=>((zfA x.1 x.2.1).1,zYt (zfA x.1 x.2.1).2)
theorem zms:SdP 14 zj4:=
 sT (cx':=zUX) (zk ⟨zqB,zo1,trivial⟩) call14 func14 (lOK aN)
end Go.Proofs.YtljlfiomikifjaaGreatDoor
end
