/- Texts of this claim, joined (the program, its functions in plain words, and what they compute). -/
import Derived.Test.YtoknknbmfmddbaaGreatDoorGC3
set_option autoImplicit false
set_option linter.unusedVariables false
set_option linter.unusedSectionVars false
set_option linter.unusedSimpArgs false
set_option maxRecDepth 1000000
set_option maxHeartbeats 0
noncomputable section
namespace Go.Proofs.YtoknknbmfmddbaaGreatDoor
open Go Go.Ab
open Go.Proofs.Tryz
abbrev zfs:=List (yC)×Int×List (yC)×Int×Int×Unit
abbrev zop:=List (yC)×Int
abbrev zfp:=Unit×List (yC)×Int×Int×Unit
abbrev zfr:=yC×Unit
def zdk (slices:List (yC)) (size:Int) (t9:List (yC)) (t10:Int) (t11:Int):Wy zfs Unit zop:=.i (decide (t11<t10)) (.ix t11 t9.length (.i (decide (IntKind.i64.wrap (size+Int.ofNat (List.length (t9.getD t11.toNat default)))<0)) .d (.h (slices,(IntKind.i64.wrap (size+Int.ofNat (List.length (t9.getD t11.toNat default)))),t9,t10,(IntKind.i64.wrap (t11+1)),()) ()))) (.k (slices,size))
def zgZ (x:zfs) (y:Unit):=zdk x.1 x.2.1 x.2.2.1 x.2.2.2.1 x.2.2.2.2.1
def zl0 (n:Nat) (slices:List (yC)) (size:Int) (t9:List (yC)) (t10:Int) (t11:Int):=zy (zgZ) default n (slices,size,t9,t10,t11,()) ()
def zxn (r:zop):LTree ty:=.done (.exit 0) [.sl 105 r.1,.lit (.int .i64 r.2)] []
def zxZ:LL ty zfs:=za (lSl 105) (za zj (za (lSl 105) (za zj (za zj zk))))
def zdc (t25:List (yC)) (t26:Int) (t27:Int) (newslice:yC):Wy zfp zfr (yC):=.i (decide (t27<t26)) (.ix t27 t25.length (.i (decide ((newslice.length+List.length (t25.getD t27.toNat default))*128<=zD)) (.h ((),t25,t26,(IntKind.i64.wrap (t27+1)),()) ((newslice++t25.getD t27.toNat default),())) .d)) (.k newslice)
def zgE (x:zfp) (y:zfr):=zdc x.2.1 x.2.2.1 x.2.2.2.1 y.1
def zlD (n:Nat) (t25:List (yC)) (t26:Int) (t27:Int) (newslice:yC):=zy (zgE) default n ((),t25,t26,t27,()) (newslice,())
def zv7 (r:yC):LTree ty:=.done (.exit 2) [.own 144] [.arr 145 r false]
def zxc:LL ty zfp:=za (zeD 144) (za (lSl 105) (za zj (za zj zk)))
def zwQ:BL ty zfr:=zeG 145 false (zY)
def zwT (x:zfs) (y:Unit):Nat:=(x.1.length+Int.toNat x.2.1+x.2.2.1.length+Int.toNat x.2.2.2.1+Int.toNat x.2.2.2.2.1+1)
def zwf (x:zfp) (y:zfr):Nat:=(x.2.1.length+Int.toNat x.2.2.1+Int.toNat x.2.2.2.1+y.1.length+1)
def zgM:=zbV base 36 [(303,zlY)] [] [(3,(kpL [0,3,9,10,11])),(11,(kpL [6,25,26,27]))] [(3,1,(kpL [0,3])),(11,3,(kpL [6]))] [(3,spW zxZ zbaJ (zgZ) default zxn zwT),(11,spW zxc zwQ (zgE) default zv7 zwf)] [303]
theorem zwS:zC zgM (lp (body f282) 0):=zn (id:=3) (hl:=rfl)
theorem zv8:zC zgM (lp (body f282) 1):=zn (id:=11) (hl:=rfl)
def zmx (slices:List (yC)):Wy0 (yC):=.bn (zl0 (slices.length+Int.toNat 0+slices.length+(Int.ofNat slices.length).toNat +Int.toNat 0+1) slices 0 slices (Int.ofNat slices.length) 0) λr2=>.bn (zen r2.2) λr1=>.bn (zlD (r2.1.length+(Int.ofNat r2.1.length).toNat +Int.toNat 0+r1.length+1) r2.1 (Int.ofNat r2.1.length) 0 r1) λr0=>.k r0
def zdV (slices:List (yC)):=(zmx slices).fin default
def zyD:AL base (List (yC)×Unit):=zd (ze (vSl 105)) zp
def zk2:=zh zyD λx=>((zdV x.1).1,zyQ (zdV x.1).2)
theorem zvr:SdP 282 zk2:=
 sT (cx':=zgM) (zi ⟨zxl,trivial⟩) call282 func282 (lOK (aC zwS (aC zv8 aN))) (sg:=⟨[.own 145],[]⟩)
abbrev zt0:=yC×yC×Unit×Unit
abbrev ztX:=yC×Unit
abbrev zIS:=yC×yC×yC
def zzv (a:yC) (b:yC) (out_:yC):Wy zt0 ztX zIS:=.i (decide (Int.ofNat a.length>0)) (.i (decide (Int.ofNat b.length>0)) (.ix 0 a.length (.ix 0 b.length (.bn (zjl (At.et ((a.getD (Int.toNat 0) default).At)) (At.et ((b.getD (Int.toNat 0) default).At))) λr1=>.i (decide (r1<0)) (.ix 0 a.length (.i (decide ((out_.length+[FO.mk (At.et ((a.getD (Int.toNat 0) default).At)) (a.getD (Int.toNat 0) default).Exp].length)*128<=zD)) (.i (decide ((0:Int)<=(1:Int))&&decide (1<=Int.ofNat a.length)&&decide (Int.ofNat a.length<=Int.ofNat a.length)) (.h ((List.take ((Int.ofNat a.length).toNat - Int.toNat 1) (List.drop (Int.toNat 1) a)),b,(),()) ((out_++[FO.mk (At.et ((a.getD (Int.toNat 0) default).At)) (a.getD (Int.toNat 0) default).Exp]),())) .d) .d)) (.i (decide (r1>0)) (.ix 0 b.length (.i (decide ((out_.length+[FO.mk (At.et ((b.getD (Int.toNat 0) default).At)) (b.getD (Int.toNat 0) default).Exp].length)*128<=zD)) (.i (decide ((0:Int)<=(1:Int))&&decide (1<=Int.ofNat b.length)&&decide (Int.ofNat b.length<=Int.ofNat b.length)) (.h (a,(List.take ((Int.ofNat b.length).toNat - Int.toNat 1) (List.drop (Int.toNat 1) b)),(),()) ((out_++[FO.mk (At.et ((b.getD (Int.toNat 0) default).At)) (b.getD (Int.toNat 0) default).Exp]),())) .d) .d)) (.ix 0 a.length (.bn (zf0 (At.et ((a.getD (Int.toNat 0) default).At))) λr0=>.i (!r0) (.ix 0 b.length (.i (decide ((out_.length+[FO.mk (At.et ((a.getD (Int.toNat 0) default).At)) (IntKind.i64.wrap ((a.getD (Int.toNat 0) default).Exp+(b.getD (Int.toNat 0) default).Exp))].length)*128<=zD)) (.i (decide ((0:Int)<=(1:Int))&&decide (1<=Int.ofNat a.length)&&decide (Int.ofNat a.length<=Int.ofNat a.length)) (.i (decide ((0:Int)<=(1:Int))&&decide (1<=Int.ofNat b.length)&&decide (Int.ofNat b.length<=Int.ofNat b.length)) (.h ((List.take ((Int.ofNat a.length).toNat - Int.toNat 1) (List.drop (Int.toNat 1) a)),(List.take ((Int.ofNat b.length).toNat - Int.toNat 1) (List.drop (Int.toNat 1) b)),(),()) ((out_++[FO.mk (At.et ((a.getD (Int.toNat 0) default).At)) (IntKind.i64.wrap ((a.getD (Int.toNat 0) default).Exp+(b.getD (Int.toNat 0) default).Exp))]),())) .d) .d) .d)) (.i (decide ((out_.length+[FO.mk (At.et ((a.getD (Int.toNat 0) default).At)) (a.getD (Int.toNat 0) default).Exp].length)*128<=zD)) (.i (decide ((0:Int)<=(1:Int))&&decide (1<=Int.ofNat a.length)&&decide (Int.ofNat a.length<=Int.ofNat a.length)) (.i (decide ((0:Int)<=(1:Int))&&decide (1<=Int.ofNat b.length)&&decide (Int.ofNat b.length<=Int.ofNat b.length)) (.h ((List.take ((Int.ofNat a.length).toNat - Int.toNat 1) (List.drop (Int.toNat 1) a)),(List.take ((Int.ofNat b.length).toNat - Int.toNat 1) (List.drop (Int.toNat 1) b)),(),()) ((out_++[FO.mk (At.et ((a.getD (Int.toNat 0) default).At)) (a.getD (Int.toNat 0) default).Exp]),())) .d) .d) .d))))))) (.k (a,b,out_))) (.k (a,b,out_))
def zI0 (x:zt0) (y:ztX):=zzv x.1 x.2.1 y.1
def zz5 (n:Nat) (a:yC) (b:yC) (out_:yC):=zy (zI0) default n (a,b,(),()) (out_,())
def zW1 (r:zIS):LTree ty:=.done (.exit 0) [.sl 145 r.1,.sl 145 r.2.1,.own 300] [.arr 145 r.2.2 false]
def z0i:LL ty zt0:=za (lSl 145) (za (lSl 145) (za (zeD 300) zk))
def z0c:BL ty ztX:=zeG 145 false (zY)
def zWL (x:zt0) (y:ztX):Nat:=(x.1.length+x.2.1.length+y.1.length+1)
def zJv:=zbV base 75 [(105,zj7),(106,zmW),(282,zk2)] [] [(2,[(0,.keep),(1,.keep),(5,.own 145)])] [(2,1,(kpL [0,1,5]))] [(2,spW z0i z0c (zI0) default zW1 zWL)] []
theorem zXe:zC zJv (lp (body f239) 0):=zn (id:=2) (hl:=rfl)
def zKG (a:yC) (b:yC):Wy0 (yC):=.bn (zz5 (a.length+b.length+0+1) a b []) λr5=>.bn (zdV [r5.2.2,r5.1,r5.2.1]) λr4=>.k r4
def zon (a:yC) (b:yC):=(zKG a b).fin default
def z1e:AL base (yC×yC×Unit):=zd (ze (vSl 145)) (zd (ze (vSl 145)) zp)
def zFr:=zh z1e λx=>((zon x.1 x.2.1).1,zyQ (zon x.1 x.2.1).2)
theorem zSd:SdP 239 zFr:=
 sT (cx':=zJv) (zi ⟨znW,zuR,zvr,trivial⟩) call239 func239 (lOK (aC zXe aN)) (sg:=⟨[.own 145],[]⟩)
def zWR:=zbp base 12 []
def zIV (a:Int) (b:Int):Wy0 (Int):=.i (!decide (b=0)) (.i (decide (a>IntKind.i64.wrap (Int.tdiv 1152921504606846976 b))) (.k 1152921504606846976) (.k (IntKind.i64.wrap (a*b)))) .d
def zrH (a:Int) (b:Int):=(zIV a b).fin default
def zD5:=zh zW3 λx=>((zrH x.1 x.2.1).1,zQ3 (zrH x.1 x.2.1).2)
theorem zQB:SdP 238 zD5:=
 sT (cx':=zWR) (zi trivial) call238 func238 (lOK aN)
abbrev zu7:=yB×Unit×Unit×yB×Int×Int×yB×Int×Int×Unit
abbrev zu5:=yB×Term×Unit
abbrev zKT:=yB×yB×Int×Int×yB
abbrev zva:=yB×Unit×yB×Int×Int×Unit
abbrev zu6:=yB×Unit
def zpu (b:yB) (t19:yB) (t20:Int) (t21:Int) (t25:yB) (t26:Int) (t27:Int) (terms:yB) (x_:Term):Wy zu7 zu5 zKT:=.i (decide (t27<t26)) (.ix t27 t25.length (.bn (zrH x_.Cf (t25.getD t27.toNat default).Cf) λr5=>.bn (zon x_.Fs (t25.getD t27.toNat default).Fs) λr4=>.i (decide ((terms.length+[TO.mk r5 r4].length)*32<=zD)) (.h (b,(),(),t19,t20,t21,t25,t26,(IntKind.i64.wrap (t27+1)),()) ((terms++[TO.mk r5 r4]),x_,())) .d)) (.k (b,t19,t20,t21,terms))
def zBK (x:zu7) (y:zu5):=zpu x.1 x.2.2.2.1 x.2.2.2.2.1 x.2.2.2.2.2.1 x.2.2.2.2.2.2.1 x.2.2.2.2.2.2.2.1 x.2.2.2.2.2.2.2.2.1 y.1 y.2.1
def zKR (n:Nat) (b:yB) (t19:yB) (t20:Int) (t21:Int) (t25:yB) (t26:Int) (t27:Int) (terms:yB) (x_:Term):=zy (zBK) default n (b,(),(),t19,t20,t21,t25,t26,t27,()) (terms,x_,())
def zZp (r:zKT):LTree ty:=.done (.exit 2) [.sl 107 r.1,.own 208,.sl 107 r.2.1,.lit (.int .i64 r.2.2.1),.lit (.int .i64 r.2.2.2.1)] [.arr 107 r.2.2.2.2 false]
def z1I:LL ty zu7:=za (lSl 107) (za (zeD 208) (za (zcm 209 0) (za (lSl 107) (za zj (za zj (za (lSl 107) (za zj (za zj zk))))))))
def z05:BL ty zu5:=zeG 107 false (zdx (zdi (λx=>(⟨x.1,x.2.1⟩:Term)) (λx=>(x.Cf,x.Fs,())) (λ_=>rfl) (za (zL .i64) (za (lSl 145) zk))) false (zY))
def zpn (b:yB) (t19:yB) (t20:Int) (t21:Int) (terms:yB):Wy zva zu6 (yB):=.i (decide (t21<t20)) (.ix t21 t19.length (.bn (zKR (b.length+t19.length+t20.toNat +t21.toNat +b.length+(Int.ofNat b.length).toNat +Int.toNat 0+terms.length+(t19.getD t21.toNat default).Fs.length+1) b t19 t20 t21 b (Int.ofNat b.length) 0 terms (t19.getD t21.toNat default)) λr8=>.h ((r8.1),(),(r8.2.1),(r8.2.2.1),(IntKind.i64.wrap (r8.2.2.2.1+1)),()) ((r8.2.2.2.2),()))) (.k terms)
def zBv (x:zva) (y:zu6):=zpn x.1 x.2.2.1 x.2.2.2.1 x.2.2.2.2.1 y.1
def zBI (n:Nat) (b:yB) (t19:yB) (t20:Int) (t21:Int) (terms:yB):=zy (zBv) default n (b,(),t19,t20,t21,()) (terms,())
def z15:LL ty zva:=za (lSl 107) (za (zeD 208) (za (lSl 107) (za zj (za zj zk))))
def z1R:BL ty zu6:=zeG 107 false (zY)
def zZ8 (x:zu7) (y:zu5):Nat:=(x.1.length+x.2.2.2.1.length+Int.toNat x.2.2.2.2.1+Int.toNat x.2.2.2.2.2.1+x.2.2.2.2.2.2.1.length+Int.toNat x.2.2.2.2.2.2.2.1+Int.toNat x.2.2.2.2.2.2.2.2.1+y.1.length+y.2.1.Fs.length+1)
def zYd (x:zva) (y:zu6):Nat:=(x.1.length+x.2.2.1.length+Int.toNat x.2.2.2.1+Int.toNat x.2.2.2.2.1+y.1.length+1)
def zBz:=zbV zby 52 [(52,zcz),(124,ze0),(125,zsK),(238,zD5),(239,zFr)] [] [(5,[(1,.keep),(6,.own 107),(19,.keep),(20,.keep),(21,.keep)]),(8,[(1,.keep),(6,.own 107),(8,.keep),(19,.keep),(20,.keep),(21,.keep),(25,.keep),(26,.keep),(27,.keep)])] [(5,1,(kpL [6])),(8,3,(kpL [1,6,19,20,21]))] [(8,spW z1I z05 (zBK) default zZp zZ8),(5,spW z15 z1R (zBv) default zQe zYd)] []
theorem zZG:zC zBz (lp (body f199) 1):=zn (id:=8) (hl:=rfl)
theorem zYk:zC zBz (lp (body f199) 0):=zn (id:=5) (hl:=rfl)
def zNx (a:yB) (b:yB):Wy0 (yB×Int):=.bn (zci a) λr14=>.i (!r14) (.k ([],1)) (.bn (zci b) λr13=>.i (!r13) (.k ([],1)) (.bn (zBI (b.length+a.length+(Int.ofNat a.length).toNat +Int.toNat 0+0+1) b a (Int.ofNat a.length) 0 []) λr12=>.bn (zis r12) λr11=>.bn (zeC r11) λr10=>.k (r10.1,r10.2)))
def zvQ (a:yB) (b:yB):=(zNx a b).fin default
def zGx:=zh z3R λx=>((zvQ x.1 x.2.1).1,zQk (zvQ x.1 x.2.1).2)
theorem zVq:Sound Tryz.prog zby 199 zGx:=
 sU (cx':=zBz) (zi ⟨zcG.nodr,zfW.nodr,zAa,zQB.nodr,zSd.nodr,trivial⟩) call199 func199 (lOK (aC zYk (aC zZG aN))) (sg:=⟨[.own 107,.pure],[]⟩)
def zFO:=zbp base 8 []
def zuS (b:Bg) (p1:RowID):Wy0 (Bool):=.k (b.Row.Table==p1.Table&&(b.Row.Seq==p1.Seq&&true))
def zgi (b:Bg) (p1:RowID):=(zuS b p1).fin default
def zGi:AL base (Bg×RowID×Unit):=zd (ze (zb7 65)) (zd (ze (z5q 63)) zp)
def zkj:=zh zGi λx=>((zgi x.1 x.2.1).1,zXz (zgi x.1 x.2.1).2)
theorem zqB:SdP 140 zkj:=
 sT (cx':=zFO) (zi trivial) call140 func140 (lOK aN)
def zTk:=zbp base 8 []
def zGH (x_:At):Wy0 (yB):=.k [TO.mk 1 [FO.mk (At.et x_) 1]]
def zfH (x_:At):=(zGH x_).fin default
def zg9:=zh zbcy λx=>((zfH x.1).1,z7K (zfH x.1).2)
theorem zjb:SdP 117 zg9:=
 sT (cx':=zTk) (zi trivial) call117 func117 (lOK aN) (sg:=⟨[.own 107],[]⟩)
def z18:=zbp base 9 [(116,zu2),(117,zg9)]
def zMv (id:RowID):Wy0 (yB):=.bn (zrj id) λr0=>.i (!r0) (.k []) (.k ((zfH (At.mk 0 id [] 0 [] 0 (Value.mk 0 0 (ByteArray.mk #[])))).2))
def zvR (id:RowID):=(zMv id).fin default
def zGO:=zh zbeA λx=>((zvR x.1).1,z7K (zvR x.1).2)
theorem zUx:SdP 63 zGO:=
 sT (cx':=z18) (zi ⟨zzB,zjb,trivial⟩) call63 func63 (lOK aN) (sg:=⟨[.own 107],[]⟩)
abbrev zeb:=yE×(RowID×Unit)×Int×Int×Unit
def zst (s:yE) (f:RowID) (t7:Int) (t8:Int):Wy zeb Unit (Int⊕Unit):=.i (decide (t8<t7)) (.ix t8 s.length (.i ((zgi (s.getD t8.toNat default) f).2) (.k (.inl t8)) (.h (s,(f,()),t7,(IntKind.i64.wrap (t8+1)),()) ()))) (.k (.inr ()))
def ziP (x:zeb) (y:Unit):=zst x.1 x.2.1.1 x.2.2.1 x.2.2.2.1
def zsk (n:Nat) (s:yE) (f:RowID) (t7:Int) (t8:Int):=zy (ziP) (.inl default) n (s,(f,()),t7,t8,()) ()
def zsd:LL ty zeb:=za (lSl 65) (za (lFn 140 (za (zIK (zdi (λx=>(⟨x.1,x.2.1⟩:RowID)) (λx=>(x.Table,x.Seq,())) (λ_=>rfl) (za zj (za zj zk))) 0) zk)) (za zj (za zj zk)))
def zrQ (x:zeb) (y:Unit):Nat:=(x.1.length+Int.toNat x.2.2.1+Int.toNat x.2.2.2.1+1)
def ziM:=zbV base 19 [(140,zkj)] [] [(2,(kpL [0,1,7,8]))] [(2,1,[]),(2,0,(kpL [4]))] [(2,spW zsd zbaJ (ziP) (.inl default) zsB zrQ)] []
theorem zri:zC ziM (lp (body f139) 0):=zn (id:=2) (hl:=rfl)
def zsH (s:yE) (f:RowID):Wy0 (Int):=.bn (zsk (s.length+(Int.ofNat s.length).toNat +Int.toNat 0+1) s f (Int.ofNat s.length) 0) λr0=>.i (isL r0) (.k (getL r0)) (.k (-1:Int))
def zcJ (s:yE) (f:RowID):=(zsH s f).fin default
def zs0:AL base (yE×(RowID×Unit)×Unit):=zd (ze (vSl 65)) (zd (ze (vFn 140 (zAL (z5q 63) zdg))) zp)
def zh6:=zh zs0 λx=>((zcJ x.1 x.2.1.1).1,zQ3 (zcJ x.1 x.2.1.1).2)
theorem zpW:SdP 139 zh6:=
 sT (cx':=ziM) (zi ⟨zqB,trivial⟩) call139 func139 (lOK (aC zri aN))
def zJn:=zbp base 18 [(63,zGO),(139,zh6),(140,zkj),(141,zhc)]
def zxU (id:RowID) (p1:yE):Wy0 (yB):=.bn (zcJ p1 id) λr2=>.i (decide (r2≥0)) (.ix r2 p1.length (.bn (zhk (p1.getD r2.toNat default).To) λr0=>.k r0)) (.bn (zvR id) λr1=>.k r1)
def ziD (id:RowID) (p1:yE):=(zxU id p1).fin default
def zJX:AL base (RowID×(yE×Unit)×Unit):=zd (ze (zb7 63)) (zd (ze (z8A (zAL (vSl 65) zdg))) zp)
def zig:=zh zJX λx=>((ziD x.1 x.2.1.1).1,z7K (ziD x.1 x.2.1.1).2)
theorem zlz:SdP 138 zig:=
 sT (cx':=zJn) (zi ⟨zUx,zpW,zqB,zje,trivial⟩) call138 func138 (lOK aN) (sg:=⟨[.own 107],[]⟩)
abbrev zof:=((yE×Unit)×Unit)×Unit×Unit×yB×Int×yB×Int×Int×yC×Int×Int×Int×Int×Unit
abbrev zeU:=yB×yB×Unit
abbrev zDB:=yE×Int×yB×Int×Int×yC×Int×Int×yB×yB
abbrev zoe:=((yE×Unit)×Unit)×Unit×Unit×yB×Int×Int×yC×Int×Int×Unit
abbrev zDA:=Int⊕(yE×yB×Int×Int×yB×yB)
abbrev zok:=((yE×Unit)×Unit)×Unit×yB×Int×Int×Unit
abbrev zol:=yB×Unit
abbrev zDW:=Int⊕yB
def zrv (zo:At->yE->Bool×(yB×Int)) (to:yE) (b:yB) (e:Int) (t16:yB) (t17:Int) (t18:Int) (t26:yC) (t27:Int) (t28:Int) (t40:Int) (t41:Int) (sum:yB) (product:yB):Wy zof zeU zDB:=.i (decide (t41<t40)) (.i (e==0) (.bn (zvQ product b) λr6=>.h (((to,()),()),(),(),b,(r6.2),t16,t17,t18,t26,t27,t28,t40,(IntKind.i64.wrap (t41+1)),()) (sum,(r6.1),())) (.h (((to,()),()),(),(),b,e,t16,t17,t18,t26,t27,t28,t40,(IntKind.i64.wrap (t41+1)),()) (sum,product,()))) (.k (to,e,t16,t17,t18,t26,t27,t28,sum,product))
def zAk (zo:At->yE->Bool×(yB×Int)) (x:zof) (y:zeU):=zrv zo x.1.1.1 x.2.2.2.1 x.2.2.2.2.1 x.2.2.2.2.2.1 x.2.2.2.2.2.2.1 x.2.2.2.2.2.2.2.1 x.2.2.2.2.2.2.2.2.1 x.2.2.2.2.2.2.2.2.2.1 x.2.2.2.2.2.2.2.2.2.2.1 x.2.2.2.2.2.2.2.2.2.2.2.1 x.2.2.2.2.2.2.2.2.2.2.2.2.1 y.1 y.2.1
def zrA (zo:At->yE->Bool×(yB×Int)) (n:Nat) (to:yE) (b:yB) (e:Int) (t16:yB) (t17:Int) (t18:Int) (t26:yC) (t27:Int) (t28:Int) (t40:Int) (t41:Int) (sum:yB) (product:yB):=zy (zAk zo) default n (((to,()),()),(),(),b,e,t16,t17,t18,t26,t27,t28,t40,t41,()) (sum,product,())
def zLI (r:zDB):LTree ty:=.done (.exit 4) [.fn 138 ([.bptr ([.sl 65 r.1]) 0]),.own 272,.own 273,.lit (.int .i64 r.2.1),.sl 107 r.2.2.1,.lit (.int .i64 r.2.2.2.1),.lit (.int .i64 r.2.2.2.2.1),.sl 145 r.2.2.2.2.2.1,.lit (.int .i64 r.2.2.2.2.2.2.1),.lit (.int .i64 r.2.2.2.2.2.2.2.1)] [.arr 107 r.2.2.2.2.2.2.2.2.1 false,.arr 107 r.2.2.2.2.2.2.2.2.2 false]
def zM6:LL ty zof:=za (lFn 138 (za (zIK (za (lSl 65) zk) 0) zk)) (za (zeD 272) (za (zeD 273) (za (lSl 107) (za zj (za (lSl 107) (za zj (za zj (za (lSl 145) (za zj (za zj (za zj (za zj zk))))))))))))
def zMo:BL ty zeU:=zeG 107 false (zeG 107 false (zY))
def zsP (zo:At->yE->Bool×(yB×Int)) (to:yE) (t16:yB) (t17:Int) (t18:Int) (t26:yC) (t27:Int) (t28:Int) (sum:yB) (product:yB):Wy zoe zeU zDA:=.i (decide (t28<t27)) (.ix t28 t26.length (.bn (zo (At.et ((t26.getD t28.toNat default).At)) to) λr9=>.bn (zrA zo (to.length+r9.1.length+r9.2.toNat +t16.length+t17.toNat +t18.toNat +t26.length+t27.toNat +t28.toNat +(t26.getD t28.toNat default).Exp.toNat +Int.toNat 0+sum.length+product.length+1) to r9.1 r9.2 t16 t17 t18 t26 t27 t28 (t26.getD t28.toNat default).Exp 0 sum product) λr8=>.i (r8.2.1 != 0) (.k (.inl (r8.2.1))) (.h ((((r8.1),()),()),(),(),(r8.2.2.1),(r8.2.2.2.1),(r8.2.2.2.2.1),(r8.2.2.2.2.2.1),(r8.2.2.2.2.2.2.1),(IntKind.i64.wrap (r8.2.2.2.2.2.2.2.1+1)),()) ((r8.2.2.2.2.2.2.2.2.1),(r8.2.2.2.2.2.2.2.2.2),())))) (.k (.inr (to,t16,t17,t18,sum,product)))
def zAW (zo:At->yE->Bool×(yB×Int)) (x:zoe) (y:zeU):=zsP zo x.1.1.1 x.2.2.2.1 x.2.2.2.2.1 x.2.2.2.2.2.1 x.2.2.2.2.2.2.1 x.2.2.2.2.2.2.2.1 x.2.2.2.2.2.2.2.2.1 y.1 y.2.1
def zsT (zo:At->yE->Bool×(yB×Int)) (n:Nat) (to:yE) (t16:yB) (t17:Int) (t18:Int) (t26:yC) (t27:Int) (t28:Int) (sum:yB) (product:yB):=zy (zAW zo) (.inl default) n (((to,()),()),(),(),t16,t17,t18,t26,t27,t28,()) (sum,product,())
def zNA (r:zDA):LTree ty:=.ite (isL r) (.done .ret [.lit (.slice none 0 0),.lit (.int .i64 (getL r))] []) (.done (.exit 2) [.fn 138 ([.bptr ([.sl 65 (getR r).1]) 0]),.own 272,.own 273,.sl 107 (getR r).2.1,.lit (.int .i64 (getR r).2.2.1),.lit (.int .i64 (getR r).2.2.2.1)] [.arr 107 (getR r).2.2.2.2.1 false,.arr 107 (getR r).2.2.2.2.2 false])
def zOq:LL ty zoe:=za (lFn 138 (za (zIK (za (lSl 65) zk) 0) zk)) (za (zeD 272) (za (zeD 273) (za (lSl 107) (za zj (za zj (za (lSl 145) (za zj (za zj zk))))))))
def zs6 (zo:At->yE->Bool×(yB×Int)) (to:yE) (t16:yB) (t17:Int) (t18:Int) (sum:yB):Wy zok zol zDW:=.i (decide (t18<t17)) (.ix t18 t16.length (.bn (zrq (t16.getD t18.toNat default).Cf) λr14=>.bn (zsT zo (to.length+t16.length+t17.toNat +t18.toNat +(t16.getD t18.toNat default).Fs.length+(Int.ofNat (t16.getD t18.toNat default).Fs.length).toNat +Int.toNat 0+sum.length+r14.length+1) to t16 t17 t18 (t16.getD t18.toNat default).Fs (Int.ofNat (t16.getD t18.toNat default).Fs.length) 0 sum r14) λr13=>.i (isL r13) (.k (.inl (getL r13))) (.bn (zqY (getR r13).2.2.2.2.1 (getR r13).2.2.2.2.2) λr12=>.i (r12.2 != 0) (.k (.inl (r12.2))) (.h ((((getR r13).1,()),()),(),(getR r13).2.1,(getR r13).2.2.1,(IntKind.i64.wrap ((getR r13).2.2.2.1+1)),()) ((r12.1),()))))) (.k (.inr sum))
def zAX (zo:At->yE->Bool×(yB×Int)) (x:zok) (y:zol):=zs6 zo x.1.1.1 x.2.2.1 x.2.2.2.1 x.2.2.2.2.1 y.1
def zs4 (zo:At->yE->Bool×(yB×Int)) (n:Nat) (to:yE) (t16:yB) (t17:Int) (t18:Int) (sum:yB):=zy (zAX zo) (.inl default) n (((to,()),()),(),t16,t17,t18,()) (sum,())
def zN6 (r:zDW):LTree ty:=.ite (isL r) (.done .ret [.lit (.slice none 0 0),.lit (.int .i64 (getL r))] []) (.done (.exit 0) [.own 272] [.arr 107 (getR r) false])
def zOP:LL ty zok:=za (lFn 138 (za (zIK (za (lSl 65) zk) 0) zk)) (za (zeD 272) (za (lSl 107) (za zj (za zj zk))))
def zOZ:BL ty zol:=zeG 107 false (zY)
def zLr (x:zof) (y:zeU):Nat:=(x.1.1.1.length+x.2.2.2.1.length+Int.toNat x.2.2.2.2.1+x.2.2.2.2.2.1.length+Int.toNat x.2.2.2.2.2.2.1+Int.toNat x.2.2.2.2.2.2.2.1+x.2.2.2.2.2.2.2.2.1.length+Int.toNat x.2.2.2.2.2.2.2.2.2.1+Int.toNat x.2.2.2.2.2.2.2.2.2.2.1+Int.toNat x.2.2.2.2.2.2.2.2.2.2.2.1+Int.toNat x.2.2.2.2.2.2.2.2.2.2.2.2.1+y.1.length+y.2.1.length+1)
def zMY (x:zoe) (y:zeU):Nat:=(x.1.1.1.length+x.2.2.2.1.length+Int.toNat x.2.2.2.2.1+Int.toNat x.2.2.2.2.2.1+x.2.2.2.2.2.2.1.length+Int.toNat x.2.2.2.2.2.2.2.1+Int.toNat x.2.2.2.2.2.2.2.2.1+y.1.length+y.2.1.length+1)
def zL7 (x:zok) (y:zol):Nat:=(x.1.1.1.length+x.2.2.1.length+Int.toNat x.2.2.2.1+Int.toNat x.2.2.2.2.1+y.1.length+1)
def zml (zo:At->yE->Bool×(yB×Int)):=zbV zby 68 [(72,zyp),(138,zig),(197,zDr),(198,(zlu zo)),(199,zGx)] [] [(3,[(1,.keep),(6,.own 107),(16,.keep),(17,.keep),(18,.keep)]),(7,(kpL [1,6,9,16,17,18,26,27,28])),(11,[(1,.keep),(6,.keep),(9,.keep),(12,.sl 107),(13,.keep),(16,.keep),(17,.keep),(18,.keep),(26,.keep),(27,.keep),(28,.keep),(40,.keep),(41,.keep)])] [(3,1,(kpL [6])),(3,0,(kpL [4,5])),(7,3,(kpL [1,6,9,16,17,18])),(7,0,(kpL [4,5])),(11,5,(kpL [1,6,9,13,16,17,18,26,27,28]))] [(11,spW zM6 zMo (zAk zo) default zLI zLr),(7,spW zOq zMo (zAW zo) (.inl default) zNA zMY),(3,spW zOP zOZ (zAX zo) (.inl default) zN6 zL7)] []
theorem zLu (zo:At->yE->Bool×(yB×Int)):zC (zml zo) (lp (body f137) 2):=zn (id:=11) (hl:=rfl)
theorem zMS (zo:At->yE->Bool×(yB×Int)):zC (zml zo) (lp (body f137) 1):=zn (id:=7) (hl:=rfl)
theorem zNv (zo:At->yE->Bool×(yB×Int)):zC (zml zo) (lp (body f137) 0):=zn (id:=3) (hl:=rfl)
def zBX (zo:At->yE->Bool×(yB×Int)) (a:yB) (to:yE):Wy0 (yB×Int):=.bn (zs4 zo (to.length+a.length+(Int.ofNat a.length).toNat +Int.toNat 0+0+1) to a (Int.ofNat a.length) 0 []) λr18=>.i (isL r18) (.k ([],getL r18)) (.k (getR r18,0))
def zlc (zo:At->yE->Bool×(yB×Int)) (a:yB) (to:yE):=(zBX zo a to).fin default
theorem zKx (zo:At->yE->Bool×(yB×Int)) (zJV:Sound Tryz.prog zby 198 (zlu zo)):Sound Tryz.prog zby 137 (zlp (zlc zo)):=
 sU (cx':=(zml zo)) (zi ⟨zFV,zlz.nodr,zQC.nodr,zJV,zVq,trivial⟩) call137 func137 (lOK (aC (zNv zo) (aC (zMS zo) (aC (zLu zo) aN)))) (sg:=⟨[.own 107,.pure],[]⟩)
def z1b:=zbp base 3 []
def z3u:Wy0 (yB):=.k [TO.mk 1 []]
def zvx:Bool×yB:=(z3u).fin default
def zr2:=zh z9e λx=>((zvx ).1,z7K (zvx ).2)
theorem zxr:SdP 278 zr2:=
 sT (cx':=z1b) (zi trivial) call278 func278 (lOK aN) (sg:=⟨[.own 107],[]⟩)
def zTu:=zbp base 23 [(52,zcz),(117,zg9),(124,ze0),(177,znx),(278,zr2)]
def zGP (a:yB):Wy0 (yB×Int):=.bn (zci a) λr2=>.i (!r2) (.k ([],1)) (.i (Int.ofNat a.length==0) (.k (zvx.2,0)) (.bn (zfm a) λr1=>.i (r1) (.k ([],0)) (.bn (zeC (zfH (At.mk 3 (RowID.mk 0 0) [a] 0 [] 0 (Value.mk 0 0 (ByteArray.mk #[])))).2) λr0=>.k (r0.1,r0.2))))
def zpK (a:yB):=(zGP a).fin default
def zB7:=zh zY9 λx=>((zpK x.1).1,zQk (zpK x.1).2)
theorem zOV:SdP 236 zB7:=
 sT (cx':=zTu) (zi ⟨zcG,zjb,zfW,zvd,zxr,trivial⟩) call236 func236 (lOK aN) (sg:=⟨[.own 107,.pure],[]⟩)
def zV6:=zbp base 29 [(52,zcz),(117,zg9),(124,ze0),(141,zhc),(175,zo4),(176,zum),(278,zr2)]
def zJd (a:yB):Wy0 (yB×Int):=.bn (zci a) λr5=>.i (!r5) (.k ([],1)) (.i (Int.ofNat a.length==0) (.bn (zhk a) λr0=>.k (r0,0)) (.bn (zlR a) λr4=>.i (r4) (.bn (zhk a) λr1=>.k (r1,0)) (.bn (zh1 a) λr3=>.i (r3) (.k (zvx.2,0)) (.bn (zeC (zfH (At.mk 2 (RowID.mk 0 0) [a] 0 [] 0 (Value.mk 0 0 (ByteArray.mk #[])))).2) λr2=>.k (r2.1,r2.2)))))
def zrR (a:yB):=(zJd a).fin default
def zDv:=zh zY9 λx=>((zrR x.1).1,zQk (zrR x.1).2)
theorem zQm:SdP 235 zDv:=
 sT (cx':=zV6) (zi ⟨zcG,zjb,zfW,zje,zwx,zA5,zxr,trivial⟩) call235 func235 (lOK aN) (sg:=⟨[.own 107,.pure],[]⟩)
def zWt:=zbp base 38 [(52,zcz),(115,zot),(117,zg9),(124,ze0),(141,zhc)]
def zIL (a:yB) (b:yB):Wy0 (yB×Int):=.bn (zci a) λr4=>.i (!r4) (.k ([],1)) (.bn (zci b) λr3=>.i (!r3) (.k ([],1)) (.i (Int.ofNat b.length==0) (.bn (zhk a) λr0=>.k (r0,0)) (.i (Int.ofNat a.length==0) (.k ([],0)) (.bn (zgx a b) λr2=>.i (r2) (.k ([],0)) (.bn (zeC (zfH (At.mk 1 (RowID.mk 0 0) [a,b] 0 [] 0 (Value.mk 0 0 (ByteArray.mk #[])))).2) λr1=>.k (r1.1,r1.2))))))
def zrb (a:yB) (b:yB):=(zIL a b).fin default
def zD4:=zh zTO λx=>((zrb x.1 x.2.1).1,zQk (zrb x.1 x.2.1).2)
theorem zQo:SdP 234 zD4:=
 sT (cx':=zWt) (zi ⟨zcG,zul,zjb,zfW,zje,trivial⟩) call234 func234 (lOK aN) (sg:=⟨[.own 107,.pure],[]⟩)
def zgA (x:yD) (a b:Int):Bool×yD:=z7p z7 x a b
def zty:Ab.Spec ty:=zh (cx:=base) (zd (zsC 169) (zd (ze (zgS .i64)) (zd (ze (zgS .i64)) (zd (ze (vFn 172 zdg)) zp)))) λx=>((zgA x.1 x.2.1 x.2.2.1).1,⟨[],[some ⟨169,(zgA x.1 x.2.1 x.2.2.1).2⟩]⟩)
theorem zux (c:Unit) (x y:Wd) (h:(z7 x y).1=true):zfO ((AV.agg (base.enc 169 x)::AV.agg (base.enc 169 y)::(zdg:VL base Unit).enc c).map Arg.pure)=some (true,⟨[.pure (.lit (.int .i64 (z7 x y).2))],[]⟩):=by
 rw [<- h]; kernel_rfl
theorem zsy:SdP 309 zty:=by
 letI:DecidableEq (ty 169):=inferInstanceAs (DecidableEq Wd)
 exact zbfV (T:=169) ze3 rfl Go.Proofs.Tryz.insW Tryz.isAgg169 (by unfold zt; exact Tryz.sizeOf169) call309 zic zdg (λc=>z7) zux
open Go.Proofs Go.RowKit
def zcH (x:yD) (m:Int):Bool×yD:=(decide (SortOK z7 x)&&(decide (m=x.length)&&decide (m<20)),zou z7 x)
def zmw:Ab.Spec ty:=zh (cx:=base) (zd (zsC 169) (zd (ze (zgS .i64)) (zd (ze (vFn 172 zdg)) zp))) λx=>((zcH x.1 x.2.1).1,⟨[],[some ⟨169,(zcH x.1 x.2.1).2⟩]⟩)
set_option maxHeartbeats 1000000 in
theorem zxE:SdP 308 zmw where
 enters:=call308
 calls:=λavs r hsp w F vs hF ha hsep=>by
  unfold zmw zh at hsp;split at hsp
  ·rename_i x hx;simp only [q0,qe] at hsp;obtain ⟨hpre,rfl⟩:=hsp;have hk:=(zd (zsC 169) (zd (ze (zgS .i64)) (zd (ze (vFn 172 zdg)) zp)):AL base _).kind vs avs x hx;have ha':=(zd (zsC 169) (zd (ze (zgS .i64)) (zd (ze (vFn 172 zdg)) zp)):AL base _).ok Tryz.prog ze3 F w vs avs x hx ha;rw [hk] at hsep ⊢;clear hk hx ha;obtain ⟨l0,m,c,u0⟩:=x;obtain ⟨l,rfl⟩:∃ l:yD,l=l0:=⟨l0,rfl⟩;obtain ⟨v,vs',rfl,hv,hv'⟩:=ha'.inv;obtain ⟨mv,vs1,rfl,hm,hv1⟩:=hv'.inv;obtain ⟨fv,vs'',rfl,hfv,h0⟩:=hv1.inv;obtain rfl:=h0.nil_left.1;have hm:Rep base F w mv (.lit (.int .i64 m)):=hm;obtain rfl:mv=.int .i64 m:=by cases hm; rfl
   have hsl:∃ p cap,v=.slice p l.length cap:=by
    obtain ⟨⟨xs,hown,_⟩,_⟩:=(show zdp base F w v 169 l/\∀ b,zbj v=some b->¬ F b from hv)
    rcases hown.2 with ⟨h1,h2⟩ | ⟨g0,cap,cur,h1,_⟩
    ·exact ⟨none,0,by rw [h1,show l.length=0 from h2]⟩
    ·exact ⟨_,cap,h1⟩
   have hpre:(decide (SortOK (α:=Wd) z7 l)&&(decide (m=l.length)&&decide (m<20)))=true:=hpre;simp only [qa,qb] at hpre;obtain ⟨hok,rfl,h20⟩:=hpre
   have hpp:(zgA l 0 (l.length:Int)).1=true:=by
    show (decide (SortOK (α:=Wd) z7 l)&&(decide ((0:Int)=0)&&decide ((l.length:Int)=l.length)))=true;simp only [qa,qb];exact ⟨hok,trivial,trivial⟩
   have hp:=(zsy).calls [.own 169 l,.pure (.lit (.int .i64 0)),.pure (.lit (.int .i64 (l.length:Int))),.pure (.fn 172 [])] ⟨[],[some ⟨169,(zcH l (l.length:Int)).2⟩]⟩
    (by rw [<- hpp]; kernel_rfl) w F [v,.int .i64 0,.int .i64 (l.length:Int),fv] hF (.cons hv (.cons (Rep.lit _) (.cons (Rep.lit _) (.cons hfv .nil)))) hsep
   replace hp:Calls Tryz.prog 309 #[v,.int .i64 0,.int .i64 (l.length:Int),fv] w λe w'=>∃ u,e=.returned u/\Post base F w [v] ⟨[],[some ⟨169,(zcH l (l.length:Int)).2⟩]⟩ u w':=hp
   show Calls Tryz.prog 308 #[v,.int .i64 (l.length:Int),fv] w λe w'=>∃ u,e=.returned u/\Post base F w [v] ⟨[],[some ⟨169,(zcH l (l.length:Int)).2⟩]⟩ u w'
   generalize (zcH l (l.length:Int)).2=res at hp ⊢;generalize hn:l.length=m at *;clear hpp hv hfv hsep hok hF hm;obtain ⟨p,cap,rfl⟩:=hsl;clear hn
   go_enter func308,ntmps308
   go_wp2
   refine wp_loop_rounds 1 ?_;rw [rounds_succ]
   go_wp2_with (go_at_call 309; refine hp.mono ?_; rintro e w' ⟨u,rfl,hpost⟩; obtain rfl:=hpost.unit)
   refine wp_loop_rounds 1 ?_;rw [rounds_succ]
   go_wp2
   all_goals first | (exfalso; omega) | (go_end0; exact ⟨_,rfl,hpost⟩)
  ·cases hsp
end Go.Proofs.YtoknknbmfmddbaaGreatDoor
namespace Go.Proofs.YtoknknbmfmddbaaGreatDoor
open Go Go.Ab
open Go.Proofs Go.RowKit
open Go.Proofs.Tryz
def zbb (x:yD):Bool×yD:=(decide (SortOK z7 x)&&decide (x.length<20),zou z7 x)
def zd4:Ab.Spec ty:=zh (cx:=base) (zd (zsC 169) (zd (ze (vFn 172 zdg)) zp)) λx=>((zbb x.1).1,⟨[],[some ⟨169,(zbb x.1).2⟩]⟩)
set_option maxHeartbeats 1000000 in
theorem znP:SdP 302 zd4 where
 enters:=call302
 calls:=λavs r hsp w F vs hF ha hsep=>by
  unfold zd4 zh at hsp;split at hsp
  ·rename_i x hx;simp only [q0,qe] at hsp;obtain ⟨hpre,rfl⟩:=hsp;have hk:=(zd (zsC 169) (zd (ze (vFn 172 zdg)) zp):AL base _).kind vs avs x hx;have ha':=(zd (zsC 169) (zd (ze (vFn 172 zdg)) zp):AL base _).ok Tryz.prog ze3 F w vs avs x hx ha;rw [hk] at hsep ⊢;clear hk hx ha;obtain ⟨l0,c,u0⟩:=x;obtain ⟨l,rfl⟩:∃ l:yD,l=l0:=⟨l0,rfl⟩;obtain ⟨v,vs',rfl,hv,hv'⟩:=ha'.inv;obtain ⟨fv,vs'',rfl,hfv,h0⟩:=hv'.inv;obtain rfl:=h0.nil_left.1
   have hsl:∃ p cap,v=.slice p l.length cap:=by
    obtain ⟨⟨xs,hown,_⟩,_⟩:=(show zdp base F w v 169 l/\∀ b,zbj v=some b->¬ F b from hv)
    rcases hown.2 with ⟨h1,h2⟩ | ⟨g0,cap,cur,h1,_⟩
    ·exact ⟨none,0,by rw [h1,show l.length=0 from h2]⟩
    ·exact ⟨_,cap,h1⟩
   have hpre:(decide (SortOK (α:=Wd) z7 l)&&decide (l.length<20))=true:=hpre;simp only [qa,qb] at hpre;obtain ⟨hok,h20⟩:=hpre
   have hpp:(zcH l (l.length:Int)).1=true:=by
    show (decide (SortOK (α:=Wd) z7 l)&&(decide ((l.length:Int)=l.length)&&decide ((l.length:Int)<20)))=true;simp only [qa,qb];exact ⟨hok,trivial,by omega⟩
   have hp:=(zxE).calls [.own 169 l,.pure (.lit (.int .i64 (l.length:Int))),.pure (.fn 172 [])] ⟨[],[some ⟨169,(zbb l).2⟩]⟩
    (by rw [<- hpp]; kernel_rfl) w F [v,.int .i64 (l.length:Int),fv] hF (.cons hv (.cons (Rep.lit _) (.cons hfv .nil))) hsep
   replace hp:Calls Tryz.prog 308 #[v,.int .i64 (l.length:Int),fv] w λe w'=>∃ u,e=.returned u/\Post base F w [v] ⟨[],[some ⟨169,(zbb l).2⟩]⟩ u w':=hp
   show Calls Tryz.prog 302 #[v,fv] w λe w'=>∃ u,e=.returned u/\Post base F w [v] ⟨[],[some ⟨169,(zbb l).2⟩]⟩ u w'
   generalize (zbb l).2=res at hp ⊢;generalize hn:l.length=m at *;clear hpp hv hfv hsep hok hF;obtain ⟨p,cap,rfl⟩:=hsl;clear hn
   go_enter func302,ntmps302
   go_wp2_with (go_at_call 308; refine hp.mono ?_; rintro e w' ⟨u,rfl,hpost⟩; obtain rfl:=hpost.unit)
   go_end0
   exact ⟨_,rfl,hpost⟩
  ·cases hsp
end Go.Proofs.YtoknknbmfmddbaaGreatDoor
namespace Go.Proofs.YtoknknbmfmddbaaGreatDoor
open Go Go.Ab
open Go.Proofs.Tryz
abbrev zr0:=Unit×yD×Int×Int×Unit
abbrev zmE:=yD×Unit
def zmJ (t6:yD) (t7:Int) (t8:Int) (out_:yD):Wy zr0 zmE (yD):=.i (decide (t8<t7)) (.ix t8 t6.length (.i (decide (Int.ofNat (t6.getD t8.toNat default).Ann.length>0)) (.bn (zhk (t6.getD t8.toNat default).Ann) λr0=>.i (decide ((out_.length+[WO.mk (t6.getD t8.toNat default).Value r0].length)*56<=zD)) (.h ((),t6,t7,(IntKind.i64.wrap (t8+1)),()) ((out_++[WO.mk (t6.getD t8.toNat default).Value r0]),())) .d) (.h ((),t6,t7,(IntKind.i64.wrap (t8+1)),()) (out_,())))) (.k out_)
def zyE (x:zr0) (y:zmE):=zmJ x.2.1 x.2.2.1 x.2.2.2.1 y.1
def zGv (n:Nat) (t6:yD) (t7:Int) (t8:Int) (out_:yD):=zy (zyE) default n ((),t6,t7,t8,()) (out_,())
def zVa (r:yD):LTree ty:=.done (.exit 0) [.own 116] [.arr 169 r false]
def zW0:LL ty zr0:=za (zeD 116) (za (lSl 169) (za zj (za zj zk)))
def zWk:BL ty zmE:=zeG 169 false (zY)
def zVj (x:zr0) (y:zmE):Nat:=(x.2.1.length+Int.toNat x.2.2.1+Int.toNat x.2.2.2.1+y.1.length+1)
def zGJ:=zbV base 29 [(141,zhc),(172,zfO),(302,zd4)] [(302,[true,false])] [(3,[(3,.own 169),(6,.keep),(7,.keep),(8,.keep)])] [(3,1,(kpL [3]))] [(3,spW zW0 zWk (zyE) default zVa zVj)] []
theorem zUc:zC zGJ (lp (body f280) 0):=zn (id:=3) (hl:=rfl)
def zI7 (l:yD):Wy0 (yD):=.bn (zGv (l.length+(Int.ofNat l.length).toNat +Int.toNat 0+0+1) l (Int.ofNat l.length) 0 []) λr3=>.bn (zbb r3) λr2=>.k r2
def zrg (l:yD):=(zI7 l).fin default
def zTm (r:yD):ARes ty:=⟨[.own 169 r],[]⟩
def z0d:AL base zmE:=zd (ze (vSl 169)) zp
def zDQ:=zh z0d λx=>((zrg x.1).1,zTm (zrg x.1).2)
theorem zRh:SdP 280 zDQ:=
 sT (cx':=zGJ) (zi ⟨zje,zic,znP,trivial⟩) call280 func280 (lOK (aC zUc aN)) (sg:=⟨[.own 169],[]⟩)
def zRp:=zbp base 7 [(52,zcz)]
def zEz (w:Wd):Wy0 (Bool):=.bn (zci w.Ann) λr0=>.k (!r0)
def znI (w:Wd):=(zEz w).fin default
def zmk:=zh zK4 λx=>((znI x.1).1,zXz (znI x.1).2)
theorem zrc:SdP 279 zmk:=
 sT (cx':=zRp) (zi ⟨zcG,trivial⟩) call279 func279 (lOK aN)
def zWC:=zbp base 28 []
def zIp (op:Int) (sign:Int):Wy0 (Bool):=.i (op==5) (.k (sign==0)) (.i (op==6) (.k (sign != 0)) (.i (op==7) (.k (decide (sign<0))) (.i (op==8) (.k (decide (sign<=0))) (.i (op==9) (.k (decide (sign>0))) (.k (decide (sign≥0)))))))
def zq9 (op:Int) (sign:Int):=(zIp op sign).fin default
def zDT:=zh zW3 λx=>((zq9 x.1 x.2.1).1,zXz (zq9 x.1 x.2.1).2)
theorem zQy:SdP 281 zDT:=
 sT (cx':=zWC) (zi trivial) call281 func281 (lOK aN)
abbrev zdM:=yD×Unit×Int×Int×Unit
def zq0 (s:yD) (t7:Int) (t8:Int):Wy zdM Unit (Int⊕Unit):=.i (decide (t8<t7)) (.ix t8 s.length (.bn (znI (s.getD t8.toNat default)) λr0=>.i (r0) (.k (.inl t8)) (.h (s,(),t7,(IntKind.i64.wrap (t8+1)),()) ()))) (.k (.inr ()))
def zhT (x:zdM) (y:Unit):=zq0 x.1 x.2.2.1 x.2.2.2.1
def zqS (n:Nat) (s:yD) (t7:Int) (t8:Int):=zy (zhT) (.inl default) n (s,(),t7,t8,()) ()
def zqL:LL ty zdM:=za (lSl 169) (za (lFn 279 (zk)) (za zj (za zj zk)))
def zqp (x:zdM) (y:Unit):Nat:=(x.1.length+Int.toNat x.2.2.1+Int.toNat x.2.2.2.1+1)
def zh3:=zbV base 19 [(279,zmk)] [] [(2,(kpL [0,1,7,8]))] [(2,1,[]),(2,0,(kpL [4]))] [(2,spW zqL zbaJ (zhT) (.inl default) zsB zqp)] []
theorem zqr:zC zh3 (lp (body f228) 0):=zn (id:=2) (hl:=rfl)
def zrr (s:yD):Wy0 (Int):=.bn (zqS (s.length+(Int.ofNat s.length).toNat +Int.toNat 0+1) s (Int.ofNat s.length) 0) λr2=>.i (isL r2) (.k (getL r2)) (.k (-1:Int))
def zds (s:yD):=(zrr s).fin default
def zrs:AL base (yD×Unit×Unit):=zd (ze (vSl 169)) (zd (ze (vFn 279 zdg)) zp)
def zhq:=zh zrs λx=>((zds x.1).1,zQ3 (zds x.1).2)
theorem zo2:SdP 228 zhq:=
 sT (cx':=zh3) (zi ⟨zrc,trivial⟩) call228 func228 (lOK (aC zqr aN))
def zo7:=zbp base 9 [(228,zhq),(279,zmk)]
def zho (s:yD):Wy0 (Bool):=.bn (zds s) λr0=>.k (decide (r0≥0))
def zch (s:yD):=(zho s).fin default
def zgk:=zh zrs λx=>((zch x.1).1,zXz (zch x.1).2)
theorem zni:SdP 178 zgk:=
 sT (cx':=zo7) (zi ⟨zo2,zrc,trivial⟩) call178 func178 (lOK aN)
def zXT:=zbp base 45 [(117,zg9),(124,ze0),(178,zgk),(181,zsY),(195,znl),(278,zr2),(279,zmk),(280,zDQ),(281,zDT)]
def zKY (fn:Int) (items:yD) (op:Int) (bound:Value):Wy0 (yB×Int):=.bn (zkr fn items op bound) λr5=>.i (!r5) (.k ([],1)) (.bn (zch items) λr4=>.i (r4) (.k ([],1)) (.bn (zrg items) λr3=>.i (decide (Int.ofNat r3.length>0)) (.bn (zeC (zfH (At.mk 4 (RowID.mk 0 0) [] fn r3 op bound)).2) λr0=>.k (r0.1,r0.2)) (.i (fn==0) (.bn (zjr 0 bound.Int) λr2=>.bn (zq9 op r2) λr1=>.i (r1) (.k (zvx.2,0)) (.k ([],0))) (.k ([],0)))))
def zoz (fn:Int) (items:yD) (op:Int) (bound:Value):=(zKY fn items op bound).fin default
def zF0:=zh zTK λx=>((zoz x.1 x.2.1 x.2.2.1 x.2.2.2.1).1,zQk (zoz x.1 x.2.1 x.2.2.1 x.2.2.2.1).2)
theorem zRM:SdP 237 zF0:=
 sT (cx':=zXT) (zi ⟨zjb,zfW,zni,zzw,zsX,zxr,zrc,zRh,zQy,trivial⟩) call237 func237 (lOK aN) (sg:=⟨[.own 107,.pure],[]⟩)
abbrev zkH:=((yE×Unit)×Unit)×Unit×Unit×yA×Int×Int×Unit
abbrev zkN:=At×yA×Unit
abbrev zy6:=Int⊕(yE×At×yA)
abbrev zkG:=((yE×Unit)×Unit)×Unit×Unit×yD×Int×Int×Unit
abbrev zkK:=At×yD×Unit
abbrev zy1:=Int⊕(At×yD)
def znG (zR:yB->yE->Bool×(yB×Int)) (to:yE) (t24:yA) (t25:Int) (t26:Int) (x_:At) (args:yA):Wy zkH zkN zy6:=.i (decide (t26<t25)) (.ix t26 t24.length (.bn (zR (t24.getD t26.toNat default) to) λr2=>.i (r2.2 != 0) (.k (.inl (r2.2))) (.i (decide ((args.length+[r2.1].length)*24<=zD)) (.h (((to,()),()),(),(),t24,t25,(IntKind.i64.wrap (t26+1)),()) (x_,(args++[r2.1]),())) .d))) (.k (.inr (to,x_,args)))
def zwv (zR:yB->yE->Bool×(yB×Int)) (x:zkH) (y:zkN):=znG zR x.1.1.1 x.2.2.2.1 x.2.2.2.2.1 x.2.2.2.2.2.1 y.1 y.2.1
def zjv (zR:yB->yE->Bool×(yB×Int)) (n:Nat) (to:yE) (t24:yA) (t25:Int) (t26:Int) (x_:At) (args:yA):=zy (zwv zR) (.inl default) n (((to,()),()),(),(),t24,t25,t26,()) (x_,args,())
def zHh (r:zy6):LTree ty:=.ite (isL r) (.done .ret [.lit (.slice none 0 0),.lit (.int .i64 (getL r))] []) (.done (.exit 0) [.fn 138 ([.bptr ([.sl 65 (getR r).1]) 0]),.ptr 432 0,.own 433] [.box (base.enc 143 (getR r).2.1) false,.arr 51 (getR r).2.2 false])
def zIt:LL ty zkH:=za (lFn 138 (za (zIK (za (lSl 65) zk) 0) zk)) (za (zcm 432 0) (za (zeD 433) (za (lSl 51) (za zj (za zj zk)))))
def zIe:BL ty zkN:=zdx (zdi (λx=>(⟨x.1,⟨x.2.1,x.2.2.1⟩,x.2.2.2.1,x.2.2.2.2.1,x.2.2.2.2.2.1,x.2.2.2.2.2.2.1,⟨x.2.2.2.2.2.2.2.1,x.2.2.2.2.2.2.2.2.1,x.2.2.2.2.2.2.2.2.2.1⟩⟩:At)) (λx=>(x.Kind,x.Row.Table,x.Row.Seq,x.Ag,x.Func,x.Items,x.Op,x.Bd.Kind,x.Bd.Int,x.Bd.Text,())) (λ_=>rfl) (za (zL .i64) (za (zL .i64) (za (zL .i64) (za (lSl 51) (za (zL .i64) (za (lSl 169) (za (zL .i64) (za (zL .i64) (za (zL .i64) (za zoZ zk))))))))))) false (zeG 51 false (zY))
def zmS (zR:yB->yE->Bool×(yB×Int)) (to:yE) (t74:yD) (t75:Int) (t76:Int) (x_:At) (items:yD):Wy zkG zkK zy1:=.i (decide (t76<t75)) (.ix t76 t74.length (.bn (zR (t74.getD t76.toNat default).Ann to) λr4=>.i (r4.2 != 0) (.k (.inl (r4.2))) (.i (decide ((items.length+[WO.mk (t74.getD t76.toNat default).Value r4.1].length)*56<=zD)) (.h (((to,()),()),(),(),t74,t75,(IntKind.i64.wrap (t76+1)),()) (x_,(items++[WO.mk (t74.getD t76.toNat default).Value r4.1]),())) .d))) (.k (.inr (x_,items)))
def zvz (zR:yB->yE->Bool×(yB×Int)) (x:zkG) (y:zkK):=zmS zR x.1.1.1 x.2.2.2.1 x.2.2.2.2.1 x.2.2.2.2.2.1 y.1 y.2.1
def ziS (zR:yB->yE->Bool×(yB×Int)) (n:Nat) (to:yE) (t74:yD) (t75:Int) (t76:Int) (x_:At) (items:yD):=zy (zvz zR) (.inl default) n (((to,()),()),(),(),t74,t75,t76,()) (x_,items,())
def zF9 (r:zy1):LTree ty:=.ite (isL r) (.done .ret [.lit (.slice none 0 0),.lit (.int .i64 (getL r))] []) (.done (.exit 3) [.ptr 432 0,.own 433] [.box (base.enc 143 (getR r).1) false,.arr 169 (getR r).2 false])
def zHP:LL ty zkG:=za (lFn 138 (za (zIK (za (lSl 65) zk) 0) zk)) (za (zcm 432 0) (za (zeD 433) (za (lSl 169) (za zj (za zj zk)))))
def zHw:BL ty zkK:=zdx (zdi (λx=>(⟨x.1,⟨x.2.1,x.2.2.1⟩,x.2.2.2.1,x.2.2.2.2.1,x.2.2.2.2.2.1,x.2.2.2.2.2.2.1,⟨x.2.2.2.2.2.2.2.1,x.2.2.2.2.2.2.2.2.1,x.2.2.2.2.2.2.2.2.2.1⟩⟩:At)) (λx=>(x.Kind,x.Row.Table,x.Row.Seq,x.Ag,x.Func,x.Items,x.Op,x.Bd.Kind,x.Bd.Int,x.Bd.Text,())) (λ_=>rfl) (za (zL .i64) (za (zL .i64) (za (zL .i64) (za (lSl 51) (za (zL .i64) (za (lSl 169) (za (zL .i64) (za (zL .i64) (za (zL .i64) (za zoZ zk))))))))))) false (zeG 169 false (zY))
def zHC (x:zkH) (y:zkN):Nat:=(x.1.1.1.length+x.2.2.2.1.length+Int.toNat x.2.2.2.2.1+Int.toNat x.2.2.2.2.2.1+y.1.Ag.length+y.1.Items.length+y.2.1.length+1)
def zGd (x:zkG) (y:zkK):Nat:=(x.1.1.1.length+x.2.2.2.1.length+Int.toNat x.2.2.2.2.1+Int.toNat x.2.2.2.2.2.1+y.1.Ag.length+y.1.Items.length+y.2.1.length+1)
def znT (zR:yB->yE->Bool×(yB×Int)):=zbV zby 108 [(137,(zlp zR)),(138,zig),(234,zD4),(235,zDv),(236,zB7),(237,zF0)] [] [(5,[(1,.keep),(2,.keep),(6,.own 51),(24,.keep),(25,.keep),(26,.keep)]),(21,[(1,.keep),(2,.keep),(11,.own 169),(74,.keep),(75,.keep),(76,.keep)])] [(5,1,(kpL [1,2,6])),(5,0,(kpL [4,5])),(21,4,(kpL [2,11])),(21,0,(kpL [4,5]))] [(5,spW zIt zIe (zwv zR) (.inl default) zHh zHC),(21,spW zHP zHw (zvz zR) (.inl default) zF9 zGd)] []
theorem zHD (zR:yB->yE->Bool×(yB×Int)):zC (znT zR) (lp (body f198) 0):=zn (id:=5) (hl:=rfl)
theorem zGk (zR:yB->yE->Bool×(yB×Int)):zC (znT zR) (lp (body f198) 1):=zn (id:=21) (hl:=rfl)
def zye (zR:yB->yE->Bool×(yB×Int)) (x_:At) (to:yE):Wy0 (yB×Int):=.i (x_.Kind==0) (.bn (ziD x_.Row to) λr6=>.k (r6,0)) (.bn (zjv zR (to.length+x_.Ag.length+(Int.ofNat x_.Ag.length).toNat +Int.toNat 0+x_.Ag.length+x_.Items.length+0+1) to x_.Ag (Int.ofNat x_.Ag.length) 0 (At.et x_) []) λr12=>.i (isL r12) (.k ([],getL r12)) (.i ((getR r12).2.1.Kind==1) (.ix 0 ((getR r12).2.2.length) (.ix 1 ((getR r12).2.2.length) (.bn (zrb ((getR r12).2.2.getD (Int.toNat 0) default) ((getR r12).2.2.getD (Int.toNat 1) default)) λr7=>.k (r7.1,r7.2)))) (.i ((getR r12).2.1.Kind==2) (.ix 0 ((getR r12).2.2.length) (.bn (zrR ((getR r12).2.2.getD (Int.toNat 0) default)) λr8=>.k (r8.1,r8.2))) (.i ((getR r12).2.1.Kind==3) (.ix 0 ((getR r12).2.2.length) (.bn (zpK ((getR r12).2.2.getD (Int.toNat 0) default)) λr9=>.k (r9.1,r9.2))) (.bn (ziS zR ((getR r12).1.length+(getR r12).2.1.Items.length+(Int.ofNat (getR r12).2.1.Items.length).toNat +Int.toNat 0+(getR r12).2.1.Ag.length+(getR r12).2.1.Items.length+0+1) (getR r12).1 (getR r12).2.1.Items (Int.ofNat (getR r12).2.1.Items.length) 0 (At.et (getR r12).2.1) []) λr11=>.i (isL r11) (.k ([],getL r11)) (.bn (zoz (getR r11).1.Func (getR r11).2 (getR r11).1.Op (getR r11).1.Bd) λr10=>.k (r10.1,r10.2)))))))
def zin (zR:yB->yE->Bool×(yB×Int)) (x_:At) (to:yE):=(zye zR x_ to).fin default
theorem zFu (zR:yB->yE->Bool×(yB×Int)) (zP3:Sound Tryz.prog zby 137 (zlp zR)):Sound Tryz.prog zby 198 (zlu (zin zR)):=
 sU (cx':=(znT zR)) (zi ⟨zP3,zlz.nodr,zQo.nodr,zQm.nodr,zOV.nodr,zRM.nodr,trivial⟩) call198 func198 (lOK (aC (zHD zR) (aC (zGk zR) aN))) (sg:=⟨[.own 107,.pure],[]⟩)
def zHT:Nat->(yB->yE->Bool×(yB×Int))×(At->yE->Bool×(yB×Int))
 | 0=>(λ_ _=>(false,default),λ_ _=>(false,default))
 | n+1=>(zlc ((zHT n).2),zin ((zHT n).1))
def zlt (n:Nat):yB->yE->Bool×(yB×Int):=(zHT n).1
def zil (n:Nat):At->yE->Bool×(yB×Int):=(zHT n).2
theorem zOA (n:Nat):zlt (n+1)=zlc (zil n):=rfl
theorem zIU (n:Nat):zil (n+1)=zin (zlt n):=rfl
theorem zVW:∀ n,Sound Tryz.prog zby 137 (zlp (zlt n))/\Sound Tryz.prog zby 198 (zlu (zil n))
 | 0=>⟨zbl call137 (λ_=>rfl),zbl call198 (λ_=>rfl)⟩
 | n+1=>by
  have ih:=zVW n;exact ⟨zKx _ (ih.2),zFu _ (ih.1)⟩
def zzS:yB->yE->Bool×(yB×Int):=zlt 1000
def zBf:Ab.Spec ty:=zlp zzS
theorem zNJ:Sound Tryz.prog zby 137 zBf:=(zVW 1000).1
def zJh:=zbp base 7 [(52,zcz)]
def zxM (b:Bg):Wy0 (Bool):=.bn (zci b.To) λr0=>.k (!r0)
def zio (b:Bg):=(zxM b).fin default
def zJE:AL base (Bg×Unit):=zd (ze (zb7 65)) zp
def zh7:=zh zJE λx=>((zio x.1).1,zXz (zio x.1).2)
theorem zk7:SdP 136 zh7:=
 sT (cx':=zJh) (zi ⟨zcG,trivial⟩) call136 func136 (lOK aN)
abbrev zd9:=yE×Unit×Int×Int×Unit
def zsq (s:yE) (t7:Int) (t8:Int):Wy zd9 Unit (Int⊕Unit):=.i (decide (t8<t7)) (.ix t8 s.length (.bn (zio (s.getD t8.toNat default)) λr0=>.i (r0) (.k (.inl t8)) (.h (s,(),t7,(IntKind.i64.wrap (t8+1)),()) ()))) (.k (.inr ()))
def ziO (x:zd9) (y:Unit):=zsq x.1 x.2.2.1 x.2.2.2.1
def zss (n:Nat) (s:yE) (t7:Int) (t8:Int):=zy (ziO) (.inl default) n (s,(),t7,t8,()) ()
def zse:LL ty zd9:=za (lSl 65) (za (lFn 136 (zk)) (za zj (za zj zk)))
def zru (x:zd9) (y:Unit):Nat:=(x.1.length+Int.toNat x.2.2.1+Int.toNat x.2.2.2.1+1)
def ziK:=zbV base 19 [(136,zh7)] [] [(2,(kpL [0,1,7,8]))] [(2,1,[]),(2,0,(kpL [4]))] [(2,spW zse zbaJ (ziO) (.inl default) zsB zru)] []
theorem zrE:zC ziK (lp (body f139) 0):=zn (id:=2) (hl:=rfl)
def zsU (s:yE):Wy0 (Int):=.bn (zss (s.length+(Int.ofNat s.length).toNat +Int.toNat 0+1) s (Int.ofNat s.length) 0) λr2=>.i (isL r2) (.k (getL r2)) (.k (-1:Int))
def zdN (s:yE):=(zsU s).fin default
def zs1:AL base (yE×Unit×Unit):=zd (ze (vSl 65)) (zd (ze (vFn 136 zdg)) zp)
def zhX:=zh zs1 λx=>((zdN x.1).1,zQ3 (zdN x.1).2)
theorem zp9:SdP 139 zhX:=
 sT (cx':=ziK) (zi ⟨zk7,trivial⟩) call139 func139 (lOK (aC zrE aN))
def zpV:=zbp base 9 [(136,zh7),(139,zhX)]
def zh5 (s:yE):Wy0 (Bool):=.bn (zdN s) λr0=>.k (decide (r0≥0))
def zcn (s:yE):=(zh5 s).fin default
def zgR:=zh zs1 λx=>((zcn x.1).1,zXz (zcn x.1).2)
theorem zn8:SdP 135 zgR:=
 sT (cx':=zpV) (zi ⟨zk7,zp9,trivial⟩) call135 func135 (lOK aN)
def zMZ:=zbp zby 18 [(52,zcz),(135,zgR),(136,zh7),(137,zBf),(138,zig)]
def zA7 (a:yB) (l:yE):Wy0 (yB×Int):=.bn (zci a) λr2=>.i (!r2) (.k ([],1)) (.bn (zcn l) λr1=>.i (r1) (.k ([],1)) (.bn (zzS a l) λr0=>.k (r0.1,r0.2)))
def zfZ (a:yB) (l:yE):=(zA7 a l).fin default
def zOO:AL zby (yB×yE×Unit):=zd (ze (vSl 107)) (zd (ze (vSl 65)) zp)
def zo1:=zh zOO λx=>((zfZ x.1 x.2.1).1,zQk (zfZ x.1 x.2.1).2)
theorem zwr:Sound Tryz.prog zby 80 zo1:=
 sU (cx':=zMZ) (zi ⟨zcG.nodr,zn8.nodr,zk7.nodr,zNJ,zlz.nodr,trivial⟩) call80 func80 (lOK aN) (sg:=⟨[.own 107,.pure],[]⟩)
def zfe:Cx ty:={ base with nt:=8 }
def zcI (s:yG):Bool×yG:=(decide (s.length*32<=zD),s)
def zhw:Ab.Spec ty:=zh (cx:=base) (zd (ze (vSl 79)) zp) λx=>((zcI x.1).1,⟨[.own 79 (zcI x.1).2],[]⟩)
theorem zzn:zeQ zfe f62 (body f62) ⟨[.own 79],[]⟩ [.pure (.lit (.slice none 0 0))]=some ⟨[.own 79 []],[]⟩:=by kernel_rfl
theorem zxI (p:Addr) (c:Nat):zeQ zfe f62 (body f62) ⟨[.own 79],[]⟩ [.pure (.lit (.slice (some p) 0 c))]=some ⟨[.own 79 []],[]⟩:=by kernel_rfl
theorem zyC (l:yG):zeQ zfe f62 (body f62) ⟨[.own 79],[]⟩ [.pure (.sl 79 l)]=bif !l.isEmpty then bif decide ((([]:List (ty 79)).length+l.length)*32<=zD) then some ⟨[.own 79 l],[]⟩ else none else none:=by kernel_rfl
theorem zl2:SdP 62 zhw:=
 zyo (cx':=zfe) (bytes:=32) zCq ze3 ⟨⟨rfl,rfl,rfl,rfl,rfl,rfl⟩,rfl⟩ (λg s h=>by cases h) call62 func62 (c:=body f62) (by kernel_rfl) (ztx (l:=[]) (by kernel_rfl) trivial) zzn zxI zyC (by kernel_rfl)
def zZs:=zbp zby 17 [(62,zhw),(80,zo1)]
def zKW (x_:Row) (a:yB):Wy0 (Row):=.bn (zfZ a []) λr1=>.bn (zcI x_.Values) λr0=>.k (⟨r0,r1.1⟩:Row)
def zoA (x_:Row) (a:yB):=(zKW x_ a).fin default
def z0Y:AL zby (Row×yB×Unit):=zd (ze (zb7 54)) (zd (ze (vSl 107)) zp)
def zFx:=zh z0Y λx=>((zoA x.1 x.2.1).1,zXr (zoA x.1 x.2.1).2)
theorem zSG:Sound Tryz.prog zby 71 zFx:=
 sU (cx':=zZs) (zi ⟨zl2.nodr,zwr,trivial⟩) call71 func71 (lOK aN)
def zeO:Cx ty:={ base with nt:=8 }
def zcp (s:yH):Bool×yH:=(decide (s.length*24<=zD),s)
def zgF:Ab.Spec ty:=zh (cx:=base) (zd (ze (vSl 75)) zp) λx=>((zcp x.1).1,⟨[.own 75 (zcp x.1).2],[]⟩)
theorem zxD:zeQ zeO f61 (body f61) ⟨[.own 75],[]⟩ [.pure (.lit (.slice none 0 0))]=some ⟨[.own 75 []],[]⟩:=by kernel_rfl
theorem zv6 (p:Addr) (c:Nat):zeQ zeO f61 (body f61) ⟨[.own 75],[]⟩ [.pure (.lit (.slice (some p) 0 c))]=some ⟨[.own 75 []],[]⟩:=by kernel_rfl
theorem zw5 (l:yH):zeQ zeO f61 (body f61) ⟨[.own 75],[]⟩ [.pure (.sl 75 l)]=bif !l.isEmpty then bif decide ((([]:List (ty 75)).length+l.length)*24<=zD) then some ⟨[.own 75 l],[]⟩ else none else none:=by kernel_rfl
theorem zk3:SdP 61 zgF:=
 zyo (cx':=zeO) (bytes:=24) zCq ze3 ⟨⟨rfl,rfl,rfl,rfl,rfl,rfl⟩,rfl⟩ (λg s h=>by cases h) call61 func61 (c:=body f61) (by kernel_rfl) (ztx (l:=[]) (by kernel_rfl) trivial) zxD zv6 zw5 (by kernel_rfl)
def zgy:Cx ty:={ base with nt:=8 }
def zfx (s:yF):Bool×yF:=(decide (s.length*48<=zD),s)
def zpC:Ab.Spec ty:=zh (cx:=base) (zd (ze (vSl 54)) zp) λx=>((zfx x.1).1,⟨[.own 54 (zfx x.1).2],[]⟩)
theorem zBZ:zeQ zgy f68 (body f68) ⟨[.own 54],[]⟩ [.pure (.lit (.slice none 0 0))]=some ⟨[.own 54 []],[]⟩:=by kernel_rfl
theorem zAw (p:Addr) (c:Nat):zeQ zgy f68 (body f68) ⟨[.own 54],[]⟩ [.pure (.lit (.slice (some p) 0 c))]=some ⟨[.own 54 []],[]⟩:=by kernel_rfl
theorem zBG (l:yF):zeQ zgy f68 (body f68) ⟨[.own 54],[]⟩ [.pure (.sl 54 l)]=bif !l.isEmpty then bif decide ((([]:List (ty 54)).length+l.length)*48<=zD) then some ⟨[.own 54 l],[]⟩ else none else none:=by kernel_rfl
theorem zAJ:SdP 68 zpC:=
 zyo (cx':=zgy) (bytes:=48) zCq ze3 ⟨⟨rfl,rfl,rfl,rfl,rfl,rfl⟩,rfl⟩ (λg s h=>by cases h) call68 func68 (c:=body f68) (by kernel_rfl) (ztx (l:=[]) (by kernel_rfl) trivial) zBZ zAw zBG (by kernel_rfl)
abbrev zfL:=yF×Unit×Int×Int×Unit
def zya (s:yF) (t7:Int) (t8:Int):Wy zfL Unit (Int⊕Unit):=.i (decide (t8<t7)) (.ix t8 s.length (.i ((zh0 (s.getD t8.toNat default)).2) (.k (.inl t8)) (.h (s,(),t7,(IntKind.i64.wrap (t8+1)),()) ()))) (.k (.inr ()))
def zlV (x:zfL) (y:Unit):=zya x.1 x.2.2.1 x.2.2.2.1
def zyc (n:Nat) (s:yF) (t7:Int) (t8:Int):=zy (zlV) (.inl default) n (s,(),t7,t8,()) ()
def zx1:LL ty zfL:=za (lSl 54) (za (lFn 69 (zk)) (za zj (za zj zk)))
def zxq (x:zfL) (y:Unit):Nat:=(x.1.length+Int.toNat x.2.2.1+Int.toNat x.2.2.2.1+1000)
def zlW:=zbV base 19 [(69,zkb)] [] [(2,(kpL [0,1,7,8]))] [(2,1,[]),(2,0,(kpL [4]))] [(2,spW zx1 zbaJ (zlV) (.inl default) zsB zxq)] []
theorem zxm:zC zlW (lp (body f122) 0):=zn (id:=2) (hl:=rfl)
def zyN (s:yF):Wy0 (Int):=.bn (zyc (s.length+(Int.ofNat s.length).toNat +Int.toNat 0+1000) s (Int.ofNat s.length) 0) λr0=>.i (isL r0) (.k (getL r0)) (.k (-1:Int))
def zdW (s:yF):=(zyN s).fin default
def zyM:AL base (yF×Unit×Unit):=zd (ze (vSl 54)) (zd (ze (vFn 69 zdg)) zp)
def zk1:=zh zyM λx=>((zdW x.1).1,zQ3 (zdW x.1).2)
theorem zvi:SdP 122 zk1:=
 sT (cx':=zlW) (zi ⟨zns,trivial⟩) call122 func122 (lOK (aC zxm aN))
abbrev zgd:=Unit×Unit×Int×Int×Unit
abbrev zf6:=yF×Unit
abbrev zqw:=Int×yF
def zhR (i:Int) (j:Int) (s:yF):Wy zgd zf6 zqw:=.i (decide (j<Int.ofNat s.length)) (.ix j s.length (.i (!(zh0 (s.getD j.toNat default)).2) (.ix i s.length (.i (decide (i.toNat<s.length)) (.h ((),(),(IntKind.i64.wrap (i+1)),(IntKind.i64.wrap (j+1)),()) ((s.set i.toNat (s.getD j.toNat default)),())) .d)) (.h ((),(),i,(IntKind.i64.wrap (j+1)),()) (s,())))) (.k (i,s))
def zm7 (x:zgd) (y:zf6):=zhR x.2.2.1 x.2.2.2.1 y.1
def zhP (n:Nat) (i:Int) (j:Int) (s:yF):=zy (zm7) default n ((),(),i,j,()) (s,())
def zyJ (r:zqw):LTree ty:=.done (.exit 0) [.own 168,.lit (.int .i64 r.1)] [.arr 54 r.2 false]
def zzk:LL ty zgd:=za (zeD 168) (za (lFn 69 (zk)) (za zj (za zj zk)))
def zzl:BL ty zf6:=zeG 54 false (zY)
def zyU (x:zgd) (y:zf6):Nat:=(Int.toNat x.2.2.1+Int.toNat x.2.2.2.1+y.1.length+1000)
def zm5:=zbV base 42 [(69,zkb),(122,zk1)] [] [(5,(kpL [0,1,5,6]))] [(5,1,(kpL [0,5]))] [(5,spW zzk zzl (zm7) default zyJ zyU)] []
theorem zyO:zC zm5 (lp (body f67) 0):=zn (id:=5) (hl:=rfl)
def znK (s:yF):Wy0 (yF):=.bn (zdW s) λr1=>.i (r1==(-1:Int)) (.k s) (.bn (zhP (r1.toNat +(IntKind.i64.wrap (r1+1)).toNat +s.length+1000) r1 (IntKind.i64.wrap (r1+1)) s) λr0=>.i (decide (0<=r0.1)&&decide (r0.1<=Int.ofNat r0.2.length)&&decide (Int.ofNat r0.2.length<=Int.ofNat r0.2.length)) (.i (decide (r0.1.toNat +((Int.ofNat r0.2.length).toNat - r0.1.toNat)<=r0.2.length)) (.i (decide ((0:Int)<=(0:Int))&&decide (0<=r0.1)&&decide (r0.1<=Int.ofNat (List.take r0.1.toNat r0.2++List.replicate ((Int.ofNat r0.2.length).toNat - r0.1.toNat) (Row.mk [] [])++List.drop (r0.1.toNat +((Int.ofNat r0.2.length).toNat - r0.1.toNat)) r0.2).length)) (.k (List.take (r0.1.toNat - Int.toNat 0) (List.take r0.1.toNat r0.2++List.replicate ((Int.ofNat r0.2.length).toNat - r0.1.toNat) (Row.mk [] [])++List.drop (r0.1.toNat +((Int.ofNat r0.2.length).toNat - r0.1.toNat)) r0.2))) .d) .d) .d)
def zel (s:yF):=(znK s).fin default
def zyB (r:yF):ARes ty:=⟨[.own 54 r],[none]⟩
def zzM:AL base (yF×Unit×Unit):=zd (zsC 54) (zd (ze (vFn 69 zdg)) zp)
def zlU:=zh zzM λx=>((zel x.1).1,zyB (zel x.1).2)
theorem zw3:SdP 67 zlU:=
 sT (cx':=zm5) (zi ⟨zns,zvi,trivial⟩) call67 func67 (lOK (aC zyO aN)) (sg:=⟨[.own 54],[false]⟩)
def zBy (r:yF):ARes ty:=⟨[],[some ⟨54,r⟩]⟩
def zDm:AL base (yF×Int×Int×Int×Unit×Unit):=zd (zsC 54) (zd (ze (zgS .i64)) (zd (ze (zgS .i64)) (zd (ze (zgS .i64)) (zd (ze (vFn 53 zdg)) zp))))
def zDj (F:yF->Int->Int->Int->Bool×yF):Ab.Spec ty:=zh zDm λx=>((F x.1 x.2.1 x.2.2.1 x.2.2.2.1).1,zBy (F x.1 x.2.1 x.2.2.1 x.2.2.2.1).2)
def zlI:yF->Int->Int->Int->Bool×yF:=λa _ _ _=>(decide (a.length=a.length+1),default)
def zoh:Ab.Spec ty:=zDj zlI
theorem zz7:SdP 191 zoh:=zbl call191 (λ_=>qd (Nat.ne_of_lt (Nat.lt_succ_self _)))
abbrev zfb:=Unit×Int×Int×Unit×Int×Int×Unit
abbrev zb1:=yF×Unit
abbrev znU:=Int×Int×Int×yF
abbrev ze9:=Unit×Int×Int×Unit×Int×Unit
def zhs (a:Int) (b:Int) (i:Int) (j:Int) (data:yF):Wy zfb zb1 znU:=.i (decide (j>a)) (.ix j data.length (.ix (IntKind.i64.wrap (j - 1)) data.length (.bn (zcA (data.getD j.toNat default) (data.getD (IntKind.i64.wrap (j - 1)).toNat default)) λr0=>.i (decide (r0<0)) (.ix (IntKind.i64.wrap (j - 1)) data.length (.ix j data.length (.ix j data.length (.i (decide (j.toNat<data.length)) (.ix (IntKind.i64.wrap (j - 1)) ((data.set j.toNat (data.getD (IntKind.i64.wrap (j - 1)).toNat default)).length) (.i (decide ((IntKind.i64.wrap (j - 1)).toNat<(data.set j.toNat (data.getD (IntKind.i64.wrap (j - 1)).toNat default)).length)) (.h ((),a,b,(),i,(IntKind.i64.wrap (j - 1)),()) (((data.set j.toNat (data.getD (IntKind.i64.wrap (j - 1)).toNat default)).set (IntKind.i64.wrap (j - 1)).toNat (data.getD j.toNat default)),())) .d)) .d)))) (.k (a,b,i,data))))) (.k (a,b,i,data))
def zmF (x:zfb) (y:zb1):=zhs x.2.1 x.2.2.1 x.2.2.2.2.1 x.2.2.2.2.2.1 y.1
def zhA (n:Nat) (a:Int) (b:Int) (i:Int) (j:Int) (data:yF):=zy (zmF) default n ((),a,b,(),i,j,()) (data,())
def zx6 (r:znU):LTree ty:=.done (.exit 2) [.own 212,.lit (.int .i64 r.1),.lit (.int .i64 r.2.1),.fn 53 ([]),.lit (.int .i64 r.2.2.1)] [.arr 54 r.2.2.2 false]
def zys:LL ty zfb:=za (zeD 212) (za zj (za zj (za (lFn 53 (zk)) (za zj (za zj zk)))))
def zyq:BL ty zb1:=zeG 54 false (zY)
def zdw (a:Int) (b:Int) (i:Int) (data:yF):Wy ze9 zb1 (yF):=.i (decide (i<b)) (.bn (zhA (a.toNat +b.toNat +i.toNat +i.toNat +data.length+1000) a b i i data) λr2=>.h ((),(r2.1),(r2.2.1),(),(IntKind.i64.wrap (r2.2.2.1+1)),()) ((r2.2.2.2),())) (.k data)
def zmH (x:ze9) (y:zb1):=zdw x.2.1 x.2.2.1 x.2.2.2.2.1 y.1
def zdB (n:Nat) (a:Int) (b:Int) (i:Int) (data:yF):=zy (zmH) default n ((),a,b,(),i,()) (data,())
def zx9 (r:yF):LTree ty:=.done (.exit 0) [.own 212] [.arr 54 r false]
def zyt:LL ty ze9:=za (zeD 212) (za zj (za zj (za (lFn 53 (zk)) (za zj zk))))
def zxC (x:zfb) (y:zb1):Nat:=(Int.toNat x.2.1+Int.toNat x.2.2.1+Int.toNat x.2.2.2.2.1+Int.toNat x.2.2.2.2.2.1+y.1.length+1000)
def zxN (x:ze9) (y:zb1):Nat:=(Int.toNat x.2.1+Int.toNat x.2.2.1+Int.toNat x.2.2.2.2.1+y.1.length+1000)
def zhx:=zbV base 53 [(53,zfV)] [] [(1,(kpL [0,1,2,3,8])),(4,(kpL [0,1,2,3,8,9]))] [(1,1,(kpL [0])),(4,3,(kpL [0,1,2,3,8]))] [(4,spW zys zyq (zmF) default zx6 zxC),(1,spW zyt zyq (zmH) default zx9 zxN)] []
theorem zxB:zC zhx (lp (body f190) 1):=zn (id:=4) (hl:=rfl)
theorem zxJ:zC zhx (lp (body f190) 0):=zn (id:=1) (hl:=rfl)
def zm3 (data:yF) (a:Int) (b:Int):Wy0 (yF):=.bn (zdB (a.toNat +b.toNat +(IntKind.i64.wrap (a+1)).toNat +data.length+1000) a b (IntKind.i64.wrap (a+1)) data) λr4=>.k r4
def zc6 (data:yF) (a:Int) (b:Int):=(zm3 data a b).fin default
def zzo:AL base (yF×Int×Int×Unit×Unit):=zd (zsC 54) (zd (ze zeZ) (zd (ze zeZ) (zd (ze (vFn 53 zdg)) zp)))
def zll:=zh zzo λx=>((zc6 x.1 x.2.1 x.2.2.1).1,zBy (zc6 x.1 x.2.1 x.2.2.1).2)
theorem zwc:SdP 190 zll:=
 sT (cx':=zhx) (zi ⟨zhd,trivial⟩) call190 func190 (lOK (aC zxJ (aC zxB aN))) (sg:=⟨[],[true]⟩)
abbrev zcM:=Unit×Int×Unit×Int×Int×Int×Unit
abbrev zbG:=yF×Unit
abbrev zid:=Int×Int×Int×yF
abbrev zif:=Unit×Int×Unit×Int×Unit
def zkS (n_:Int) (blockSize:Int) (a:Int) (b:Int) (data:yF):Wy zcM zbG zid:=.i (decide (b<=n_)) (.bn (zc6 data a b) λr0=>.h ((),n_,(),blockSize,b,(IntKind.i64.wrap (b+blockSize)),()) ((r0),())) (.k (n_,blockSize,a,data))
def zsw (x:zcM) (y:zbG):=zkS x.2.1 x.2.2.2.1 x.2.2.2.2.1 x.2.2.2.2.2.1 y.1
def zkU (n:Nat) (n_:Int) (blockSize:Int) (a:Int) (b:Int) (data:yF):=zy (zsw) default n ((),n_,(),blockSize,a,b,()) (data,())
def zDc (r:zid):LTree ty:=.done (.exit 0) [.own 252,.lit (.int .i64 r.1),.fn 53 ([]),.lit (.int .i64 r.2.1),.lit (.int .i64 r.2.2.1)] [.arr 54 r.2.2.2 false]
def zEo:LL ty zcM:=za (zeD 252) (za zj (za (lFn 53 (zk)) (za zj (za zj (za zj zk)))))
def zEi:BL ty zbG:=zeG 54 false (zY)
def zEu (n_:Int) (blockSize:Int) (a:Int) (b:Int) (data:yF):Wy zcM zbG zid:=.i (decide (b<=n_)) (.bn (zlI data a (IntKind.i64.wrap (a+blockSize)) b) λr2=>.h ((),n_,(),blockSize,b,(IntKind.i64.wrap (b+IntKind.i64.wrap (2*blockSize))),()) ((r2),())) (.k (n_,blockSize,a,data))
def zsv (x:zcM) (y:zbG):=zEu x.2.1 x.2.2.2.1 x.2.2.2.2.1 x.2.2.2.2.2.1 y.1
def zEn (n:Nat) (n_:Int) (blockSize:Int) (a:Int) (b:Int) (data:yF):=zy (zsv) default n ((),n_,(),blockSize,a,b,()) (data,())
def zC7 (r:zid):LTree ty:=.done (.exit 4) [.own 252,.lit (.int .i64 r.1),.fn 53 ([]),.lit (.int .i64 r.2.1),.lit (.int .i64 r.2.2.1)] [.arr 54 r.2.2.2 false]
def zkT (n_:Int) (blockSize:Int) (data:yF):Wy zif zbG (yF):=.i (decide (blockSize<n_)) (.bn (zEn (n_.toNat +blockSize.toNat +Int.toNat 0+(IntKind.i64.wrap (2*blockSize)).toNat +data.length+1000) n_ blockSize 0 (IntKind.i64.wrap (2*blockSize)) data) λr5=>.i (decide (IntKind.i64.wrap (r5.2.2.1+r5.2.1)<r5.1)) (.bn (zlI r5.2.2.2 r5.2.2.1 (IntKind.i64.wrap (r5.2.2.1+r5.2.1)) r5.1) λr4=>.h ((),(r5.1),(),(IntKind.i64.wrap (r5.2.1*2)),()) ((r4),())) (.h ((),(r5.1),(),(IntKind.i64.wrap (r5.2.1*2)),()) ((r5.2.2.2),()))) (.k data)
def zsx (x:zif) (y:zbG):=zkT x.2.1 x.2.2.2.1 y.1
def zkY (n:Nat) (n_:Int) (blockSize:Int) (data:yF):=zy (zsx) default n ((),n_,(),blockSize,()) (data,())
def zCI (r:yF):LTree ty:=.done (.exit 2) [.own 252] [.arr 54 r false]
def zEw:LL ty zif:=za (zeD 252) (za zj (za (lFn 53 (zk)) (za zj zk)))
def zCS (x:zcM) (y:zbG):Nat:=(Int.toNat x.2.1+Int.toNat x.2.2.2.1+Int.toNat x.2.2.2.2.1+Int.toNat x.2.2.2.2.2.1+y.1.length+1000)
def zCU (x:zif) (y:zbG):Nat:=(Int.toNat x.2.1+Int.toNat x.2.2.2.1+y.1.length+1000)
def zg0:=zbV base 63 [(53,zfV),(190,zll),(191,zoh)] [(190,[true,false,false,false]),(191,[true,false,false,false,false])] [(2,(kpL [0,1,2,6,7,8])),(7,(kpL [0,1,2,6])),(9,(kpL [0,1,2,6,7,8]))] [(2,1,(kpL [0,1,2,6,7])),(7,3,(kpL [0])),(9,5,(kpL [0,1,2,6,7]))] [(2,spW zEo zEi (zsw) default zDc zCS),(9,spW zEo zEi (zsv) default zC7 zCS),(7,spW zEw zEi (zsx) default zCI zCU)] []
theorem zC1:zC zg0 (lp (body f123) 0):=zn (id:=2) (hl:=rfl)
theorem zCY:zC zg0 (lp (body f123) 2):=zn (id:=9) (hl:=rfl)
theorem zCL:zC zg0 (lp (body f123) 1):=zn (id:=7) (hl:=rfl)
def zt1 (data:yF) (n_:Int):Wy0 (yF):=.bn (zkU (n_.toNat +Int.toNat 20+Int.toNat 0+Int.toNat 20+data.length+1000) n_ 20 0 20 data) λr10=>.bn (zc6 r10.2.2.2 r10.2.2.1 r10.1) λr9=>.bn (zkY (r10.1.toNat +r10.2.1.toNat +r9.length+1000) r10.1 r10.2.1 r9) λr8=>.k r8
def zf4 (data:yF) (n_:Int):=(zt1 data n_).fin default
def zED:AL base (yF×Int×Unit×Unit):=zd (zsC 54) (zd (ze zeZ) (zd (ze (vFn 53 zdg)) zp))
def zqz:=zh zED λx=>((zf4 x.1 x.2.1).1,zBy (zf4 x.1 x.2.1).2)
theorem zBr:SdP 123 zqz:=
 sT (cx':=zg0) (zi ⟨zhd,zwc,zz7,trivial⟩) call123 func123 (lOK (aC zC1 (aC zCL (aC zCY aN)))) (sg:=⟨[],[true]⟩)
def zwe:=zbV base 9 [(53,zfV),(123,zqz)] [(123,[true,false,false])] [] [] [] []
def zlJ (x_:yF):Wy0 (yF):=.bn (zf4 x_ (Int.ofNat x_.length)) λr0=>.k r0
def zcF (x_:yF):=(zlJ x_).fin default
def zwJ:AL base (yF×Unit×Unit):=zd (zsC 54) (zd (ze (vFn 53 zdg)) zp)
def zkh:=zh zwJ λx=>((zcF x.1).1,zBy (zcF x.1).2)
theorem zuE:SdP 70 zkh:=
 sT (cx':=zwe) (zi ⟨zhd,zBr,trivial⟩) call70 func70 (lOK aN) (sg:=⟨[],[true]⟩)
abbrev zoq:=Unit×Unit×yF×Int×Int×Unit
abbrev zos:=Relation×(Unit×Unit×Unit)×Unit
abbrev zDy:=Int⊕Relation
abbrev zoJ:=Unit×Unit×Unit×Int×Int×Unit
abbrev zoF:=(Unit×Unit×Unit)×(Unit×Unit×Unit)×yF×yH×yF×Unit
abbrev zD6:=Int⊕(yH×yF)
def zvh (t19:yF) (t20:Int) (t21:Int) (r:Relation):Wy zoq zos zDy:=.i (decide (t21<t20)) (.ix t21 t19.length (.bn (ztd r.Columns (t19.getD t21.toNat default).Values) λr5=>.i (!r5) (.k (.inl 7)) (.bn (zci (t19.getD t21.toNat default).Ann) λr4=>.i (!r4) (.k (.inl 1)) (.h ((),(),t19,t20,(IntKind.i64.wrap (t21+1)),()) (r,((),(),()),()))))) (.k (.inr r))
def zvP (x:zoq) (y:zos):=zvh x.2.2.1 x.2.2.2.1 x.2.2.2.2.1 y.1
def zDo (n:Nat) (t19:yF) (t20:Int) (t21:Int) (r:Relation):=zy (zvP) (.inl default) n ((),(),t19,t20,t21,()) (r,((),(),()),())
def zRg (r:zDy):LTree ty:=.ite (isL r) (.done .ret [.ptr 440 0,.lit (.int .i64 (getL r))] [.box ([.lit (.slice none 0 0),.lit (.slice none 0 0)]) false]) (.done (.exit 0) [.ptr 440 0,.ptr 441 0] [.box (base.enc 25 (getR r)) false,.box ([.lit (.slice none 0 0),.lit (.slice none 0 0)]) false])
def zSy:LL ty zoq:=za (zcm 440 0) (za (zcm 441 0) (za (lSl 54) (za zj (za zj zk))))
def zTb:BL ty zos:=zdx (zdi (λx=>(⟨x.1,x.2.1⟩:Relation)) (λx=>(x.Columns,x.Rows,())) (λ_=>rfl) (za (lSl 75) (za (lSl 54) zk))) false (zdx (za zJF (za zJF zk)) false (zY))
def zuG (t49:Int) (t50:Int) (t48:yF) (b3:yH) (b4:yF):Wy zoJ zoF zD6:=.i (decide (t50<t49)) (.ix t50 t48.length (.i (Int.ofNat b4.length==0) (.bn (zoA (t48.getD t50.toNat default) (t48.getD t50.toNat default).Ann) λr8=>.i (decide ((b4.length+[r8].length)*48<=zD)) (.h ((),(),(),t49,(IntKind.i64.wrap (t50+1)),()) (((),(),()),((),(),()),t48,b3,(b4++[r8]),())) .d) (.ix (IntKind.i64.wrap (Int.ofNat b4.length - 1)) b4.length (.bn (zcA (b4.getD (IntKind.i64.wrap (Int.ofNat b4.length - 1)).toNat default) (t48.getD t50.toNat default)) λr11=>.i (r11 != 0) (.bn (zoA (t48.getD t50.toNat default) (t48.getD t50.toNat default).Ann) λr9=>.i (decide ((b4.length+[r9].length)*48<=zD)) (.h ((),(),(),t49,(IntKind.i64.wrap (t50+1)),()) (((),(),()),((),(),()),t48,b3,(b4++[r9]),())) .d) (.ix (IntKind.i64.wrap (Int.ofNat b4.length - 1)) b4.length (.bn (zqY (b4.getD (IntKind.i64.wrap (Int.ofNat b4.length - 1)).toNat default).Ann (t48.getD t50.toNat default).Ann) λr10=>.i (r10.2 != 0) (.k (.inl (r10.2))) (.ix (IntKind.i64.wrap (Int.ofNat b4.length - 1)) b4.length (.i (decide ((IntKind.i64.wrap (Int.ofNat b4.length - 1)).toNat<b4.length)) (.h ((),(),(),t49,(IntKind.i64.wrap (t50+1)),()) (((),(),()),((),(),()),t48,b3,(b4.set (IntKind.i64.wrap (Int.ofNat b4.length - 1)).toNat (Row.mk (b4.getD (IntKind.i64.wrap (Int.ofNat b4.length - 1)).toNat default).Values r10.1)),())) .d)))))))) (.k (.inr (b3,b4)))
def zuv (x:zoJ) (y:zoF):=zuG x.2.2.2.1 x.2.2.2.2.1 y.2.2.1 y.2.2.2.1 y.2.2.2.2.1
def zB9 (n:Nat) (t49:Int) (t50:Int) (t48:yF) (b3:yH) (b4:yF):=zy (zuv) (.inl default) n ((),(),(),t49,t50,()) (((),(),()),((),(),()),t48,b3,b4,())
def zOG (r:zD6):LTree ty:=.ite (isL r) (.done .ret [.ptr 440 0,.lit (.int .i64 (getL r))] [.box ([.lit (.slice none 0 0),.lit (.slice none 0 0)]) false]) (.done (.exit 2) [.ptr 440 0,.ptr 441 0] [.box ([.lit (.slice none 0 0),.lit (.slice none 0 0)]) false,.box ([.own 442,.own 443]) false,.arr 75 (getR r).1 false,.arr 54 (getR r).2 false])
def zQH:LL ty zoJ:=za (zcm 440 0) (za (zcm 441 0) (za (zeD 442) (za zj (za zj zk))))
def zQA:BL ty zoF:=zdx (za zJF (za zJF zk)) false (zdx (za (zeD 443) (za (zeD 444) zk)) false (zeG 54 false (zeG 75 false (zeG 54 false (zY)))))
def zQJ (x:zoq) (y:zos):Nat:=(x.2.2.1.length+Int.toNat x.2.2.2.1+Int.toNat x.2.2.2.2.1+y.1.Columns.length+y.1.Rows.length+1000)
def zO1 (x:zoJ) (y:zoF):Nat:=(Int.toNat x.2.2.2.1+Int.toNat x.2.2.2.2.1+y.2.2.1.length+y.2.2.2.1.length+y.2.2.2.2.1.length+1000)
def zvW:=zbV zby 110 [(50,zpa),(51,zAm),(52,zcz),(53,zfV),(61,zgF),(67,zlU),(68,zpC),(69,zkb),(70,zkh),(71,zFx),(72,zyp)] [(67,[true,false]),(70,[true,false])] [(4,(kpL [1,2,19,20,21])),(15,[(2,.keep),(7,.boxOwn [(1,54)]),(48,.keep),(49,.keep),(50,.keep)])] [(4,1,(kpL [1,2])),(4,0,(kpL [2,3])),(15,3,(kpL [2,7])),(15,0,(kpL [2,3]))] [(4,spW zSy zTb (zvP) (.inl default) zRg zQJ),(15,spW zQH zQA (zuv) (.inl default) zOG zO1)] []
theorem zQU:zC zvW (lp (body f28) 0):=zn (id:=4) (hl:=rfl)
theorem zO4:zC zvW (lp (body f28) 1):=zn (id:=15) (hl:=rfl)
def zEV (r:Relation):Wy0 (Relation×Int):=.bn (zhY r.Columns) λr22=>.i (!r22) (.k ((⟨[],[]⟩:Relation),1)) (.bn (zDo (r.Rows.length+(Int.ofNat r.Rows.length).toNat +Int.toNat 0+r.Columns.length+r.Rows.length+1000) r.Rows (Int.ofNat r.Rows.length) 0 r) λr21=>.i (isL r21) (.k ((⟨[],[]⟩:Relation),getL r21)) (.bn (zfx (getR r21).Rows) λr20=>.bn (zel r20) λr19=>.bn (zcF r19) λr18=>.bn (zcp (getR r21).Columns) λr17=>.bn (zB9 ((Int.ofNat r18.length).toNat +Int.toNat 0+r18.length+r17.length+0+1000) (Int.ofNat r18.length) 0 r18 r17 []) λr16=>.i (isL r16) (.k ((⟨[],[]⟩:Relation),getL r16)) (.i (decide (Int.ofNat (getR r16).2.length>1024)) (.k ((⟨[],[]⟩:Relation),6)) (.k ((⟨(getR r16).1,(getR r16).2⟩:Relation),0)))))
def znF (r:Relation):=(zEV r).fin default
def zQ2 (r:Relation×Int):ARes ty:=⟨[.pure (.agg (base.enc 25 r.1)),.pure (.lit (.int .i64 r.2))],[]⟩
def zs2:=zh z1T λx=>((znF x.1).1,zQ2 (znF x.1).2)
theorem zzL:Sound Tryz.prog zby 28 zs2:=
 sU (cx':=zvW) (zi ⟨zwl.nodr,zGr.nodr,zcG.nodr,zhd.nodr,zk3.nodr,zw3.nodr,zAJ.nodr,zns.nodr,zuE.nodr,zSG,zFV,trivial⟩) call28 func28 (lOK (aC zQU (aC zO4 aN))) (sg:=⟨[.pure,.pure],[]⟩)
def z7g:=zbp zby 50 [(12,zFB),(14,zmD),(16,zyy),(28,zs2),(42,zKF)]
def zbaw:Wy0 (Bool):=.k true
def z2Q:Bool×Bool:=(zbaw).fin default
def zbau:AL zby (Unit):=zp
def zMI:=zh zbau λx=>((z2Q ).1,zXz (z2Q ).2)
theorem z1P:Sound Tryz.prog zby 10 zMI:=
 sU (cx':=z7g) (zi ⟨zSY,zqn.nodr,zFZ.nodr,zzL,zZk.nodr,trivial⟩) call10 func10 (lOK aN)
abbrev zpR:=yH×yH×Int×Unit
def zlj (a:yH) (b:yH) (i:Int):Wy zpR Unit (Bool⊕Unit):=.i (decide (i<Int.ofNat a.length)) (.ix i a.length (.ix i b.length (.i (!((a.getD i.toNat default).Name.toList==(b.getD i.toNat default).Name.toList&&((a.getD i.toNat default).Type_==(b.getD i.toNat default).Type_&&true))) (.k (.inl false)) (.h (a,b,(IntKind.i64.wrap (i+1)),()) ())))) (.k (.inr ()))
def zwK (x:zpR) (y:Unit):=zlj x.1 x.2.1 x.2.2.1
def zFT (n:Nat) (a:yH) (b:yH) (i:Int):=zy (zwK) (.inl default) n (a,b,i,()) ()
def zUv:LL ty zpR:=za (lSl 75) (za (lSl 75) (za zj zk))
def zSn (x:zpR) (y:Unit):Nat:=(x.1.length+x.2.1.length+Int.toNat x.2.2.1+1)
def zF6:=zbV base 26 [] [] [(4,(kpL [0,1,5]))] [(4,1,[]),(4,0,(kpL [4]))] [(4,spW zUv zbaJ (zwK) (.inl default) znV zSn)] []
theorem zSz:zC zF6 (lp (body f23) 0):=zn (id:=4) (hl:=rfl)
def zGN (a:yH) (b:yH):Wy0 (Bool):=.i (Int.ofNat a.length != Int.ofNat b.length) (.k false) (.bn (zFT (a.length+b.length+Int.toNat 0+1) a b 0) λr0=>.i (isL r0) (.k (getL r0)) (.k true))
def zpF (a:yH) (b:yH):=(zGN a b).fin default
def zCd:=zh zzj λx=>((zpF x.1 x.2.1).1,zXz (zpF x.1 x.2.1).2)
theorem zOn:SdP 23 zCd:=
 sT (cx':=zF6) (zi trivial) call23 func23 (lOK (aC zSz aN))
end Go.Proofs.YtoknknbmfmddbaaGreatDoor
end
