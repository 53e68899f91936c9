/- Texts of this claim, joined (the program, its functions in plain words, and what they compute). -/
import Derived.Test.YtljlfiomikifjaaGreatDoorGC4
set_option autoImplicit false
set_option linter.unusedVariables false
set_option linter.unusedSectionVars false
set_option linter.unusedSimpArgs false
set_option maxRecDepth 1000000
set_option maxHeartbeats 0
noncomputable section
namespace Go.Proofs.YtljlfiomikifjaaGreatDoor
open Go Go.Ab
abbrev zcl:=yE×Unit×Int×Int×Unit
def zoK (s:yE) (t7:Int) (t8:Int):Wy zcl (Unit) (Int⊕Unit):=.i (decide (t8<t7)) (.i (decide (0≤t8)&&decide (t8<Int.ofNat s.length)) (.bn (zxL (s.getD t8.toNat default)) fun r0=>.i (r0) (.k (.inl t8)) (.h (s,(),t7,(IntKind.i64.wrap (t8+1)),()) ())) .d) (.k (.inr ()))
def zgA (x:zcl) (y:Unit):Wy zcl (Unit) (Int⊕Unit):=zoK x.1 x.2.2.1 x.2.2.2.1
def zou (n:Nat) (s:yE) (t7:Int) (t8:Int):Bool×(Int⊕Unit):=zJ (zgA) (.inl default) n (s,(),t7,t8,()) ()
def zoC:LL ty zcl:=za (lSl 100) (za (lFn 217 (zn)) (za lI64 (za lI64 zn)))
def zoa (x:zcl) (y:Unit):Nat:=(x.1.length+Int.toNat x.2.2.1+Int.toNat x.2.2.2.1+1)
def zgy:Cx ty:=mkCx base 19 [(217,zkW)] [] [(2,(kpL [0,1,7,8]))] [(2,1,[]),(2,0,(kpL [4]))] [(2,spW zoC zSV (zgA) (.inl default) zq1 zoa)] []
theorem zod:zI zgy (lp (body Tryz.f163) 0):=zt (id:=2) (hl:=rfl)
def zpn (s:yE):Wy0 (Int):=.bn (zou (s.length+(Int.ofNat s.length).toNat +Int.toNat 0+1) s (Int.ofNat s.length) 0) fun r2=>.i (isL r2) (.k (getL r2)) (.k (-1:Int))
def zeg (s:yE):Bool×Int:=(zpn s).fin default
def zpe:AL base (yE×Unit×Unit):=zd (ze (vSl 100)) (zd (ze (vFn 217 vNil)) aNil)
def zfX:Ab.Spec ty:=zh zpe fun x=>((zeg x.1).1,zVk (zeg x.1).2)
theorem zm4:SdP 163 zfX:=
 sW (cx':=zgy) zq zi zk (zj ⟨zpP,trivial⟩) Tryz.call163 Tryz.func163 (c:=body Tryz.f163) (lOK (aC zod aN))
def zm7:Cx ty:=mkCx base 9 [(163,zfX),(217,zkW)] [] [] [] [] []
def znj (s:yE):Wy0 (Bool):=.bn (zeg s) fun r0=>.k (decide (r0≥0))
def zdX (s:yE):Bool×Bool:=(znj s).fin default
def zfh:Ab.Spec ty:=zh zpe fun x=>((zdX x.1).1,zY8 (zdX x.1).2)
theorem zlB:SdP 132 zfh:=
 sW (cx':=zm7) zq zi zk (zj ⟨zm4,zpP,trivial⟩) Tryz.call132 Tryz.func132 (c:=body Tryz.f132) (lOK aN)
def zSz:Cx ty:=mkCx base 45 [(36,zp3),(70,zef),(132,zfh),(135,zqN),(138,zlE),(152,zfN),(217,zkW),(218,zAt),(219,zAz)] [] [] [] [] []
def zU9 (fn:Int) (items:yE) (op:Int) (bound:Value):Wy0 (yC×Int):=.bn (zjr fn items op bound) fun r5=>.i (!r5) (.k ([],1)) (.bn (zdX items) fun r4=>.i (r4) (.k ([],1)) (.bn (zzS items) fun r3=>.i (decide (Int.ofNat r3.length>0)) (.bn (zfi (zic (Atom.mk 4 (RowID.mk 0 0) [] fn r3 op bound)).2) fun r0=>.k (r0.1,r0.2)) (.i (fn==0) (.bn (zib 0 bound.Int) fun r2=>.bn (zzT op r2) fun r1=>.i (r1) (.k (ztV.2,0)) (.k ([],0))) (.k ([],0)))))
def zBH (fn:Int) (items:yE) (op:Int) (bound:Value):Bool×(yC×Int):=(zU9 fn items op bound).fin default
def zAN:Ab.Spec ty:=zh z1o fun x=>((zBH x.1 x.2.1 x.2.2.1 x.2.2.2.1).1,zLE (zBH x.1 x.2.1 x.2.2.1 x.2.2.2.1).2)
theorem zMf:SdP 180 zAN:=
 sW (cx':=zSz) zq zi zk (zj ⟨zu6,zeU,zlB,zxT,zq2,zhT,zpP,zK7,zL6,trivial⟩) Tryz.call180 Tryz.func180 (c:=body Tryz.f180) (lOK aN) (sg:=⟨[.own 28,.pure],[]⟩)
abbrev zgf:=((yG×Unit)×Unit)×Unit×Unit×yA×Int×Int×Unit
abbrev zf7:=Atom×yA×Unit
abbrev zjF:=Int⊕(yG×Atom×yA)
abbrev zga:=((yG×Unit)×Unit)×Unit×Unit×yE×Int×Int×Unit
abbrev zf5:=Atom×yE×Unit
abbrev zjJ:=Int⊕(Atom×yE)
def zEa (zO:yC→yG→Bool×(yC×Int)) (to:yG) (t24:yA) (t25:Int) (t26:Int) (x_:Atom) (args:yA):Wy zgf zf7 zjF:=.i (decide (t26<t25)) (.i (decide (0≤t26)&&decide (t26<Int.ofNat t24.length)) (.bn (zO (t24.getD t26.toNat default) to) fun r2=>.i (r2.2 != 0) (.k (.inl (r2.2))) (.i (decide ((args.length+[r2.1].length)*24≤zbk)) (.h (((to,()),()),(),(),t24,t25,(IntKind.i64.wrap (t26+1)),()) (x_,(args++[r2.1]),())) .d)) .d) (.k (.inr (to,x_,args)))
def zuk (zO:yC→yG→Bool×(yC×Int)) (x:zgf) (y:zf7):Wy zgf zf7 zjF:=zEa zO x.1.1.1 x.2.2.2.1 x.2.2.2.2.1 x.2.2.2.2.2.1 y.1 y.2.1
def zDY (zO:yC→yG→Bool×(yC×Int)) (n:Nat) (to:yG) (t24:yA) (t25:Int) (t26:Int) (x_:Atom) (args:yA):Bool×zjF:=zJ (zuk zO) (.inl default) n (((to,()),()),(),(),t24,t25,t26,()) (x_,args,())
def zC3 (r:zjF):LTree ty:=.ite (isL r) (.done .ret [.lit (.slice none 0 0),.lit (.int .i64 (getL r))] []) (.done (.exit 0) [.fn 84 ([.bptr ([.sl 51 (getR r).1]) 0]),.ptr 432 0,.own 433] [.box (base.enc 67 (getR r).2.1) false,.arr 23 (getR r).2.2 false])
def zD8:LL ty zgf:=za (lFn 84 (za (zlS (za (lSl 51) zn) 0) zn)) (za (zdC 432 0) (za (lOwn 433) (za (lSl 23) (za lI64 (za lI64 zn)))))
def zD0:BL ty zf7:=bBox (zd6 (fun x=>(⟨x.1,⟨x.2.1,x.2.2.1⟩,x.2.2.2.1,x.2.2.2.2.1,x.2.2.2.2.2.1,x.2.2.2.2.2.2.1,⟨x.2.2.2.2.2.2.2.1,x.2.2.2.2.2.2.2.2.1,x.2.2.2.2.2.2.2.2.2.1⟩⟩:Atom)) (fun x=>(x.Kind,x.Row.Table,x.Row.Seq,x.Args,x.Func,x.Items,x.Op,x.Bound.Kind,x.Bound.Int,x.Bound.Text,())) (fun _=>rfl) (za (lInt .i64) (za (lInt .i64) (za (lInt .i64) (za (lSl 23) (za (lInt .i64) (za (lSl 100) (za (lInt .i64) (za (lInt .i64) (za (lInt .i64) (za lStr zn))))))))))) false (bArr 23 false (bNil))
def zDt (zO:yC→yG→Bool×(yC×Int)) (to:yG) (t74:yE) (t75:Int) (t76:Int) (x_:Atom) (items:yE):Wy zga zf5 zjJ:=.i (decide (t76<t75)) (.i (decide (0≤t76)&&decide (t76<Int.ofNat t74.length)) (.bn (zO (t74.getD t76.toNat default).Ann to) fun r4=>.i (r4.2 != 0) (.k (.inl (r4.2))) (.i (decide ((items.length+[WeightedOf.mk (t74.getD t76.toNat default).Value r4.1].length)*56≤zbk)) (.h (((to,()),()),(),(),t74,t75,(IntKind.i64.wrap (t76+1)),()) (x_,(items++[WeightedOf.mk (t74.getD t76.toNat default).Value r4.1]),())) .d)) .d) (.k (.inr (x_,items)))
def ztt (zO:yC→yG→Bool×(yC×Int)) (x:zga) (y:zf5):Wy zga zf5 zjJ:=zDt zO x.1.1.1 x.2.2.2.1 x.2.2.2.2.1 x.2.2.2.2.2.1 y.1 y.2.1
def zDh (zO:yC→yG→Bool×(yC×Int)) (n:Nat) (to:yG) (t74:yE) (t75:Int) (t76:Int) (x_:Atom) (items:yE):Bool×zjJ:=zJ (ztt zO) (.inl default) n (((to,()),()),(),(),t74,t75,t76,()) (x_,items,())
def zBY (r:zjJ):LTree ty:=.ite (isL r) (.done .ret [.lit (.slice none 0 0),.lit (.int .i64 (getL r))] []) (.done (.exit 3) [.ptr 432 0,.own 433] [.box (base.enc 67 (getR r).1) false,.arr 100 (getR r).2 false])
def zDj:LL ty zga:=za (lFn 84 (za (zlS (za (lSl 51) zn) 0) zn)) (za (zdC 432 0) (za (lOwn 433) (za (lSl 100) (za lI64 (za lI64 zn)))))
def zCB:BL ty zf5:=bBox (zd6 (fun x=>(⟨x.1,⟨x.2.1,x.2.2.1⟩,x.2.2.2.1,x.2.2.2.2.1,x.2.2.2.2.2.1,x.2.2.2.2.2.2.1,⟨x.2.2.2.2.2.2.2.1,x.2.2.2.2.2.2.2.2.1,x.2.2.2.2.2.2.2.2.2.1⟩⟩:Atom)) (fun x=>(x.Kind,x.Row.Table,x.Row.Seq,x.Args,x.Func,x.Items,x.Op,x.Bound.Kind,x.Bound.Int,x.Bound.Text,())) (fun _=>rfl) (za (lInt .i64) (za (lInt .i64) (za (lInt .i64) (za (lSl 23) (za (lInt .i64) (za (lSl 100) (za (lInt .i64) (za (lInt .i64) (za (lInt .i64) (za lStr zn))))))))))) false (bArr 100 false (bNil))
def zC1 (x:zgf) (y:zf7):Nat:=(x.1.1.1.length+x.2.2.2.1.length+Int.toNat x.2.2.2.2.1+Int.toNat x.2.2.2.2.2.1+y.1.Args.length+y.1.Items.length+y.2.1.length+1)
def zBQ (x:zga) (y:zf5):Nat:=(x.1.1.1.length+x.2.2.2.1.length+Int.toNat x.2.2.2.2.1+Int.toNat x.2.2.2.2.2.1+y.1.Args.length+y.1.Items.length+y.2.1.length+1)
def zmd (zO:yC→yG→Bool×(yC×Int)):Cx ty:=mkCx base0 108 [(83,(zj8 zO)),(84,zgD),(177,zAf),(178,zAo),(179,zzp),(180,zAN)] [] [(5,[(1,.keep),(2,.keep),(6,.own 23),(24,.keep),(25,.keep),(26,.keep)]),(21,[(1,.keep),(2,.keep),(11,.own 100),(74,.keep),(75,.keep),(76,.keep)])] [(5,1,(kpL [1,2,6])),(5,0,(kpL [4,5])),(21,4,(kpL [2,11])),(21,0,(kpL [4,5]))] [(5,spW zD8 zD0 (zuk zO) (.inl default) zC3 zC1),(21,spW zDj zCB (ztt zO) (.inl default) zBY zBQ)] []
theorem zDm (zO:yC→yG→Bool×(yC×Int)):zI (zmd zO) (lp (body Tryz.f150) 0):=zt (id:=5) (hl:=rfl)
theorem zB0 (zO:yC→yG→Bool×(yC×Int)):zI (zmd zO) (lp (body Tryz.f150) 1):=zt (id:=21) (hl:=rfl)
def zE6 (zO:yC→yG→Bool×(yC×Int)) (x_:Atom) (to:yG):Wy0 (yC×Int):=.i (x_.Kind==0) (.bn (zpG x_.Row to) fun r6=>.k (r6,0)) (.bn (zDY zO (to.length+x_.Args.length+(Int.ofNat x_.Args.length).toNat +Int.toNat 0+x_.Args.length+x_.Items.length+0+1) to x_.Args (Int.ofNat x_.Args.length) 0 (Atom.mk x_.Kind x_.Row x_.Args x_.Func x_.Items x_.Op x_.Bound) []) fun r12=>.i (isL r12) (.k ([],getL r12)) (.i ((getR r12).2.1.Kind==1) (.i (decide ((0:Int)≤(0:Int))&&decide (0<Int.ofNat (getR r12).2.2.length)) (.i (decide ((0:Int)≤(1:Int))&&decide (1<Int.ofNat (getR r12).2.2.length)) (.bn (zzZ ((getR r12).2.2.getD (Int.toNat 0) default) ((getR r12).2.2.getD (Int.toNat 1) default)) fun r7=>.k (r7.1,r7.2)) .d) .d) (.i ((getR r12).2.1.Kind==2) (.i (decide ((0:Int)≤(0:Int))&&decide (0<Int.ofNat (getR r12).2.2.length)) (.bn (zzW ((getR r12).2.2.getD (Int.toNat 0) default)) fun r8=>.k (r8.1,r8.2)) .d) (.i ((getR r12).2.1.Kind==3) (.i (decide ((0:Int)≤(0:Int))&&decide (0<Int.ofNat (getR r12).2.2.length)) (.bn (zyQ ((getR r12).2.2.getD (Int.toNat 0) default)) fun r9=>.k (r9.1,r9.2)) .d) (.bn (zDh zO ((getR r12).1.length+(getR r12).2.1.Items.length+(Int.ofNat (getR r12).2.1.Items.length).toNat +Int.toNat 0+(getR r12).2.1.Args.length+(getR r12).2.1.Items.length+0+1) (getR r12).1 (getR r12).2.1.Items (Int.ofNat (getR r12).2.1.Items.length) 0 (Atom.mk (getR r12).2.1.Kind (getR r12).2.1.Row (getR r12).2.1.Args (getR r12).2.1.Func (getR r12).2.1.Items (getR r12).2.1.Op (getR r12).2.1.Bound) []) fun r11=>.i (isL r11) (.k ([],getL r11)) (.bn (zBH (getR r11).1.Func (getR r11).2 (getR r11).1.Op (getR r11).1.Bound) fun r10=>.k (r10.1,r10.2)))))))
def zxF (zO:yC→yG→Bool×(yC×Int)) (x_:Atom) (to:yG):Bool×(yC×Int):=(zE6 zO x_ to).fin default
theorem zBE (zO:yC→yG→Bool×(yC×Int)) (zL2:Sound Tryz.prog base0 83 (zj8 zO)):Sound Tryz.prog base0 150 (zkf (zxF zO)):=
 sW (cx':=(zmd zO)) zq zh8 zk (zj ⟨zL2,zj6.nodr,zKZ.nodr,zLe.nodr,zJ3.nodr,zMf.nodr,trivial⟩) Tryz.call150 Tryz.func150 (c:=body Tryz.f150) (lOK (aC (zDm zO) (aC (zB0 zO) aN))) (sg:=⟨[.own 28,.pure],[]⟩)
def zDK:Nat→(yC→yG→Bool×(yC×Int))×(Atom→yG→Bool×(yC×Int))
 | 0=>(fun _ _=>(false,default),fun _ _=>(false,default))
 | n+1=>(zBI ((zDK n).2),zxF ((zDK n).1))
def zAW (n:Nat):yC→yG→Bool×(yC×Int):=(zDK n).1
def zIK (n:Nat):Atom→yG→Bool×(yC×Int):=(zDK n).2
theorem zP9:∀ n,Sound Tryz.prog base0 83 (zj8 (zAW n))∧Sound Tryz.prog base0 150 (zkf (zIK n))
 | 0=>⟨zY Tryz.call83 (fun _=>rfl),zY Tryz.call150 (fun _=>rfl)⟩
 | n+1=>by
  have ih:=zP9 n;exact ⟨zFF _ (ih.2),zBE _ (ih.1)⟩
def zDS:yC→yG→Bool×(yC×Int):=zAW 1000
def annotation_replace_spec:Ab.Spec ty:=zj8 zDS
theorem zJd:Sound Tryz.prog base0 83 annotation_replace_spec:=(zP9 1000).1
def zEX:Cx ty:=mkCx base 7 [(20,annotation_Valid_spec)] [] [] [] [] []
def zE3 (b:Binding):Wy0 (Bool):=.bn (zce b.To) fun r0=>.k (!r0)
def zpl (b:Binding):Bool×Bool:=(zE3 b).fin default
def zF1:AL base (Binding×Unit):=zd (ze (vAgg 51)) aNil
def zgE:Ab.Spec ty:=zh zF1 fun x=>((zpl x.1).1,zY8 (zpl x.1).2)
theorem zko:SdP 82 zgE:=
 sW (cx':=zEX) zq zi zk (zj ⟨zco,trivial⟩) Tryz.call82 Tryz.func82 (c:=body Tryz.f82) (lOK aN)
abbrev zcC:=yG×Unit×Int×Int×Unit
def zqk (s:yG) (t7:Int) (t8:Int):Wy zcC (Unit) (Int⊕Unit):=.i (decide (t8<t7)) (.i (decide (0≤t8)&&decide (t8<Int.ofNat s.length)) (.bn (zpl (s.getD t8.toNat default)) fun r0=>.i (r0) (.k (.inl t8)) (.h (s,(),t7,(IntKind.i64.wrap (t8+1)),()) ())) .d) (.k (.inr ()))
def zhp (x:zcC) (y:Unit):Wy zcC (Unit) (Int⊕Unit):=zqk x.1 x.2.2.1 x.2.2.2.1
def zp6 (n:Nat) (s:yG) (t7:Int) (t8:Int):Bool×(Int⊕Unit):=zJ (zhp) (.inl default) n (s,(),t7,t8,()) ()
def zp4:LL ty zcC:=za (lSl 51) (za (lFn 82 (zn)) (za lI64 (za lI64 zn)))
def zpI (x:zcC) (y:Unit):Nat:=(x.1.length+Int.toNat x.2.2.1+Int.toNat x.2.2.2.1+1)
def zhh:Cx ty:=mkCx base 19 [(82,zgE)] [] [(2,(kpL [0,1,7,8]))] [(2,1,[]),(2,0,(kpL [4]))] [(2,spW zp4 zSV (zhp) (.inl default) zq1 zpI)] []
theorem zpo:zI zhh (lp (body Tryz.f85) 0):=zt (id:=2) (hl:=rfl)
def zqX (s:yG):Wy0 (Int):=.bn (zp6 (s.length+(Int.ofNat s.length).toNat +Int.toNat 0+1) s (Int.ofNat s.length) 0) fun r2=>.i (isL r2) (.k (getL r2)) (.k (-1:Int))
def zev (s:yG):Bool×Int:=(zqX s).fin default
def zre:AL base (yG×Unit×Unit):=zd (ze (vSl 51)) (zd (ze (vFn 82 vNil)) aNil)
def zgB:Ab.Spec ty:=zh zre fun x=>((zev x.1).1,zVk (zev x.1).2)
theorem znK:SdP 85 zgB:=
 sW (cx':=zhh) zq zi zk (zj ⟨zko,trivial⟩) Tryz.call85 Tryz.func85 (c:=body Tryz.f85) (lOK (aC zpo aN))
def znV:Cx ty:=mkCx base 9 [(82,zgE),(85,zgB)] [] [] [] [] []
def zoQ (s:yG):Wy0 (Bool):=.bn (zev s) fun r0=>.k (decide (r0≥0))
def zeb (s:yG):Bool×Bool:=(zoQ s).fin default
def zfB:Ab.Spec ty:=zh zre fun x=>((zeb x.1).1,zY8 (zeb x.1).2)
theorem zmw:SdP 81 zfB:=
 sW (cx':=znV) zq zi zk (zj ⟨zko,znK,trivial⟩) Tryz.call81 Tryz.func81 (c:=body Tryz.f81) (lOK aN)
def zHH:Cx ty:=mkCx base0 18 [(20,annotation_Valid_spec),(81,zfB),(82,zgE),(83,annotation_replace_spec),(84,zgD)] [] [] [] [] []
def zJF (a:yC) (l:yG):Wy0 (yC×Int):=.bn (zce a) fun r2=>.i (!r2) (.k ([],1)) (.bn (zeb l) fun r1=>.i (r1) (.k ([],1)) (.bn (zDS a l) fun r0=>.k (r0.1,r0.2)))
def ztc (a:yC) (l:yG):Bool×(yC×Int):=(zJF a l).fin default
def zJ8:AL base0 (yC×yG×Unit):=zd (ze (vSl 28)) (zd (ze (vSl 51)) aNil)
def zvA:Ab.Spec ty:=zh zJ8 fun x=>((ztc x.1 x.2.1).1,zLE (ztc x.1 x.2.1).2)
theorem zEe:Sound Tryz.prog base0 29 zvA:=
 sW (cx':=zHH) zq zh8 zk (zj ⟨zco.nodr,zmw.nodr,zko.nodr,zJd,zj6.nodr,trivial⟩) Tryz.call29 Tryz.func29 (c:=body Tryz.f29) (lOK aN) (sg:=⟨[.own 28,.pure],[]⟩)
def zPv:Cx ty:=mkCx base0 11 [(29,zvA)] [] [] [] [] []
def zQy (a:yC):Wy0 (yC):=.bn (ztc a []) fun r0=>.k r0.1
def zy0 (a:yC):Bool×yC:=(zQy a).fin default
def zzu:Ab.Spec ty:=zh zVK fun x=>((zy0 x.1).1,zFD (zy0 x.1).2)
theorem zJ1:Sound Tryz.prog base0 68 zzu:=
 sW (cx':=zPv) zq zh8 zk (zj ⟨zEe,trivial⟩) Tryz.call68 Tryz.func68 (c:=body Tryz.f68) (lOK aN) (sg:=⟨[.own 28],[]⟩)
abbrev zjh:=yC×Unit×Int×Unit×yC×Int×Int×yC×Int×Int×Unit
abbrev zjx:=yC×Term×Unit
abbrev zmI:=(yC×yC×Int×Int×yC)⊕(yC×yC×Int×Int×yC×Term)
abbrev zjz:=yC×Unit×yC×Int×Int×Unit
abbrev zgw:=yC×Unit
def zNs (a:yC) (i:Int) (t8:yC) (t9:Int) (t10:Int) (t15:yC) (t16:Int) (t17:Int) (out_:yC) (t:Term):Wy zjh zjx zmI:=.i (decide (t17<t16)) (.i (decide (0≤t17)&&decide (t17<Int.ofNat t15.length)) (.i (t17 != i) (.bn (zci (t15.getD t17.toNat default) t) fun r5=>.i (r5) (.bn (zci t (t15.getD t17.toNat default)) fun r4=>.i (!r4) (.k (.inl (a,t8,t9,t10,out_))) (.i (decide (t17<i)) (.k (.inl (a,t8,t9,t10,out_))) (.h (a,(),i,(),t8,t9,t10,t15,t16,(IntKind.i64.wrap (t17+1)),()) (out_,t,())))) (.h (a,(),i,(),t8,t9,t10,t15,t16,(IntKind.i64.wrap (t17+1)),()) (out_,t,()))) (.h (a,(),i,(),t8,t9,t10,t15,t16,(IntKind.i64.wrap (t17+1)),()) (out_,t,()))) .d) (.k (.inr (a,t8,t9,t10,out_,t)))
def zAv (x:zjh) (y:zjx):Wy zjh zjx zmI:=zNs x.1 x.2.2.1 x.2.2.2.2.1 x.2.2.2.2.2.1 x.2.2.2.2.2.2.1 x.2.2.2.2.2.2.2.1 x.2.2.2.2.2.2.2.2.1 x.2.2.2.2.2.2.2.2.2.1 y.1 y.2.1
def zNS (n:Nat) (a:yC) (i:Int) (t8:yC) (t9:Int) (t10:Int) (t15:yC) (t16:Int) (t17:Int) (out_:yC) (t:Term):Bool×zmI:=zJ (zAv) (.inl default) n (a,(),i,(),t8,t9,t10,t15,t16,t17,()) (out_,t,())
def zLJ (r:zmI):LTree ty:=.ite (isL r) (.done (.exit 1) [.sl 28 ((getL r).1),.own 196,.sl 28 ((getL r).2.1),.lit (.int .i64 ((getL r).2.2.1)),.lit (.int .i64 ((getL r).2.2.2.1))] [.arr 28 ((getL r).2.2.2.2) false]) (.done (.exit 2) [.sl 28 (getR r).1,.own 196,.ptr 197 0,.sl 28 (getR r).2.1,.lit (.int .i64 (getR r).2.2.1),.lit (.int .i64 (getR r).2.2.2.1)] [.arr 28 (getR r).2.2.2.2.1 false,.box (base.enc 28 (getR r).2.2.2.2.2) false])
def zMy:LL ty zjh:=za (lSl 28) (za (lOwn 196) (za lI64 (za (zdC 197 0) (za (lSl 28) (za lI64 (za lI64 (za (lSl 28) (za lI64 (za lI64 zn)))))))))
def zMO:BL ty zjx:=bArr 28 false (bBox (zd6 (fun x=>(⟨x.1,x.2.1⟩:Term)) (fun x=>(x.Coeff,x.Factors,())) (fun _=>rfl) (za (lInt .i64) (za (lSl 69) zn))) false (bNil))
def zMn (a:yC) (t8:yC) (t9:Int) (t10:Int) (out_:yC):Wy zjz zgw (yC):=.i (decide (t10<t9)) (.i (decide (0≤t10)&&decide (t10<Int.ofNat t8.length)) (.bn (zNS (a.length+t10.toNat +t8.length+t9.toNat +t10.toNat +a.length+(Int.ofNat a.length).toNat +Int.toNat 0+out_.length+(t8.getD t10.toNat default).Factors.length+1000) a t10 t8 t9 t10 a (Int.ofNat a.length) 0 out_ (t8.getD t10.toNat default)) fun r8=>.i (isL r8) (.h (((getL r8).1),(),((getL r8).2.1),((getL r8).2.2.1),(IntKind.i64.wrap ((getL r8).2.2.2.1+1)),()) (((getL r8).2.2.2.2),())) (.i (decide (((getR r8).2.2.2.2.1.length+[TermOf.mk 1 (getR r8).2.2.2.2.2.Factors].length)*32≤zbk)) (.h ((getR r8).1,(),(getR r8).2.1,(getR r8).2.2.1,(IntKind.i64.wrap ((getR r8).2.2.2.1+1)),()) (((getR r8).2.2.2.2.1++[TermOf.mk 1 (getR r8).2.2.2.2.2.Factors]),())) .d)) .d) (.k out_)
def zAw (x:zjz) (y:zgw):Wy zjz zgw (yC):=zMn x.1 x.2.2.1 x.2.2.2.1 x.2.2.2.2.1 y.1
def zMd (n:Nat) (a:yC) (t8:yC) (t9:Int) (t10:Int) (out_:yC):Bool×yC:=zJ (zAw) default n (a,(),t8,t9,t10,()) (out_,())
def zLk (r:yC):LTree ty:=.done (.exit 0) [.own 196] [.arr 28 r false]
def zM7:LL ty zjz:=za (lSl 28) (za (lOwn 196) (za (lSl 28) (za lI64 (za lI64 zn))))
def zNm:BL ty zgw:=bArr 28 false (bNil)
def zLQ (x:zjh) (y:zjx):Nat:=(x.1.length+Int.toNat x.2.2.1+x.2.2.2.2.1.length+Int.toNat x.2.2.2.2.2.1+Int.toNat x.2.2.2.2.2.2.1+x.2.2.2.2.2.2.2.1.length+Int.toNat x.2.2.2.2.2.2.2.2.1+Int.toNat x.2.2.2.2.2.2.2.2.2.1+y.1.length+y.2.1.Factors.length+1000)
def zKV (x:zjz) (y:zgw):Nat:=(x.1.length+x.2.2.1.length+Int.toNat x.2.2.2.1+Int.toNat x.2.2.2.2.1+y.1.length+1000)
def ztg:Cx ty:=mkCx base 49 [(14,zh0)] [] [(3,[(0,.keep),(3,.own 28),(8,.keep),(9,.keep),(10,.keep)]),(6,(kpL [0,3,4,5,8,9,10,15,16,17]))] [(3,1,(kpL [3])),(6,3,(kpL [0,3,5,8,9,10])),(6,2,(kpL [0,3,8,9,10]))] [(6,spW zMy zMO (zAv) (.inl default) zLJ zLQ),(3,spW zM7 zNm (zAw) default zLk zKV)] []
theorem zLB:zI ztg (lp (body Tryz.f69) 1):=zt (id:=6) (hl:=rfl)
theorem zLX:zI ztg (lp (body Tryz.f69) 0):=zt (id:=3) (hl:=rfl)
def zOX (a:yC):Wy0 (yC):=.bn (zMd (a.length+a.length+(Int.ofNat a.length).toNat +Int.toNat 0+0+1000) a a (Int.ofNat a.length) 0 []) fun r10=>.k r10
def zxU (a:yC):Bool×yC:=(zOX a).fin default
def zOW:AL base zgw:=zd (ze (vSl 28)) aNil
def zys:Ab.Spec ty:=zh zOW fun x=>((zxU x.1).1,zFD (zxU x.1).2)
theorem zIO:SdP 69 zys:=
 sW (cx':=ztg) zq zi zk (zj ⟨zkk,trivial⟩) Tryz.call69 Tryz.func69 (c:=body Tryz.f69) (lOK (aC zLX (aC zLB aN))) (sg:=⟨[.own 28],[]⟩)
def zO5:Cx ty:=mkCx base0 9 [(20,annotation_Valid_spec),(68,zzu),(69,zys)] [] [] [] [] []
def zQq (a:yC):Wy0 (yC):=.bn (zce a) fun r2=>.i (!r2) (.k []) (.bn (zxU a) fun r1=>.bn (zy0 r1) fun r0=>.k r0)
def zyY (a:yC):Bool×yC:=(zQq a).fin default
def zzn:Ab.Spec ty:=zh zVK fun x=>((zyY x.1).1,zFD (zyY x.1).2)
theorem zJM:Sound Tryz.prog base0 22 zzn:=
 sW (cx':=zO5) zq zh8 zk (zj ⟨zco.nodr,zJ1,zIO.nodr,trivial⟩) Tryz.call22 Tryz.func22 (c:=body Tryz.f22) (lOK aN) (sg:=⟨[.own 28],[]⟩)
def zFQ:Cx ty:=mkCx base 7 [(14,zh0)] [] [] [] [] []
def zHi (u:Term) (p1:Term):Wy0 (Bool):=.bn (zci u p1) fun r0=>.k r0
def zqM (u:Term) (p1:Term):Bool×Bool:=(zHi u p1).fin default
def zGD:AL base (Term×Term×Unit):=zd (ze (vAgg 28)) (zd (ze (zwI 28)) aNil)
def zhr:Ab.Spec ty:=zh zGD fun x=>((zqM x.1 x.2.1).1,zY8 (zqM x.1 x.2.1).2)
theorem zkM:SdP 61 zhr:=
 sW (cx':=zFQ) zq zi zk (zj ⟨zkk,trivial⟩) Tryz.call61 Tryz.func61 (c:=body Tryz.f61) (lOK aN)
abbrev zcM:=yC×(Term×Unit)×Int×Int×Unit
def zrg (s:yC) (f:Term) (t7:Int) (t8:Int):Wy zcM (Unit) (Int⊕Unit):=.i (decide (t8<t7)) (.i (decide (0≤t8)&&decide (t8<Int.ofNat s.length)) (.bn (zqM (s.getD t8.toNat default) f) fun r0=>.i (r0) (.k (.inl t8)) (.h (s,(f,()),t7,(IntKind.i64.wrap (t8+1)),()) ())) .d) (.k (.inr ()))
def zhV (x:zcM) (y:Unit):Wy zcM (Unit) (Int⊕Unit):=zrg x.1 x.2.1.1 x.2.2.1 x.2.2.2.1
def zqT (n:Nat) (s:yC) (f:Term) (t7:Int) (t8:Int):Bool×(Int⊕Unit):=zJ (zhV) (.inl default) n (s,(f,()),t7,t8,()) ()
def zqH:LL ty zcM:=za (lSl 28) (za (lFn 61 (za (zlS (zd6 (fun x=>(⟨x.1,x.2.1⟩:Term)) (fun x=>(x.Coeff,x.Factors,())) (fun _=>rfl) (za lI64 (za (lSl 69) zn))) 0) zn)) (za lI64 (za lI64 zn)))
def zp9 (x:zcM) (y:Unit):Nat:=(x.1.length+x.2.1.1.Factors.length+Int.toNat x.2.2.1+Int.toNat x.2.2.2.1+1000)
def zhK:Cx ty:=mkCx base 19 [(61,zhr)] [] [(2,(kpL [0,1,7,8]))] [(2,1,[]),(2,0,(kpL [4]))] [(2,spW zqH zSV (zhV) (.inl default) zq1 zp9)] []
theorem zqx:zI zhK (lp (body Tryz.f113) 0):=zt (id:=2) (hl:=rfl)
def zrR (s:yC) (f:Term):Wy0 (Int):=.bn (zqT (s.length+f.Factors.length+(Int.ofNat s.length).toNat +Int.toNat 0+1000) s f (Int.ofNat s.length) 0) fun r2=>.i (isL r2) (.k (getL r2)) (.k (-1:Int))
def zeG (s:yC) (f:Term):Bool×Int:=(zrR s f).fin default
def zrH:AL base (yC×(Term×Unit)×Unit):=zd (ze (vSl 28)) (zd (ze (vFn 61 (zdj (zwI 28) vNil))) aNil)
def zgO:Ab.Spec ty:=zh zrH fun x=>((zeG x.1 x.2.1.1).1,zVk (zeG x.1 x.2.1.1).2)
theorem zoB:SdP 113 zgO:=
 sW (cx':=zhK) zq zi zk (zj ⟨zkM,trivial⟩) Tryz.call113 Tryz.func113 (c:=body Tryz.f113) (lOK (aC zqx aN))
def zoT:Cx ty:=mkCx base 9 [(61,zhr),(113,zgO)] [] [] [] [] []
def zo9 (s:yC) (f:Term):Wy0 (Bool):=.bn (zeG s f) fun r0=>.k (decide (r0≥0))
def zee (s:yC) (f:Term):Bool×Bool:=(zo9 s f).fin default
def zfR:Ab.Spec ty:=zh zrH fun x=>((zee x.1 x.2.1.1).1,zY8 (zee x.1 x.2.1.1).2)
theorem zmV:SdP 59 zfR:=
 sW (cx':=zoT) zq zi zk (zj ⟨zkM,zoB,trivial⟩) Tryz.call59 Tryz.func59 (c:=body Tryz.f59) (lOK aN)
def zJR:Cx ty:=mkCx base 8 [(59,zfR),(61,zhr)] [] [] [] [] []
def zLK (t:Term) (p1:yC):Wy0 (Bool):=.bn (zee p1 t) fun r0=>.k (!r0)
def zu5 (t:Term) (p1:yC):Bool×Bool:=(zLK t p1).fin default
def zL8:AL base (Term×(yC×Unit)×Unit):=zd (ze (vAgg 28)) (zd (ze (vBox (zdj (vSl 28) vNil))) aNil)
def zjE:Ab.Spec ty:=zh zL8 fun x=>((zu5 x.1 x.2.1.1).1,zY8 (zu5 x.1 x.2.1.1).2)
theorem zm3:SdP 60 zjE:=
 sW (cx':=zJR) zq zi zk (zj ⟨zmV,zkM,trivial⟩) Tryz.call60 Tryz.func60 (c:=body Tryz.f60) (lOK aN)
abbrev zc0:=yC×((yC×Unit)×Unit)×Int×Int×Unit
def zr8 (s:yC) (f:yC) (t7:Int) (t8:Int):Wy zc0 (Unit) (Int⊕Unit):=.i (decide (t8<t7)) (.i (decide (0≤t8)&&decide (t8<Int.ofNat s.length)) (.bn (zu5 (s.getD t8.toNat default) f) fun r0=>.i (r0) (.k (.inl t8)) (.h (s,((f,()),()),t7,(IntKind.i64.wrap (t8+1)),()) ())) .d) (.k (.inr ()))
def zim (x:zc0) (y:Unit):Wy zc0 (Unit) (Int⊕Unit):=zr8 x.1 x.2.1.1.1 x.2.2.1 x.2.2.2.1
def zrT (n:Nat) (s:yC) (f:yC) (t7:Int) (t8:Int):Bool×(Int⊕Unit):=zJ (zim) (.inl default) n (s,((f,()),()),t7,t8,()) ()
def zr9:LL ty zc0:=za (lSl 28) (za (lFn 60 (za (zlS (za (lSl 28) zn) 0) zn)) (za lI64 (za lI64 zn)))
def zq7 (x:zc0) (y:Unit):Nat:=(x.1.length+x.2.1.1.1.length+Int.toNat x.2.2.1+Int.toNat x.2.2.2.1+1000)
def zie:Cx ty:=mkCx base 19 [(60,zjE)] [] [(2,(kpL [0,1,7,8]))] [(2,1,[]),(2,0,(kpL [4]))] [(2,spW zr9 zSV (zim) (.inl default) zq1 zq7)] []
theorem zqL:zI zie (lp (body Tryz.f113) 0):=zt (id:=2) (hl:=rfl)
def zsj (s:yC) (f:yC):Wy0 (Int):=.bn (zrT (s.length+f.length+(Int.ofNat s.length).toNat +Int.toNat 0+1000) s f (Int.ofNat s.length) 0) fun r2=>.i (isL r2) (.k (getL r2)) (.k (-1:Int))
def zeW (s:yC) (f:yC):Bool×Int:=(zsj s f).fin default
def zsE:AL base (yC×((yC×Unit)×Unit)×Unit):=zd (ze (vSl 28)) (zd (ze (vFn 60 (zdj (vBox (zdj (vSl 28) vNil)) vNil))) aNil)
def zhk:Ab.Spec ty:=zh zsE fun x=>((zeW x.1 x.2.1.1.1).1,zVk (zeW x.1 x.2.1.1.1).2)
theorem zpN:SdP 113 zhk:=
 sW (cx':=zie) zq zi zk (zj ⟨zm3,trivial⟩) Tryz.call113 Tryz.func113 (c:=body Tryz.f113) (lOK (aC zqL aN))
def zpY:Cx ty:=mkCx base 9 [(60,zjE),(113,zhk)] [] [] [] [] []
def zqv (s:yC) (f:yC):Wy0 (Bool):=.bn (zeW s f) fun r0=>.k (decide (r0≥0))
def zei (s:yC) (f:yC):Bool×Bool:=(zqv s f).fin default
def zgg:Ab.Spec ty:=zh zsE fun x=>((zei x.1 x.2.1.1.1).1,zY8 (zei x.1 x.2.1.1.1).2)
theorem znv:SdP 59 zgg:=
 sW (cx':=zpY) zq zi zk (zj ⟨zm3,zpN,trivial⟩) Tryz.call59 Tryz.func59 (c:=body Tryz.f59) (lOK aN)
def zOL:Cx ty:=mkCx base 17 [(20,annotation_Valid_spec),(59,zgg),(60,zjE)] [] [] [] [] []
def zRk (a:yC) (b:yC):Wy0 (Bool):=.bn (zce a) fun r2=>.i (!r2) (.k false) (.bn (zce b) fun r1=>.i (!r1) (.k false) (.bn (zei a b) fun r0=>.k (!r0)))
def zyS (a:yC) (b:yC):Bool×Bool:=(zRk a b).fin default
def zzs:Ab.Spec ty:=zh zYr fun x=>((zyS x.1 x.2.1).1,zY8 (zyS x.1 x.2.1).2)
theorem zJO:SdP 18 zzs:=
 sW (cx':=zOL) zq zi zk (zj ⟨zco,znv,zm3,trivial⟩) Tryz.call18 Tryz.func18 (c:=body Tryz.f18) (lOK aN)
def zde (F:Term→Bool×Bool):Ab.Spec ty:=zh zLw fun x=>((F x.1).1,zY8 (F x.1).2)
def zcD (F:Factor→Bool×Bool):Ab.Spec ty:=zh zHx fun x=>((F x.1).1,zY8 (F x.1).2)
def zrC:AL base (yC×Unit×Unit):=zd (ze (vSl 28)) (zd (ze (vFn 141 vNil)) aNil)
def zdb (F:yC→Bool×Int):Ab.Spec ty:=zh zrC fun x=>((F x.1).1,zVk (F x.1).2)
def zcQ (F:yC→Bool×Bool):Ab.Spec ty:=zh zrC fun x=>((F x.1).1,zY8 (F x.1).2)
def zsG:AL base (yD×Unit×Unit):=zd (ze (vSl 69)) (zd (ze (vFn 142 vNil)) aNil)
def zdq (F:yD→Bool×Int):Ab.Spec ty:=zh zsG fun x=>((F x.1).1,zVk (F x.1).2)
def zc1 (F:yD→Bool×Bool):Ab.Spec ty:=zh zsG fun x=>((F x.1).1,zY8 (F x.1).2)
def zGx (zZ:yC→Bool×Bool) (zp:Term→Bool×Bool):Cx ty:=mkCx base 6 [(59,(zcQ zZ)),(141,(zde zp))] [] [] [] [] []
def zHT (zZ:yC→Bool×Bool) (zp:Term→Bool×Bool) (a:yC):Wy0 (Bool):=.bn (zZ a) fun r0=>.k (!r0)
def zzi (zZ:yC→Bool×Bool) (zp:Term→Bool×Bool) (a:yC):Bool×Bool:=(zHT zZ zp a).fin default
theorem zCD (zZ:yC→Bool×Bool) (zp:Term→Bool×Bool) (znM:SdP 59 (zcQ zZ)) (zfc:SdP 141 (zde zp)):SdP 73 (zvp (zzi zZ zp)):=
 sW (cx':=(zGx zZ zp)) zq zi zk (zj ⟨znM,zfc,trivial⟩) Tryz.call73 Tryz.func73 (c:=body Tryz.f73) (lOK aN)
def zC6 (z8:yD→Bool×Bool) (zl:Factor→Bool×Bool):Cx ty:=mkCx base 6 [(49,(zc1 z8)),(142,(zcD zl))] [] [] [] [] []
def zEp (z8:yD→Bool×Bool) (zl:Factor→Bool×Bool) (t:Term):Wy0 (Bool):=.bn (z8 t.Factors) fun r0=>.k r0
def zwA (z8:yD→Bool×Bool) (zl:Factor→Bool×Bool) (t:Term):Bool×Bool:=(zEp z8 zl t).fin default
theorem zAK (z8:yD→Bool×Bool) (zl:Factor→Bool×Bool) (zoR:SdP 49 (zc1 z8)) (zel:SdP 142 (zcD zl)):SdP 141 (zde (zwA z8 zl)):=
 sW (cx':=(zC6 z8 zl)) zq zi zk (zj ⟨zoR,zel,trivial⟩) Tryz.call141 Tryz.func141 (c:=body Tryz.f141) (lOK aN)
def zAM (zdo:yC→Bool×Bool):Cx ty:=mkCx base 22 [(73,(zvp zdo))] [] [] [] [] []
def zBJ (zdo:yC→Bool×Bool) (f:Factor):Wy0 (Bool):=.i (f.Atom.Kind != 0) (.i (f.Atom.Kind != 2) (.k true) (.i (decide ((0:Int)≤(0:Int))&&decide (0<Int.ofNat f.Atom.Args.length)) (.bn (zdo (f.Atom.Args.getD (Int.toNat 0) default)) fun r0=>.k (!r0)) .d)) (.k false)
def ztA (zdo:yC→Bool×Bool) (f:Factor):Bool×Bool:=(zBJ zdo f).fin default
theorem zyU (zdo:yC→Bool×Bool) (zIj:SdP 73 (zvp zdo)):SdP 142 (zcD (ztA zdo)):=
 sW (cx':=(zAM zdo)) zq zi zk (zj ⟨zIj,trivial⟩) Tryz.call142 Tryz.func142 (c:=body Tryz.f142) (lOK aN)
def znY (zbf:yD→Bool×Int) (zl:Factor→Bool×Bool):Cx ty:=mkCx base 9 [(103,(zdq zbf)),(142,(zcD zl))] [] [] [] [] []
def zoF (zbf:yD→Bool×Int) (zl:Factor→Bool×Bool) (s:yD):Wy0 (Bool):=.bn (zbf s) fun r0=>.k (decide (r0≥0))
def zhn (zbf:yD→Bool×Int) (zl:Factor→Bool×Bool) (s:yD):Bool×Bool:=(zoF zbf zl s).fin default
theorem zmv (zbf:yD→Bool×Int) (zl:Factor→Bool×Bool) (zqI:SdP 103 (zdq zbf)) (zel:SdP 142 (zcD zl)):SdP 49 (zc1 (zhn zbf zl)):=
 sW (cx':=(znY zbf zl)) zq zi zk (zj ⟨zqI,zel,trivial⟩) Tryz.call49 Tryz.func49 (c:=body Tryz.f49) (lOK aN)
def znp (zbd:yC→Bool×Int) (zp:Term→Bool×Bool):Cx ty:=mkCx base 9 [(113,(zdb zbd)),(141,(zde zp))] [] [] [] [] []
def zoi (zbd:yC→Bool×Int) (zp:Term→Bool×Bool) (s:yC):Wy0 (Bool):=.bn (zbd s) fun r0=>.k (decide (r0≥0))
def zgL (zbd:yC→Bool×Int) (zp:Term→Bool×Bool) (s:yC):Bool×Bool:=(zoi zbd zp s).fin default
theorem zlQ (zbd:yC→Bool×Int) (zp:Term→Bool×Bool) (zqb:SdP 113 (zdb zbd)) (zfc:SdP 141 (zde zp)):SdP 59 (zcQ (zgL zbd zp)):=
 sW (cx':=(znp zbd zp)) zq zi zk (zj ⟨zqb,zfc,trivial⟩) Tryz.call59 Tryz.func59 (c:=body Tryz.f59) (lOK aN)
abbrev zcU:=yD×Unit×Int×Int×Unit
def zqn (zl:Factor→Bool×Bool) (s:yD) (t7:Int) (t8:Int):Wy zcU (Unit) (Int⊕Unit):=.i (decide (t8<t7)) (.i (decide (0≤t8)&&decide (t8<Int.ofNat s.length)) (.bn (zl (FactorOf.mk (Atom.mk (s.getD t8.toNat default).Atom.Kind (s.getD t8.toNat default).Atom.Row (s.getD t8.toNat default).Atom.Args (s.getD t8.toNat default).Atom.Func (s.getD t8.toNat default).Atom.Items (s.getD t8.toNat default).Atom.Op (s.getD t8.toNat default).Atom.Bound) (s.getD t8.toNat default).Exp)) fun r0=>.i (r0) (.k (.inl t8)) (.h (s,(),t7,(IntKind.i64.wrap (t8+1)),()) ())) .d) (.k (.inr ()))
def zho (zl:Factor→Bool×Bool) (x:zcU) (y:Unit):Wy zcU (Unit) (Int⊕Unit):=zqn zl x.1 x.2.2.1 x.2.2.2.1
def zql (zl:Factor→Bool×Bool) (n:Nat) (s:yD) (t7:Int) (t8:Int):Bool×(Int⊕Unit):=zJ (zho zl) (.inl default) n (s,(),t7,t8,()) ()
def zqC:LL ty zcU:=za (lSl 69) (za (lFn 142 (zn)) (za lI64 (za lI64 zn)))
def zpp (x:zcU) (y:Unit):Nat:=(x.1.length+Int.toNat x.2.2.1+Int.toNat x.2.2.2.1+1000)
def zhq (zl:Factor→Bool×Bool):Cx ty:=mkCx base 19 [(142,(zcD zl))] [] [(2,(kpL [0,1,7,8]))] [(2,1,[]),(2,0,(kpL [4]))] [(2,spW zqC zSV (zho zl) (.inl default) zq1 zpp)] []
theorem zph (zl:Factor→Bool×Bool):zI (zhq zl) (lp (body Tryz.f103) 0):=zt (id:=2) (hl:=rfl)
def zqG (zl:Factor→Bool×Bool) (s:yD):Wy0 (Int):=.bn (zql zl (s.length+(Int.ofNat s.length).toNat +Int.toNat 0+1000) s (Int.ofNat s.length) 0) fun r2=>.i (isL r2) (.k (getL r2)) (.k (-1:Int))
def ziE (zl:Factor→Bool×Bool) (s:yD):Bool×Int:=(zqG zl s).fin default
theorem zoh (zl:Factor→Bool×Bool) (zel:SdP 142 (zcD zl)):SdP 103 (zdq (ziE zl)):=
 sW (cx':=(zhq zl)) zq zi zk (zj ⟨zel,trivial⟩) Tryz.call103 Tryz.func103 (c:=body Tryz.f103) (lOK (aC (zph zl) aN))
abbrev zcN:=yC×Unit×Int×Int×Unit
def zps (zp:Term→Bool×Bool) (s:yC) (t7:Int) (t8:Int):Wy zcN (Unit) (Int⊕Unit):=.i (decide (t8<t7)) (.i (decide (0≤t8)&&decide (t8<Int.ofNat s.length)) (.bn (zp (s.getD t8.toNat default)) fun r0=>.i (r0) (.k (.inl t8)) (.h (s,(),t7,(IntKind.i64.wrap (t8+1)),()) ())) .d) (.k (.inr ()))
def zgS (zp:Term→Bool×Bool) (x:zcN) (y:Unit):Wy zcN (Unit) (Int⊕Unit):=zps zp x.1 x.2.2.1 x.2.2.2.1
def zpR (zp:Term→Bool×Bool) (n:Nat) (s:yC) (t7:Int) (t8:Int):Bool×(Int⊕Unit):=zJ (zgS zp) (.inl default) n (s,(),t7,t8,()) ()
def zpX:LL ty zcN:=za (lSl 28) (za (lFn 141 (zn)) (za lI64 (za lI64 zn)))
def zoE (x:zcN) (y:Unit):Nat:=(x.1.length+Int.toNat x.2.2.1+Int.toNat x.2.2.2.1+1000)
def zgU (zp:Term→Bool×Bool):Cx ty:=mkCx base 19 [(141,(zde zp))] [] [(2,(kpL [0,1,7,8]))] [(2,1,[]),(2,0,(kpL [4]))] [(2,spW zpX zSV (zgS zp) (.inl default) zq1 zoE)] []
theorem zoX (zp:Term→Bool×Bool):zI (zgU zp) (lp (body Tryz.f113) 0):=zt (id:=2) (hl:=rfl)
def zqr (zp:Term→Bool×Bool) (s:yC):Wy0 (Int):=.bn (zpR zp (s.length+(Int.ofNat s.length).toNat +Int.toNat 0+1000) s (Int.ofNat s.length) 0) fun r2=>.i (isL r2) (.k (getL r2)) (.k (-1:Int))
def zid (zp:Term→Bool×Bool) (s:yC):Bool×Int:=(zqr zp s).fin default
theorem znF (zp:Term→Bool×Bool) (zfc:SdP 141 (zde zp)):SdP 113 (zdb (zid zp)):=
 sW (cx':=(zgU zp)) zq zi zk (zj ⟨zfc,trivial⟩) Tryz.call113 Tryz.func113 (c:=body Tryz.f113) (lOK (aC (zoX zp) aN))
def zcJ:Nat→(yC→Bool×Bool)×(Term→Bool×Bool)×(Factor→Bool×Bool)×(yC→Bool×Int)×(yC→Bool×Bool)×(yD→Bool×Int)×(yD→Bool×Bool)
 | 0=>(fun _=>(false,default),fun _=>(false,default),fun _=>(false,default),fun _=>(false,default),fun _=>(false,default),fun _=>(false,default),fun _=>(false,default))
 | n+1=>(zzi ((zcJ n).2.2.2.2.1) ((zcJ n).2.1),zwA ((zcJ n).2.2.2.2.2.2) ((zcJ n).2.2.1),ztA ((zcJ n).1),zid ((zcJ n).2.1),zgL ((zcJ n).2.2.2.1) ((zcJ n).2.1),ziE ((zcJ n).2.2.1),zhn ((zcJ n).2.2.2.2.2.1) ((zcJ n).2.2.1))
def zzt (n:Nat):yC→Bool×Bool:=(zcJ n).1
def zHr (n:Nat):Term→Bool×Bool:=(zcJ n).2.1
def zCN (n:Nat):Factor→Bool×Bool:=(zcJ n).2.2.1
def zrM (n:Nat):yC→Bool×Int:=(zcJ n).2.2.2.1
def zpK (n:Nat):yC→Bool×Bool:=(zcJ n).2.2.2.2.1
def zsh (n:Nat):yD→Bool×Int:=(zcJ n).2.2.2.2.2.1
def zqj (n:Nat):yD→Bool×Bool:=(zcJ n).2.2.2.2.2.2
theorem zKF:∀ n,SdP 73 (zvp (zzt n))∧SdP 141 (zde (zHr n))∧SdP 142 (zcD (zCN n))∧SdP 113 (zdb (zrM n))∧SdP 59 (zcQ (zpK n))∧SdP 103 (zdq (zsh n))∧SdP 49 (zc1 (zqj n))
 | 0=>⟨zY Tryz.call73 (fun _=>rfl),zY Tryz.call141 (fun _=>rfl),zY Tryz.call142 (fun _=>rfl),zY Tryz.call113 (fun _=>rfl),zY Tryz.call59 (fun _=>rfl),zY Tryz.call103 (fun _=>rfl),zY Tryz.call49 (fun _=>rfl)⟩
 | n+1=>by
  have ih:=zKF n;exact ⟨zCD _ _ (ih.2.2.2.2.1) (ih.2.1),zAK _ _ (ih.2.2.2.2.2.2) (ih.2.2.1),zyU _ (ih.1),znF _ (ih.2.1),zlQ _ _ (ih.2.2.2.1) (ih.2.1),zoh _ (ih.2.2.1),zmv _ _ (ih.2.2.2.2.2.1) (ih.2.2.1)⟩
def zAU:yC→Bool×Bool:=zzt 1000
def absorption_explained_spec:Ab.Spec ty:=zvp zAU
theorem zFJ:SdP 73 absorption_explained_spec:=(zKF 1000).1
def zIo (r:yB):ARes ty:=⟨[.own 43 r],[]⟩
def ziO (F:yC→Bool×yB):Ab.Spec ty:=zh z1A fun x=>((F x.1).1,zIo (F x.1).2)
abbrev zd5:=yF×yF×Int×Int×Unit
def zxf (s1:yF) (s2:yF) (t12:Int) (t13:Int):Wy zd5 (Unit) (Bool⊕Unit):=.i (decide (t13<t12)) (.i (decide (0≤t13)&&decide (t13<Int.ofNat s1.length)) (.i (decide (0≤t13)&&decide (t13<Int.ofNat s2.length)) (.i (!((s1.getD t13.toNat default).Table==(s2.getD t13.toNat default).Table&&((s1.getD t13.toNat default).Seq==(s2.getD t13.toNat default).Seq&&true))) (.k (.inl false)) (.h (s1,s2,t12,(IntKind.i64.wrap (t13+1)),()) ())) .d) .d) (.k (.inr ()))
def zl8 (x:zd5) (y:Unit):Wy zd5 (Unit) (Bool⊕Unit):=zxf x.1 x.2.1 x.2.2.1 x.2.2.2.1
def zxj (n:Nat) (s1:yF) (s2:yF) (t12:Int) (t13:Int):Bool×(Bool⊕Unit):=zJ (zl8) (.inl default) n (s1,s2,t12,t13,()) ()
def zx2:LL ty zd5:=za (lSl 49) (za (lSl 49) (za lI64 (za lI64 zn)))
def zw5 (x:zd5) (y:Unit):Nat:=(x.1.length+x.2.1.length+Int.toNat x.2.2.1+Int.toNat x.2.2.2.1+1)
def zlX:Cx ty:=mkCx base 26 [] [] [(4,(kpL [0,1,12,13]))] [(4,1,[]),(4,0,(kpL [4]))] [(4,spW zx2 zSV (zl8) (.inl default) z0q zw5)] []
theorem zw4:zI zlX (lp (body Tryz.f209) 0):=zt (id:=4) (hl:=rfl)
def zyc (s1:yF) (s2:yF):Wy0 (Bool):=.i (Int.ofNat s1.length != Int.ofNat s2.length) (.k false) (.bn (zxj (s1.length+s2.length+(Int.ofNat s1.length).toNat +Int.toNat 0+1) s1 s2 (Int.ofNat s1.length) 0) fun r0=>.i (isL r0) (.k (getL r0)) (.k true))
def ziG (s1:yF) (s2:yF):Bool×Bool:=(zyc s1 s2).fin default
def zyb:AL base (yF×yF×Unit):=zd (ze (vSl 49)) (zd (ze (vSl 49)) aNil)
def zk1:Ab.Spec ty:=zh zyb fun x=>((ziG x.1 x.2.1).1,zY8 (ziG x.1 x.2.1).2)
theorem zvX:SdP 209 zk1:=
 sW (cx':=zlX) zq zi zk (zj trivial) Tryz.call209 Tryz.func209 (c:=body Tryz.f209) (lOK (aC zw4 aN))
def zQM:Cx ty:=mkCx base 8 [(209,zk1)] [] [] [] [] []
def zSW (a:yF) (b:yF):Wy0 (Bool):=.bn (ziG a b) fun r0=>.k r0
def zuL (a:yF) (b:yF):Bool×Bool:=(zSW a b).fin default
def ztz:Ab.Spec ty:=zh zyb fun x=>((zuL x.1 x.2.1).1,zY8 (zuL x.1 x.2.1).2)
theorem zzx:SdP 208 ztz:=
 sW (cx':=zQM) zq zi zk (zj ⟨zvX,trivial⟩) Tryz.call208 Tryz.func208 (c:=body Tryz.f208) (lOK aN)
def zVb:Cx ty:=mkCx base 17 [(120,zkt),(121,zkr)] [] [] [] [] []
def zWr (a:RowID) (b:RowID):Wy0 (Int):=.bn (zdG a.Table b.Table) fun r2=>.bn (zdG a.Seq b.Seq) fun r1=>.bn (zlG [r2,r1]) fun r0=>.k r0
def zls (a:RowID) (b:RowID):Bool×Int:=(zWr a b).fin default
def zlc:Ab.Spec ty:=zh zSA fun x=>((zls x.1 x.2.1).1,zVk (zls x.1 x.2.1).2)
theorem zn4:SdP 233 zlc:=
 sW (cx':=zVb) zq zi zk (zj ⟨zlo,zmC,trivial⟩) Tryz.call233 Tryz.func233 (c:=body Tryz.f233) (lOK aN)
def zeo:Cx ty:={ base with nt:=8 }
def ze7 (s:yF):Bool×yF:=(decide (s.length*16≤zbk),s)
def zf3:Ab.Spec ty:=zh (cx:=base) (zd (ze (vSl 49)) aNil) fun x=>((ze7 x.1).1,⟨[.own 49 (ze7 x.1).2],[]⟩)
theorem zwY:zf6 zeo Tryz.f212 (body Tryz.f212) ⟨[.own 49],[]⟩ [.pure (.lit (.slice none 0 0))]=some ⟨[.own 49 []],[]⟩:=by kernel_rfl
theorem zvw (p:Addr) (c:Nat):zf6 zeo Tryz.f212 (body Tryz.f212) ⟨[.own 49],[]⟩ [.pure (.lit (.slice (some p) 0 c))]=some ⟨[.own 49 []],[]⟩:=by kernel_rfl
theorem zwu (l:yF):zf6 zeo Tryz.f212 (body Tryz.f212) ⟨[.own 49],[]⟩ [.pure (.sl 49 l)]=bif !l.isEmpty then bif decide ((([]:List (ty 49)).length+l.length)*16≤zbk) then some ⟨[.own 49 l],[]⟩ else none else none:=by kernel_rfl
theorem zkK:SdP 212 zf3:=
 zDD (cx':=zeo) (bytes:=16) zq zi ⟨⟨rfl,rfl,rfl,rfl,rfl,rfl⟩,rfl⟩ (fun g s h=>by cases h) Tryz.call212 Tryz.func212 (c:=body Tryz.f212) (by kernel_rfl) (zyf (l:=[]) (by kernel_rfl) trivial) zwY zvw zwu (by kernel_rfl)
abbrev zdO:=Unit×Int×(Nat×Nat)×Int×Unit
abbrev zbz:=yF×Unit
abbrev zeL:=Int×yF
abbrev zeM:=Unit×Int×Unit
abbrev zeP:=(Nat×yF)⊕yF
def zwg (k:Int) (s2_0:Nat) (s2_1:Nat) (k2:Int) (s:yF):Wy zdO zbz zeL:=.i (decide (k2<Int.ofNat s2_1)) (.i (decide (0≤k2)&&decide (k2<Int.ofNat s2_1)) (.i (decide (0≤IntKind.i64.wrap (k2 - 1))&&decide (IntKind.i64.wrap (k2 - 1)<Int.ofNat s2_1)) (.i (!((s.getD (s2_0+k2.toNat) default).Table==(s.getD (s2_0+(IntKind.i64.wrap (k2 - 1)).toNat) default).Table&&((s.getD (s2_0+k2.toNat) default).Seq==(s.getD (s2_0+(IntKind.i64.wrap (k2 - 1)).toNat) default).Seq&&true))) (.i (decide (0≤k2)&&decide (k2<Int.ofNat s2_1)) (.i (decide (0≤k)&&decide (k<Int.ofNat s.length)) (.i (decide (k.toNat<s.length)) (.h ((),(IntKind.i64.wrap (k+1)),(s2_0,s2_1),(IntKind.i64.wrap (k2+1)),()) ((s.set k.toNat (s.getD (s2_0+k2.toNat) default)),())) .d) .d) .d) (.h ((),k,(s2_0,s2_1),(IntKind.i64.wrap (k2+1)),()) (s,()))) .d) .d) (.k (k,s))
def zk7 (x:zdO) (y:zbz):Wy zdO zbz zeL:=zwg x.2.1 x.2.2.1.1 x.2.2.1.2 x.2.2.2.1 y.1
def zww (n:Nat) (k:Int) (s2_0:Nat) (s2_1:Nat) (k2:Int) (s:yF):Bool×zeL:=zJ (zk7) default n ((),k,(s2_0,s2_1),k2,()) (s,())
def zvI (r:zeL):LTree ty:=.done (.exit 2) [.own 244,.lit (.int .i64 r.1)] [.arr 49 r.2 false]
def zwj:LL ty zdO:=za (lOwn 244) (za lI64 (za (lSub 244) (za lI64 zn)))
def zwh:BL ty zbz:=bArr 49 false (bNil)
def zwr (k:Int) (s:yF):Wy zeM zbz zeP:=.i (decide (k<Int.ofNat s.length)) (.i (decide (0≤k)&&decide (k<Int.ofNat s.length)) (.i (decide (0≤IntKind.i64.wrap (k - 1))&&decide (IntKind.i64.wrap (k - 1)<Int.ofNat s.length)) (.i ((s.getD k.toNat default).Table==(s.getD (IntKind.i64.wrap (k - 1)).toNat default).Table&&((s.getD k.toNat default).Seq==(s.getD (IntKind.i64.wrap (k - 1)).toNat default).Seq&&true)) (.i (decide (0≤k)&&decide (k≤Int.ofNat s.length)&&decide (Int.ofNat s.length≤Int.ofNat s.length)) (.bn (zww (k.toNat +k.toNat +((Int.ofNat s.length).toNat - k.toNat)+Int.toNat 1+s.length+1) k k.toNat ((Int.ofNat s.length).toNat - k.toNat) 1 s) fun r0=>.i (decide (0≤r0.1)&&decide (r0.1≤Int.ofNat r0.2.length)&&decide (Int.ofNat r0.2.length≤Int.ofNat r0.2.length)) (.i (decide (r0.1.toNat +((Int.ofNat r0.2.length).toNat - r0.1.toNat)≤r0.2.length)) (.i (decide ((0:Int)≤(0:Int))&&decide (0≤r0.1)&&decide (r0.1≤Int.ofNat (List.take r0.1.toNat r0.2++List.replicate ((Int.ofNat r0.2.length).toNat - r0.1.toNat) (RowID.mk 0 0)++List.drop (r0.1.toNat +((Int.ofNat r0.2.length).toNat - r0.1.toNat)) r0.2).length)) (.k (.inl (r0.1.toNat - Int.toNat 0,List.take r0.1.toNat r0.2++List.replicate ((Int.ofNat r0.2.length).toNat - r0.1.toNat) (RowID.mk 0 0)++List.drop (r0.1.toNat +((Int.ofNat r0.2.length).toNat - r0.1.toNat)) r0.2))) .d) .d) .d) .d) (.h ((),(IntKind.i64.wrap (k+1)),()) (s,()))) .d) .d) (.k (.inr s))
def zld (x:zeM) (y:zbz):Wy zeM zbz zeP:=zwr x.2.1 y.1
def zwv (n:Nat) (k:Int) (s:yF):Bool×zeP:=zJ (zld) (.inl default) n ((),k,()) (s,())
def zvm (r:zeP):LTree ty:=.ite (isL r) (.done .ret [.sub 244 0 ((getL r).1)] [.arr 49 ((getL r).2) false]) (.done (.exit 0) [.own 244] [.arr 49 (getR r) false])
def zwm:LL ty zeM:=za (lOwn 244) (za lI64 zn)
def zvu (x:zdO) (y:zbz):Nat:=(Int.toNat x.2.1+x.2.2.1.1+x.2.2.1.2+Int.toNat x.2.2.2.1+y.1.length+1)
def zfZ:Cx ty:=mkCx base 61 [] [] [(4,(kpL [0,3])),(9,(kpL [0,3,4,5]))] [(4,1,(kpL [0])),(4,0,(kpL [2])),(9,3,(kpL [0,3]))] [(9,spW zwj zwh (zk7) default zvI zvu),(4,spW zwm zwh (zld) (.inl default) zvm fun x y=>(Int.toNat x.2.1+y.1.length+1))] []
theorem zvQ:zI zfZ (lp (body Tryz.f234) 1):=zt (id:=9) (hl:=rfl)
theorem zv5:zI zfZ (lp (body Tryz.f234) 0):=zt (id:=4) (hl:=rfl)
def zw6 (s:yF):Wy0 (yF):=.i (decide (Int.ofNat s.length<2)) (.k s) (.bn (zwv (Int.toNat 1+s.length+1) 1 s) fun r2=>.i (isL r2) (.k (List.take (getL r2).1 (getL r2).2)) (.k (getR r2)))
def zhs (s:yF):Bool×yF:=(zw6 s).fin default
def zvz (r:yF):ARes ty:=⟨[.own 49 r],[none]⟩
def zwZ:AL base zbz:=zd (aOwn 49) aNil
def zkd:Ab.Spec ty:=zh zwZ fun x=>((zhs x.1).1,zvz (zhs x.1).2)
theorem zuc:SdP 234 zkd:=
 sW (cx':=zfZ) zq zi zk (zj trivial) Tryz.call234 Tryz.func234 (c:=body Tryz.f234) (lOK (aC zv5 (aC zvQ aN))) (sg:=⟨[.own 49],[false]⟩)
def zg3 (x:yF):Bool×yF:=zz6 (fun a b=>zls a b) x
def slices_SortFunc_Lapi_RowID_api_RowID_spec:Ab.Spec ty:=zh (cx:=base) (zd (aOwn 49) (zd (ze (vFn 233 (vNil))) aNil)) fun x=>((zg3 x.1).1,⟨[],[some ⟨49,(zg3 x.1).2⟩]⟩)
theorem zvg (c:Unit) (x y:RowID) (h:(zls x y).1=true):zlc ((AV.agg (base.enc 49 x)::AV.agg (base.enc 49 y)::(vNil:VL base (Unit)).enc c).map Arg.pure)=some (true,⟨[.pure (.lit (.int .i64 (zls x y).2))],[]⟩):=by
 rw [← h]; kernel_rfl
theorem ztx:SdP 232 slices_SortFunc_Lapi_RowID_api_RowID_spec:=by
 letI:DecidableEq (ty 49):=inferInstanceAs (DecidableEq RowID)
 exact z3S (T:=49) zi rfl Go.Proofs.Tryz.sortRow Tryz.isAgg49 (by unfold szOf; exact Tryz.sizeOf49) Tryz.call232 zn4 (vNil) (fun c=>fun a b=>zls a b) zvg
def zQP:Cx ty:=mkCx base 10 [(212,zf3),(232,slices_SortFunc_Lapi_RowID_api_RowID_spec),(233,zlc),(234,zkd)] [(232,[true,false]),(234,[true])] [] [] [] []
def zRs (l:yF):Wy0 (yF):=.bn (ze7 l) fun r2=>.bn (zg3 r2) fun r1=>.bn (zhs r1) fun r0=>.k r0
def zpx (l:yF):Bool×yF:=(zRs l).fin default
def zN3 (r:yF):ARes ty:=⟨[.own 49 r],[]⟩
def zTb:AL base (yF×Unit):=zd (ze (vSl 49)) aNil
def zmH:Ab.Spec ty:=zh zTb fun x=>((zpx x.1).1,zN3 (zpx x.1).2)
theorem zst:SdP 204 zmH:=
 sW (cx':=zQP) zq zi zk (zj ⟨zkK,ztx,zn4,zuc,trivial⟩) Tryz.call204 Tryz.func204 (c:=body Tryz.f204) (lOK aN) (sg:=⟨[.own 49],[]⟩)
abbrev zbO:=yF×yF×Unit×yF×Int×Int×Unit
abbrev zcd:=Int⊕(yF×yF)
def zjq (s1:yF) (s2:yF) (t11:yF) (t12:Int) (t13:Int):Wy zbO (Unit) zcd:=.i (decide (t13<t12)) (.i (decide (0≤t13)&&decide (t13<Int.ofNat t11.length)) (.i (decide (t13≥Int.ofNat s2.length)) (.k (.inl 1)) (.i (decide (0≤t13)&&decide (t13<Int.ofNat s2.length)) (.bn (zls (t11.getD t13.toNat default) (s2.getD t13.toNat default)) fun r0=>.i (r0 != 0) (.k (.inl (r0))) (.h (s1,s2,(),t11,t12,(IntKind.i64.wrap (t13+1)),()) ())) .d)) .d) (.k (.inr (s1,s2)))
def zd8 (x:zbO) (y:Unit):Wy zbO (Unit) zcd:=zjq x.1 x.2.1 x.2.2.2.1 x.2.2.2.2.1 x.2.2.2.2.2.1
def zju (n:Nat) (s1:yF) (s2:yF) (t11:yF) (t12:Int) (t13:Int):Bool×zcd:=zJ (zd8) (.inl default) n (s1,s2,(),t11,t12,t13,()) ()
def zi5 (r:zcd):LTree ty:=.ite (isL r) (.done .ret [.lit (.int .i64 (getL r))] []) (.done (.exit 0) [.sl 49 (getR r).1,.sl 49 (getR r).2] [])
def zji:LL ty zbO:=za (lSl 49) (za (lSl 49) (za (lFn 233 (zn)) (za (lSl 49) (za lI64 (za lI64 zn)))))
def zi4 (x:zbO) (y:Unit):Nat:=(x.1.length+x.2.1.length+x.2.2.2.1.length+Int.toNat x.2.2.2.2.1+Int.toNat x.2.2.2.2.2.1+1)
def zea:Cx ty:=mkCx base 39 [(233,zlc)] [] [(2,(kpL [0,1,2,11,12,13]))] [(2,1,(kpL [0,1])),(2,0,(kpL [6]))] [(2,spW zji zSV (zd8) (.inl default) zi5 zi4)] []
theorem zi2:zI zea (lp (body Tryz.f236) 0):=zt (id:=2) (hl:=rfl)
def zjO (s1:yF) (s2:yF):Wy0 (Int):=.bn (zju (s1.length+s2.length+s1.length+(Int.ofNat s1.length).toNat +Int.toNat 0+1) s1 s2 s1 (Int.ofNat s1.length) 0) fun r2=>.i (isL r2) (.k (getL r2)) (.i (decide (Int.ofNat (getR r2).1.length<Int.ofNat (getR r2).2.length)) (.k (-1:Int)) (.k 0))
def zcX (s1:yF) (s2:yF):Bool×Int:=(zjO s1 s2).fin default
def zjN:AL base (yF×yF×Unit×Unit):=zd (ze (vSl 49)) (zd (ze (vSl 49)) (zd (ze (vFn 233 vNil)) aNil))
def zd0:Ab.Spec ty:=zh zjN fun x=>((zcX x.1 x.2.1).1,zVk (zcX x.1 x.2.1).2)
theorem ziA:SdP 236 zd0:=
 sW (cx':=zea) zq zi zk (zj ⟨zn4,trivial⟩) Tryz.call236 Tryz.func236 (c:=body Tryz.f236) (lOK (aC zi2 aN))
def zMP:Cx ty:=mkCx base 8 [(233,zlc),(236,zd0)] [] [] [] [] []
def zOV (a:yF) (b:yF):Wy0 (Int):=.bn (zcX a b) fun r0=>.k r0
def zjf (a:yF) (b:yF):Bool×Int:=(zOV a b).fin default
def zqQ:Ab.Spec ty:=zh zyb fun x=>((zjf x.1 x.2.1).1,zVk (zjf x.1 x.2.1).2)
theorem zxk:SdP 206 zqQ:=
 sW (cx':=zMP) zq zi zk (zj ⟨zn4,ziA,trivial⟩) Tryz.call206 Tryz.func206 (c:=body Tryz.f206) (lOK aN)
abbrev zcV:=Unit×Unit×Int×(Nat×Nat)×Int×Unit
abbrev zbp:=yB×Unit
abbrev zdR:=Int×yB
abbrev zdQ:=Unit×Unit×Int×Unit
abbrev zdS:=(Nat×yB)⊕yB
def zsH (k:Int) (s2_0:Nat) (s2_1:Nat) (k2:Int) (s:yB):Wy zcV zbp zdR:=.i (decide (k2<Int.ofNat s2_1)) (.i (decide (0≤k2)&&decide (k2<Int.ofNat s2_1)) (.i (decide (0≤IntKind.i64.wrap (k2 - 1))&&decide (IntKind.i64.wrap (k2 - 1)<Int.ofNat s2_1)) (.bn (zuL (s.getD (s2_0+k2.toNat) default) (s.getD (s2_0+(IntKind.i64.wrap (k2 - 1)).toNat) default)) fun r0=>.i (!r0) (.i (decide (0≤k2)&&decide (k2<Int.ofNat s2_1)) (.i (decide (0≤k)&&decide (k<Int.ofNat s.length)) (.i (decide (k.toNat<s.length)) (.h ((),(),(IntKind.i64.wrap (k+1)),(s2_0,s2_1),(IntKind.i64.wrap (k2+1)),()) ((s.set k.toNat (s.getD (s2_0+k2.toNat) default)),())) .d) .d) .d) (.h ((),(),k,(s2_0,s2_1),(IntKind.i64.wrap (k2+1)),()) (s,()))) .d) .d) (.k (k,s))
def ziQ (x:zcV) (y:zbp):Wy zcV zbp zdR:=zsH x.2.2.1 x.2.2.2.1.1 x.2.2.2.1.2 x.2.2.2.2.1 y.1
def zsB (n:Nat) (k:Int) (s2_0:Nat) (s2_1:Nat) (k2:Int) (s:yB):Bool×zdR:=zJ (ziQ) default n ((),(),k,(s2_0,s2_1),k2,()) (s,())
def zsa (r:zdR):LTree ty:=.done (.exit 2) [.own 264,.lit (.int .i64 r.1)] [.arr 43 r.2 false]
def zsI:LL ty zcV:=za (lOwn 264) (za (lFn 208 (zn)) (za lI64 (za (lSub 264) (za lI64 zn))))
def zss:BL ty zbp:=bArr 43 false (bNil)
def zsD (k:Int) (s:yB):Wy zdQ zbp zdS:=.i (decide (k<Int.ofNat s.length)) (.i (decide (0≤k)&&decide (k<Int.ofNat s.length)) (.i (decide (0≤IntKind.i64.wrap (k - 1))&&decide (IntKind.i64.wrap (k - 1)<Int.ofNat s.length)) (.bn (zuL (s.getD k.toNat default) (s.getD (IntKind.i64.wrap (k - 1)).toNat default)) fun r3=>.i (r3) (.i (decide (0≤k)&&decide (k≤Int.ofNat s.length)&&decide (Int.ofNat s.length≤Int.ofNat s.length)) (.bn (zsB (k.toNat +k.toNat +((Int.ofNat s.length).toNat - k.toNat)+Int.toNat 1+s.length+1) k k.toNat ((Int.ofNat s.length).toNat - k.toNat) 1 s) fun r2=>.i (decide (0≤r2.1)&&decide (r2.1≤Int.ofNat r2.2.length)&&decide (Int.ofNat r2.2.length≤Int.ofNat r2.2.length)) (.i (decide (r2.1.toNat +((Int.ofNat r2.2.length).toNat - r2.1.toNat)≤r2.2.length)) (.i (decide ((0:Int)≤(0:Int))&&decide (0≤r2.1)&&decide (r2.1≤Int.ofNat (List.take r2.1.toNat r2.2++List.replicate ((Int.ofNat r2.2.length).toNat - r2.1.toNat) []++List.drop (r2.1.toNat +((Int.ofNat r2.2.length).toNat - r2.1.toNat)) r2.2).length)) (.k (.inl (r2.1.toNat - Int.toNat 0,List.take r2.1.toNat r2.2++List.replicate ((Int.ofNat r2.2.length).toNat - r2.1.toNat) []++List.drop (r2.1.toNat +((Int.ofNat r2.2.length).toNat - r2.1.toNat)) r2.2))) .d) .d) .d) .d) (.h ((),(),(IntKind.i64.wrap (k+1)),()) (s,()))) .d) .d) (.k (.inr s))
def ziP (x:zdQ) (y:zbp):Wy zdQ zbp zdS:=zsD x.2.2.1 y.1
def zsC (n:Nat) (k:Int) (s:yB):Bool×zdS:=zJ (ziP) (.inl default) n ((),(),k,()) (s,())
def zse (r:zdS):LTree ty:=.ite (isL r) (.done .ret [.sub 264 0 ((getL r).1)] [.arr 43 ((getL r).2) false]) (.done (.exit 0) [.own 264] [.arr 43 (getR r) false])
def zsy:LL ty zdQ:=za (lOwn 264) (za (lFn 208 (zn)) (za lI64 zn))
def zrw (x:zcV) (y:zbp):Nat:=(Int.toNat x.2.2.1+x.2.2.2.1.1+x.2.2.2.1.2+Int.toNat x.2.2.2.2.1+y.1.length+1)
def zeu:Cx ty:=mkCx base 66 [(208,ztz)] [] [(4,(kpL [0,1,5])),(9,(kpL [0,1,5,6,7]))] [(4,1,(kpL [0])),(4,0,(kpL [4])),(9,3,(kpL [0,5]))] [(9,spW zsI zss (ziQ) default zsa zrw),(4,spW zsy zss (ziP) (.inl default) zse fun x y=>(Int.toNat x.2.2.1+y.1.length+1))] []
theorem zrs:zI zeu (lp (body Tryz.f207) 1):=zt (id:=9) (hl:=rfl)
theorem zr4:zI zeu (lp (body Tryz.f207) 0):=zt (id:=4) (hl:=rfl)
def zsS (s:yB):Wy0 (yB):=.i (decide (Int.ofNat s.length<2)) (.k s) (.bn (zsC (Int.toNat 1+s.length+1) 1 s) fun r6=>.i (isL r6) (.k (List.take (getL r6).1 (getL r6).2)) (.k (getR r6)))
def zfb (s:yB):Bool×yB:=(zsS s).fin default
def zrG (r:yB):ARes ty:=⟨[.own 43 r],[none]⟩
def zsU:AL base (yB×Unit×Unit):=zd (aOwn 43) (zd (ze (vFn 208 vNil)) aNil)
def zhN:Ab.Spec ty:=zh zsU fun x=>((zfb x.1).1,zrG (zfb x.1).2)
theorem zqp:SdP 207 zhN:=
 sW (cx':=zeu) zq zi zk (zj ⟨zzx,trivial⟩) Tryz.call207 Tryz.func207 (c:=body Tryz.f207) (lOK (aC zr4 (aC zrs aN))) (sg:=⟨[.own 43],[false]⟩)
def zf1 (x:yB):Bool×yB:=zz6 (fun a b=>zjf a b) x
def slices_SortFunc_LLapi_RowID_Lapi_RowID_spec:Ab.Spec ty:=zh (cx:=base) (zd (aOwn 43) (zd (ze (vFn 206 (vNil))) aNil)) fun x=>((zf1 x.1).1,⟨[],[some ⟨43,(zf1 x.1).2⟩]⟩)
theorem ztn (c:Unit) (x y:(yF)) (h:(zjf x y).1=true):zqQ (((.sl 49 x:AV ty)::(.sl 49 y:AV ty)::(vNil:VL base (Unit)).enc c).map Arg.pure)=some (true,⟨[.pure (.lit (.int .i64 (zjf x y).2))],[]⟩):=by
 rw [← h]; kernel_rfl
theorem zsg:SdP 205 slices_SortFunc_LLapi_RowID_Lapi_RowID_spec:=by
 letI:DecidableEq (ty 43):=inferInstanceAs (DecidableEq (yF))
 exact z4v (T:=43) zi rfl Go.Proofs.Tryz.sortSet (fun x:(yF)=>(.sl 49 x:AV ty)) (fun _=>rfl) Tryz.call205 zxk (vNil) (fun c=>fun a b=>zjf a b) ztn
abbrev zpB:=Unit×yB×Int×Int×Unit
abbrev zll:=yB×Unit
abbrev zpf:=yB
def zWW (t6:yB) (t7:Int) (t8:Int) (out_:yB):Wy zpB zll zpf:=.i (decide (t8<t7)) (.i (decide (0≤t8)&&decide (t8<Int.ofNat t6.length)) (.bn (zpx (t6.getD t8.toNat default)) fun r0=>.i (decide ((out_.length+[r0].length)*24≤zbk)) (.h ((),t6,t7,(IntKind.i64.wrap (t8+1)),()) ((out_++[r0]),())) .d) .d) (.k out_)
def zHR (x:zpB) (y:zll):Wy zpB zll zpf:=zWW x.2.1 x.2.2.1 x.2.2.2.1 y.1
def zWF (n:Nat) (t6:yB) (t7:Int) (t8:Int) (out_:yB):Bool×yB:=zJ (zHR) default n ((),t6,t7,t8,()) (out_,())
def zUZ (r:zpf):LTree ty:=.done (.exit 0) [.own 88] [.arr 43 r false]
def zWJ:LL ty zpB:=za (lOwn 88) (za (lSl 43) (za lI64 (za lI64 zn)))
def zXx:BL ty zll:=bArr 43 false (bNil)
def zVc (x:zpB) (y:zll):Nat:=(x.2.1.length+Int.toNat x.2.2.1+Int.toNat x.2.2.2.1+y.1.length+1)
def zIL:Cx ty:=mkCx base 22 [(204,zmH),(205,slices_SortFunc_LLapi_RowID_Lapi_RowID_spec),(206,zqQ),(207,zhN),(208,ztz)] [(205,[true,false]),(207,[true,false])] [(3,[(3,.own 43),(6,.keep),(7,.keep),(8,.keep)])] [(3,1,(kpL [3]))] [(3,spW zWJ zXx (zHR) default zUZ zVc)] []
theorem zVp:zI zIL (lp (body Tryz.f170) 0):=zt (id:=3) (hl:=rfl)
def zX3 (l:yB):Wy0 zpf:=.bn (zWF (l.length+(Int.ofNat l.length).toNat +Int.toNat 0+0+1) l (Int.ofNat l.length) 0 []) fun r4=>.bn (zf1 r4) fun r3=>.bn (zfb r3) fun r2=>.k r2
def zzB (l:yB):Bool×yB:=(zX3 l).fin default
def zVL (r:zpf):ARes ty:=⟨[.own 43 r],[]⟩
def zY3:AL base zll:=zd (ze (vSl 43)) aNil
def zx5:Ab.Spec ty:=zh zY3 fun x=>((zzB x.1).1,zVL (zzB x.1).2)
theorem zCi:SdP 170 zx5:=
 sW (cx':=zIL) zq zi zk (zj ⟨zst,zsg,zxk,zqp,zzx,trivial⟩) Tryz.call170 Tryz.func170 (c:=body Tryz.f170) (lOK (aC zVp aN)) (sg:=⟨[.own 43],[]⟩)
abbrev zd1:=yF×Unit×Int×Int×Unit
def zxC (s:yF) (t7:Int) (t8:Int) (v:RowID):Wy zd1 (RowID×Unit) (Int⊕Unit):=.i (decide (t8<t7)) (.i (decide (0≤t8)&&decide (t8<Int.ofNat s.length)) (.i (v.Table==(s.getD t8.toNat default).Table&&(v.Seq==(s.getD t8.toNat default).Seq&&true)) (.k (.inl t8)) (.h (s,(),t7,(IntKind.i64.wrap (t8+1)),()) (v,()))) .d) (.k (.inr ()))
def zml (x:zd1) (y:RowID×Unit):Wy zd1 (RowID×Unit) (Int⊕Unit):=zxC x.1 x.2.2.1 x.2.2.2.1 y.1
def zxe (n:Nat) (s:yF) (t7:Int) (t8:Int) (v:RowID):Bool×(Int⊕Unit):=zJ (zml) (.inl default) n (s,(),t7,t8,()) (v,())
def zx3:LL ty zd1:=za (lSl 49) (za (zdC 76 0) (za lI64 (za lI64 zn)))
def zxg:BL ty (RowID×Unit):=bBox (zd6 (fun x=>(⟨x.1,x.2.1⟩:RowID)) (fun x=>(x.Table,x.Seq,())) (fun _=>rfl) (za (lInt .i64) (za (lInt .i64) zn))) false (bNil)
def zw8 (x:zd1) (y:RowID×Unit):Nat:=(x.1.length+Int.toNat x.2.2.1+Int.toNat x.2.2.2.1+1)
def zmk:Cx ty:=mkCx base 19 [] [] [(2,(kpL [0,3,7,8]))] [(2,1,[]),(2,0,(kpL [4]))] [(2,spW zx3 zxg (zml) (.inl default) zq1 zw8)] []
theorem zwW:zI zmk (lp (body Tryz.f261) 0):=zt (id:=2) (hl:=rfl)
def zx9 (s:yF) (v:RowID):Wy0 (Int):=.bn (zxe (s.length+(Int.ofNat s.length).toNat +Int.toNat 0+1) s (Int.ofNat s.length) 0 v) fun r0=>.i (isL r0) (.k (getL r0)) (.k (-1:Int))
def ziH (s:yF) (v:RowID):Bool×Int:=(zx9 s v).fin default
def zyd:AL base (yF×RowID×Unit):=zd (ze (vSl 49)) (zd (ze (vAgg 49)) aNil)
def zk5:Ab.Spec ty:=zh zyd fun x=>((ziH x.1 x.2.1).1,zVk (ziH x.1 x.2.1).2)
theorem zvN:SdP 261 zk5:=
 sW (cx':=zmk) zq zi zk (zj trivial) Tryz.call261 Tryz.func261 (c:=body Tryz.f261) (lOK (aC zwW aN))
def zv1:Cx ty:=mkCx base 9 [(261,zk5)] [] [] [] [] []
def zwk (s:yF) (v:RowID):Wy0 (Bool):=.bn (ziH s v) fun r0=>.k (decide (r0≥0))
def zgY (s:yF) (v:RowID):Bool×Bool:=(zwk s v).fin default
def zjS:Ab.Spec ty:=zh zyd fun x=>((zgY x.1 x.2.1).1,zY8 (zgY x.1 x.2.1).2)
theorem zta:SdP 239 zjS:=
 sW (cx':=zv1) zq zi zk (zj ⟨zvN,trivial⟩) Tryz.call239 Tryz.func239 (c:=body Tryz.f239) (lOK aN)
def zSK:Cx ty:=mkCx base 7 [(239,zjS)] [] [] [] [] []
def zUL (id:RowID) (p1:yF):Wy0 (Bool):=.bn (zgY p1 id) fun r0=>.k r0
def zwP (id:RowID) (p1:yF):Bool×Bool:=(zUL id p1).fin default
def zUB:AL base (RowID×(yF×Unit)×Unit):=zd (ze (vAgg 49)) (zd (ze (vBox (zdj (vSl 49) vNil))) aNil)
def zom:Ab.Spec ty:=zh zUB fun x=>((zwP x.1 x.2.1.1).1,zY8 (zwP x.1 x.2.1.1).2)
theorem ztu:SdP 238 zom:=
 sW (cx':=zSK) zq zi zk (zj ⟨zta,trivial⟩) Tryz.call238 Tryz.func238 (c:=body Tryz.f238) (lOK aN)
abbrev zdu:=yF×((yF×Unit)×Unit)×Int×Int×Unit
def zu3 (s:yF) (f:yF) (t7:Int) (t8:Int):Wy zdu (Unit) (Int⊕Unit):=.i (decide (t8<t7)) (.i (decide (0≤t8)&&decide (t8<Int.ofNat s.length)) (.bn (zwP (s.getD t8.toNat default) f) fun r0=>.i (r0) (.k (.inl t8)) (.h (s,((f,()),()),t7,(IntKind.i64.wrap (t8+1)),()) ())) .d) (.k (.inr ()))
def zj7 (x:zdu) (y:Unit):Wy zdu (Unit) (Int⊕Unit):=zu3 x.1 x.2.1.1.1 x.2.2.1 x.2.2.2.1
def zuH (n:Nat) (s:yF) (f:yF) (t7:Int) (t8:Int):Bool×(Int⊕Unit):=zJ (zj7) (.inl default) n (s,((f,()),()),t7,t8,()) ()
def zuG:LL ty zdu:=za (lSl 49) (za (lFn 238 (za (zlS (za (lSl 49) zn) 0) zn)) (za lI64 (za lI64 zn)))
def zua (x:zdu) (y:Unit):Nat:=(x.1.length+x.2.1.1.1.length+Int.toNat x.2.2.1+Int.toNat x.2.2.2.1+1)
def zj4:Cx ty:=mkCx base 19 [(238,zom)] [] [(2,(kpL [0,1,7,8]))] [(2,1,[]),(2,0,(kpL [4]))] [(2,spW zuG zSV (zj7) (.inl default) zq1 zua)] []
theorem zud:zI zj4 (lp (body Tryz.f260) 0):=zt (id:=2) (hl:=rfl)
def zvt (s:yF) (f:yF):Wy0 (Int):=.bn (zuH (s.length+f.length+(Int.ofNat s.length).toNat +Int.toNat 0+1) s f (Int.ofNat s.length) 0) fun r2=>.i (isL r2) (.k (getL r2)) (.k (-1:Int))
def zgl (s:yF) (f:yF):Bool×Int:=(zvt s f).fin default
def zv0:AL base (yF×((yF×Unit)×Unit)×Unit):=zd (ze (vSl 49)) (zd (ze (vFn 238 (zdj (vBox (zdj (vSl 49) vNil)) vNil))) aNil)
def zi9:Ab.Spec ty:=zh zv0 fun x=>((zgl x.1 x.2.1.1.1).1,zVk (zgl x.1 x.2.1.1.1).2)
theorem zsR:SdP 260 zi9:=
 sW (cx':=zj4) zq zi zk (zj ⟨ztu,trivial⟩) Tryz.call260 Tryz.func260 (c:=body Tryz.f260) (lOK (aC zud aN))
end Go.Proofs.YtljlfiomikifjaaGreatDoor
end
