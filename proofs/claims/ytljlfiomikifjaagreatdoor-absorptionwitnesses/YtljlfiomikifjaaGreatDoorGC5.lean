/- Texts of this claim, joined (the program, its functions in plain words, and what they compute). -/
import Derived.Test.YtljlfiomikifjaaGreatDoorGC4
set_option autoImplicit false
set_option linter.unusedVariables false
set_option linter.unusedSectionVars false
set_option linter.unusedSimpArgs false
set_option maxRecDepth 1000000
set_option maxHeartbeats 0
noncomputable section
namespace Go.Proofs.YtljlfiomikifjaaGreatDoor
open Go Go.Ab
open Go.Proofs.Tryz
abbrev zkg:=((yG×Unit)×Unit)×Unit×Unit×yA×Int×Int×Unit
abbrev zkc:=At×yA×Unit
abbrev zyb:=Int⊕(yG×At×yA)
abbrev zj6:=((yG×Unit)×Unit)×Unit×Unit×yE×Int×Int×Unit
abbrev zkh:=At×yE×Unit
abbrev zye:=Int⊕(At×yE)
def zGn (zQ:yC->yG->Bool×(yC×Int)) (to:yG) (t24:yA) (t25:Int) (t26:Int) (x_:At) (args:yA):Wy zkg zkc zyb:=.i (decide (t26<t25)) (.i (decide (0<=t26)&&decide (t26<Int.ofNat t24.length)) (.bn (zQ (t24.getD t26.toNat default) to) λr2=>.i (r2.2 != 0) (.k (.inl (r2.2))) (.i (decide ((args.length+[r2.1].length)*24<=z7)) (.h (((to,()),()),(),(),t24,t25,(IntKind.i64.wrap (t26+1)),()) (x_,(args++[r2.1]),())) .d)) .d) (.k (.inr (to,x_,args)))
def zvG (zQ:yC->yG->Bool×(yC×Int)) (x:zkg) (y:zkc):=zGn zQ x.1.1.1 x.2.2.2.1 x.2.2.2.2.1 x.2.2.2.2.2.1 y.1 y.2.1
def zGH (zQ:yC->yG->Bool×(yC×Int)) (n:Nat) (to:yG) (t24:yA) (t25:Int) (t26:Int) (x_:At) (args:yA):=zH (zvG zQ) (.inl default) n (((to,()),()),(),(),t24,t25,t26,()) (x_,args,())
def zFe (r:zyb):LTree ty:=.ite (isL r) (.done .ret [.lit (.slice none 0 0),.lit (.int .i64 (getL r))] []) (.done (.exit 0) [.fn 84 ([.bptr ([.sl 51 (getR r).1]) 0]),.ptr 432 0,.own 433] [.box (base.enc 67 (getR r).2.1) false,.arr 23 (getR r).2.2 false])
def zGI:LL ty zkg:=za (lFn 84 (za (zmY (za (lSl 51) zm) 0) zm)) (za (zfa 432 0) (za (zes 433) (za (lSl 23) (za zj (za zj zm)))))
def zHq:BL ty zkc:=ziw (zgt (λx=>(⟨x.1,⟨x.2.1,x.2.2.1⟩,x.2.2.2.1,x.2.2.2.2.1,x.2.2.2.2.2.1,x.2.2.2.2.2.2.1,⟨x.2.2.2.2.2.2.2.1,x.2.2.2.2.2.2.2.2.1,x.2.2.2.2.2.2.2.2.2.1⟩⟩:At)) (λx=>(x.Kind,x.Row.Table,x.Row.Seq,x.Ag,x.Func,x.Items,x.Op,x.Bd.Kind,x.Bd.Int,x.Bd.Text,())) (λ_=>rfl) (za (zO .i64) (za (zO .i64) (za (zO .i64) (za (lSl 23) (za (zO .i64) (za (lSl 100) (za (zO .i64) (za (zO .i64) (za (zO .i64) (za zp3 zm))))))))))) false (zew 23 false (zbg))
def zFj (zQ:yC->yG->Bool×(yC×Int)) (to:yG) (t74:yE) (t75:Int) (t76:Int) (x_:At) (items:yE):Wy zj6 zkh zye:=.i (decide (t76<t75)) (.i (decide (0<=t76)&&decide (t76<Int.ofNat t74.length)) (.bn (zQ (t74.getD t76.toNat default).Ann to) λr4=>.i (r4.2 != 0) (.k (.inl (r4.2))) (.i (decide ((items.length+[WO.mk (t74.getD t76.toNat default).Value r4.1].length)*56<=z7)) (.h (((to,()),()),(),(),t74,t75,(IntKind.i64.wrap (t76+1)),()) (x_,(items++[WO.mk (t74.getD t76.toNat default).Value r4.1]),())) .d)) .d) (.k (.inr (x_,items)))
def zuS (zQ:yC->yG->Bool×(yC×Int)) (x:zj6) (y:zkh):=zFj zQ x.1.1.1 x.2.2.2.1 x.2.2.2.2.1 x.2.2.2.2.2.1 y.1 y.2.1
def zFN (zQ:yC->yG->Bool×(yC×Int)) (n:Nat) (to:yG) (t74:yE) (t75:Int) (t76:Int) (x_:At) (items:yE):=zH (zuS zQ) (.inl default) n (((to,()),()),(),(),t74,t75,t76,()) (x_,items,())
def zEu (r:zye):LTree ty:=.ite (isL r) (.done .ret [.lit (.slice none 0 0),.lit (.int .i64 (getL r))] []) (.done (.exit 3) [.ptr 432 0,.own 433] [.box (base.enc 67 (getR r).1) false,.arr 100 (getR r).2 false])
def zFs:LL ty zj6:=za (lFn 84 (za (zmY (za (lSl 51) zm) 0) zm)) (za (zfa 432 0) (za (zes 433) (za (lSl 100) (za zj (za zj zm)))))
def zFk:BL ty zkh:=ziw (zgt (λx=>(⟨x.1,⟨x.2.1,x.2.2.1⟩,x.2.2.2.1,x.2.2.2.2.1,x.2.2.2.2.2.1,x.2.2.2.2.2.2.1,⟨x.2.2.2.2.2.2.2.1,x.2.2.2.2.2.2.2.2.1,x.2.2.2.2.2.2.2.2.2.1⟩⟩:At)) (λx=>(x.Kind,x.Row.Table,x.Row.Seq,x.Ag,x.Func,x.Items,x.Op,x.Bd.Kind,x.Bd.Int,x.Bd.Text,())) (λ_=>rfl) (za (zO .i64) (za (zO .i64) (za (zO .i64) (za (lSl 23) (za (zO .i64) (za (lSl 100) (za (zO .i64) (za (zO .i64) (za (zO .i64) (za zp3 zm))))))))))) false (zew 100 false (zbg))
def zFx (x:zkg) (y:zkc):Nat:=(x.1.1.1.length+x.2.2.2.1.length+Int.toNat x.2.2.2.2.1+Int.toNat x.2.2.2.2.2.1+y.1.Ag.length+y.1.Items.length+y.2.1.length+1)
def zEy (x:zj6) (y:zkh):Nat:=(x.1.1.1.length+x.2.2.2.1.length+Int.toNat x.2.2.2.2.1+Int.toNat x.2.2.2.2.2.1+y.1.Ag.length+y.1.Items.length+y.2.1.length+1)
def zmC (zQ:yC->yG->Bool×(yC×Int)):=zbZ zbU 108 [(83,(zkx zQ)),(84,zhu),(177,zCx),(178,zCk),(179,zBa),(180,zD7)] [] [(5,[(1,.keep),(2,.keep),(6,.own 23),(24,.keep),(25,.keep),(26,.keep)]),(21,[(1,.keep),(2,.keep),(11,.own 100),(74,.keep),(75,.keep),(76,.keep)])] [(5,1,(kpL [1,2,6])),(5,0,(kpL [4,5])),(21,4,(kpL [2,11])),(21,0,(kpL [4,5]))] [(5,spW zGI zHq (zvG zQ) (.inl default) zFe zFx),(21,spW zFs zFk (zuS zQ) (.inl default) zEu zEy)] []
theorem zFz (zQ:yC->yG->Bool×(yC×Int)):zD (zmC zQ) (lp (body f150) 0):=zq (id:=5) (hl:=rfl)
theorem zEG (zQ:yC->yG->Bool×(yC×Int)):zD (zmC zQ) (lp (body f150) 1):=zq (id:=21) (hl:=rfl)
def zH6 (zQ:yC->yG->Bool×(yC×Int)) (x_:At) (to:yG):Wy0 (yC×Int):=.i (x_.Kind==0) (.bn (zpX x_.Row to) λr6=>.k (r6,0)) (.bn (zGH zQ (to.length+x_.Ag.length+(Int.ofNat x_.Ag.length).toNat +Int.toNat 0+x_.Ag.length+x_.Items.length+0+1) to x_.Ag (Int.ofNat x_.Ag.length) 0 (At.mk x_.Kind x_.Row x_.Ag x_.Func x_.Items x_.Op x_.Bd) []) λr12=>.i (isL r12) (.k ([],getL r12)) (.i ((getR r12).2.1.Kind==1) (.i (decide ((0:Int)<=(0:Int))&&decide (0<Int.ofNat (getR r12).2.2.length)) (.i (decide ((0:Int)<=(1:Int))&&decide (1<Int.ofNat (getR r12).2.2.length)) (.bn (zB3 ((getR r12).2.2.getD (Int.toNat 0) default) ((getR r12).2.2.getD (Int.toNat 1) default)) λr7=>.k (r7.1,r7.2)) .d) .d) (.i ((getR r12).2.1.Kind==2) (.i (decide ((0:Int)<=(0:Int))&&decide (0<Int.ofNat (getR r12).2.2.length)) (.bn (zBO ((getR r12).2.2.getD (Int.toNat 0) default)) λr8=>.k (r8.1,r8.2)) .d) (.i ((getR r12).2.1.Kind==3) (.i (decide ((0:Int)<=(0:Int))&&decide (0<Int.ofNat (getR r12).2.2.length)) (.bn (zA1 ((getR r12).2.2.getD (Int.toNat 0) default)) λr9=>.k (r9.1,r9.2)) .d) (.bn (zFN zQ ((getR r12).1.length+(getR r12).2.1.Items.length+(Int.ofNat (getR r12).2.1.Items.length).toNat +Int.toNat 0+(getR r12).2.1.Ag.length+(getR r12).2.1.Items.length+0+1) (getR r12).1 (getR r12).2.1.Items (Int.ofNat (getR r12).2.1.Items.length) 0 (At.mk (getR r12).2.1.Kind (getR r12).2.1.Row (getR r12).2.1.Ag (getR r12).2.1.Func (getR r12).2.1.Items (getR r12).2.1.Op (getR r12).2.1.Bd) []) λr11=>.i (isL r11) (.k ([],getL r11)) (.bn (zDA (getR r11).1.Func (getR r11).2 (getR r11).1.Op (getR r11).1.Bd) λr10=>.k (r10.1,r10.2)))))))
def zzt (zQ:yC->yG->Bool×(yC×Int)) (x_:At) (to:yG):=(zH6 zQ x_ to).fin default
theorem zC5 (zQ:yC->yG->Bool×(yC×Int)) (zPw:Sound Tryz.prog zbU 83 (zkx zQ)):Sound Tryz.prog zbU 150 (zk5 (zzt zQ)):=
 sU (cx':=(zmC zQ)) (zi ⟨zPw,zk6.nodr,zOm.nodr,zPd.nodr,zNb.nodr,zQg.nodr,trivial⟩) call150 func150 (lOK (aC (zFz zQ) (aC (zEG zQ) aN))) (sg:=⟨[.own 28,.pure],[]⟩)
def zGg:Nat->(yC->yG->Bool×(yC×Int))×(At->yG->Bool×(yC×Int))
 | 0=>(λ_ _=>(false,default),λ_ _=>(false,default))
 | n+1=>(zC6 ((zGg n).2),zzt ((zGg n).1))
def zDU (n:Nat):yC->yG->Bool×(yC×Int):=(zGg n).1
def zLo (n:Nat):At->yG->Bool×(yC×Int):=(zGg n).2
theorem zT7:∀ n,Sound Tryz.prog zbU 83 (zkx (zDU n))/\Sound Tryz.prog zbU 150 (zk5 (zLo n))
 | 0=>⟨zba call83 (λ_=>rfl),zba call150 (λ_=>rfl)⟩
 | n+1=>by
  have ih:=zT7 n;exact ⟨zIn _ (ih.2),zC5 _ (ih.1)⟩
def zHj:yC->yG->Bool×(yC×Int):=zDU 1000
def zAp:Ab.Spec ty:=zkx zHj
theorem zMd:Sound Tryz.prog zbU 83 zAp:=(zT7 1000).1
def zGR:=zbq base 7 [(20,zcs)]
def zHN (b:Bg):Wy0 (Bool):=.bn (zb7 b.To) λr0=>.k (!r0)
def zp8 (b:Bg):=(zHN b).fin default
def zIs:AL base (Bg×Unit):=zd (ze (zcx 51)) zp
def zhs:=zh zIs λx=>((zp8 x.1).1,zVf (zp8 x.1).2)
theorem zkP:SdP 82 zhs:=
 sT (cx':=zGR) (zi ⟨zcC,trivial⟩) call82 func82 (lOK aN)
abbrev zdU:=yG×Unit×Int×Int×Unit
def zq1 (s:yG) (t7:Int) (t8:Int):Wy zdU Unit (Int⊕Unit):=.i (decide (t8<t7)) (.i (decide (0<=t8)&&decide (t8<Int.ofNat s.length)) (.bn (zp8 (s.getD t8.toNat default)) λr0=>.i (r0) (.k (.inl t8)) (.h (s,(),t7,(IntKind.i64.wrap (t8+1)),()) ())) .d) (.k (.inr ()))
def zib (x:zdU) (y:Unit):=zq1 x.1 x.2.2.1 x.2.2.2.1
def zqX (n:Nat) (s:yG) (t7:Int) (t8:Int):=zH (zib) (.inl default) n (s,(),t7,t8,()) ()
def zq7:LL ty zdU:=za (lSl 51) (za (lFn 82 (zm)) (za zj (za zj zm)))
def zpO (x:zdU) (y:Unit):Nat:=(x.1.length+Int.toNat x.2.2.1+Int.toNat x.2.2.2.1+1)
def zh7:=zbZ base 19 [(82,zhs)] [] [(2,(kpL [0,1,7,8]))] [(2,1,[]),(2,0,(kpL [4]))] [(2,spW zq7 z8a (zib) (.inl default) zrC zpO)] []
theorem zqh:zD zh7 (lp (body f85) 0):=zq (id:=2) (hl:=rfl)
def zrp (s:yG):Wy0 (Int):=.bn (zqX (s.length+(Int.ofNat s.length).toNat +Int.toNat 0+1) s (Int.ofNat s.length) 0) λr2=>.i (isL r2) (.k (getL r2)) (.k (-1:Int))
def zeX (s:yG):=(zrp s).fin default
def zr1:AL base (yG×Unit×Unit):=zd (ze (vSl 51)) (zd (ze (vFn 82 zbT)) zp)
def zhl:=zh zr1 λx=>((zeX x.1).1,zOF (zeX x.1).2)
theorem zoS:SdP 85 zhl:=
 sT (cx':=zh7) (zi ⟨zkP,trivial⟩) call85 func85 (lOK (aC zqh aN))
def zo4:=zbq base 9 [(82,zhs),(85,zhl)]
def zpF (s:yG):Wy0 (Bool):=.bn (zeX s) λr0=>.k (decide (r0≥0))
def zet (s:yG):=(zpF s).fin default
def zgl:=zh zr1 λx=>((zet x.1).1,zVf (zet x.1).2)
theorem zm7:SdP 81 zgl:=
 sT (cx':=zo4) (zi ⟨zkP,zoS,trivial⟩) call81 func81 (lOK aN)
def zKQ:=zbq zbU 18 [(20,zcs),(81,zgl),(82,zhs),(83,zAp),(84,zhu)]
def zM0 (a:yC) (l:yG):Wy0 (yC×Int):=.bn (zb7 a) λr2=>.i (!r2) (.k ([],1)) (.bn (zet l) λr1=>.i (r1) (.k ([],1)) (.bn (zHj a l) λr0=>.k (r0.1,r0.2)))
def zu5 (a:yC) (l:yG):=(zM0 a l).fin default
def zMU:AL zbU (yC×yG×Unit):=zd (ze (vSl 28)) (zd (ze (vSl 51)) zp)
def zwY:=zh zMU λx=>((zu5 x.1 x.2.1).1,zOT (zu5 x.1 x.2.1).2)
theorem zHy:Sound Tryz.prog zbU 29 zwY:=
 sU (cx':=zKQ) (zi ⟨zcC.nodr,zm7.nodr,zkP.nodr,zMd,zk6.nodr,trivial⟩) call29 func29 (lOK aN) (sg:=⟨[.own 28,.pure],[]⟩)
def zSf:=zbq zbU 11 [(29,zwY)]
def zU6 (a:yC):Wy0 (yC):=.bn (zu5 a []) λr0=>.k r0.1
def zAH (a:yC):=(zU6 a).fin default
def zA8:=zh zY8 λx=>((zAH x.1).1,zOR (zAH x.1).2)
theorem zMJ:Sound Tryz.prog zbU 68 zA8:=
 sU (cx':=zSf) (zi ⟨zHy,trivial⟩) call68 func68 (lOK aN) (sg:=⟨[.own 28],[]⟩)
def zJF:=zbq base 8 []
def zL3 (x_:At):Wy0 (yC):=.k [TO.mk 1 [FO.mk (At.mk x_.Kind x_.Row x_.Ag x_.Func x_.Items x_.Op x_.Bd) 1]]
def zmo (x_:At):=(zL3 x_).fin default
def zvS:=zh zBm λx=>((zmo x.1).1,zOR (zmo x.1).2)
theorem zFp:SdP 104 zvS:=
 sT (cx':=zJF) (zi trivial) call104 func104 (lOK aN) (sg:=⟨[.own 28],[]⟩)
def zO4:=zbq base 13 [(21,zny),(104,zvS)]
def zRh (x_:At) (y_:At):Wy0 (Bool):=.bn (zhL (zmo (At.mk x_.Kind x_.Row x_.Ag x_.Func x_.Items x_.Op x_.Bd)).2 (zmo (At.mk y_.Kind y_.Row y_.Ag y_.Func y_.Items y_.Op y_.Bd)).2) λr0=>.k r0
def zxS (x_:At) (y_:At):=(zRh x_ y_).fin default
def zzo:=zh zJS λx=>((zxS x.1 x.2.1).1,zVf (zxS x.1 x.2.1).2)
theorem zJZ:SdP 52 zzo:=
 sT (cx':=zO4) (zi ⟨ztp,zFp,trivial⟩) call52 func52 (lOK aN)
def zGo:=zbq base 16 [(52,zzo)]
def zHV (g:Fc) (p1:Fc):Wy0 (Bool):=.i (decide (p1.Exp<=g.Exp)) (.bn (zxS (At.mk p1.At.Kind p1.At.Row p1.At.Ag p1.At.Func p1.At.Items p1.At.Op p1.At.Bd) (At.mk g.At.Kind g.At.Row g.At.Ag g.At.Func g.At.Items g.At.Op g.At.Bd)) λr0=>.k r0) (.k false)
def zqc (g:Fc) (p1:Fc):=(zHV g p1).fin default
def zIg:AL base (Fc×Fc×Unit):=zd (ze (zcx 69)) (zd (ze (zx7 69)) zp)
def zhr:=zh zIg λx=>((zqc x.1 x.2.1).1,zVf (zqc x.1 x.2.1).2)
theorem zkM:SdP 51 zhr:=
 sT (cx':=zGo) (zi ⟨zJZ,trivial⟩) call51 func51 (lOK aN)
abbrev zec:=yD×(Fc×Unit)×Int×Int×Unit
def zs1 (s:yD) (f:Fc) (t7:Int) (t8:Int):Wy zec Unit (Int⊕Unit):=.i (decide (t8<t7)) (.i (decide (0<=t8)&&decide (t8<Int.ofNat s.length)) (.bn (zqc (FO.mk (At.mk (s.getD t8.toNat default).At.Kind (s.getD t8.toNat default).At.Row (s.getD t8.toNat default).At.Ag (s.getD t8.toNat default).At.Func (s.getD t8.toNat default).At.Items (s.getD t8.toNat default).At.Op (s.getD t8.toNat default).At.Bd) (s.getD t8.toNat default).Exp) (FO.mk (At.mk f.At.Kind f.At.Row f.At.Ag f.At.Func f.At.Items f.At.Op f.At.Bd) f.Exp)) λr0=>.i (r0) (.k (.inl t8)) (.h (s,(f,()),t7,(IntKind.i64.wrap (t8+1)),()) ())) .d) (.k (.inr ()))
def zjf (x:zec) (y:Unit):=zs1 x.1 x.2.1.1 x.2.2.1 x.2.2.2.1
def zsi (n:Nat) (s:yD) (f:Fc) (t7:Int) (t8:Int):=zH (zjf) (.inl default) n (s,(f,()),t7,t8,()) ()
def zsH:LL ty zec:=za (lSl 69) (za (lFn 51 (za (zmY (zgt (λx=>(⟨⟨x.1,⟨x.2.1,x.2.2.1⟩,x.2.2.2.1,x.2.2.2.2.1,x.2.2.2.2.2.1,x.2.2.2.2.2.2.1,⟨x.2.2.2.2.2.2.2.1,x.2.2.2.2.2.2.2.2.1,x.2.2.2.2.2.2.2.2.2.1⟩⟩,x.2.2.2.2.2.2.2.2.2.2.1⟩:Fc)) (λx=>(x.At.Kind,x.At.Row.Table,x.At.Row.Seq,x.At.Ag,x.At.Func,x.At.Items,x.At.Op,x.At.Bd.Kind,x.At.Bd.Int,x.At.Bd.Text,x.Exp,())) (λ_=>rfl) (za zj (za zj (za zj (za (lSl 23) (za zj (za (lSl 100) (za zj (za zj (za zj (za zp3 (za zj zm)))))))))))) 0) zm)) (za zj (za zj zm)))
def zrn (x:zec) (y:Unit):Nat:=(x.1.length+x.2.1.1.At.Ag.length+x.2.1.1.At.Items.length+Int.toNat x.2.2.1+Int.toNat x.2.2.2.1+1000)
def zi0:=zbZ base 19 [(51,zhr)] [] [(2,(kpL [0,1,7,8]))] [(2,1,[]),(2,0,(kpL [4]))] [(2,spW zsH z8a (zjf) (.inl default) zrC zrn)] []
theorem zrT:zD zi0 (lp (body f103) 0):=zq (id:=2) (hl:=rfl)
def ztC (s:yD) (f:Fc):Wy0 (Int):=.bn (zsi (s.length+f.At.Ag.length+f.At.Items.length+(Int.ofNat s.length).toNat +Int.toNat 0+1000) s (FO.mk (At.mk f.At.Kind f.At.Row f.At.Ag f.At.Func f.At.Items f.At.Op f.At.Bd) f.Exp) (Int.ofNat s.length) 0) λr2=>.i (isL r2) (.k (getL r2)) (.k (-1:Int))
def zfy (s:yD) (f:Fc):=(ztC s f).fin default
def ztg:AL base (yD×(Fc×Unit)×Unit):=zd (ze (vSl 69)) (zd (ze (vFn 51 (zdv (zx7 69) zbT))) zp)
def zh6:=zh ztg λx=>((zfy x.1 x.2.1.1).1,zOF (zfy x.1 x.2.1.1).2)
theorem zqq:SdP 103 zh6:=
 sT (cx':=zi0) (zi ⟨zkM,trivial⟩) call103 func103 (lOK (aC zrT aN))
def zqv:=zbq base 9 [(51,zhr),(103,zh6)]
def zq4 (s:yD) (f:Fc):Wy0 (Bool):=.bn (zfy s (FO.mk (At.mk f.At.Kind f.At.Row f.At.Ag f.At.Func f.At.Items f.At.Op f.At.Bd) f.Exp)) λr0=>.k (decide (r0≥0))
def zeM (s:yD) (f:Fc):=(zq4 s f).fin default
def zg3:=zh ztg λx=>((zeM x.1 x.2.1.1).1,zVf (zeM x.1 x.2.1.1).2)
theorem zom:SdP 49 zg3:=
 sT (cx':=zqv) (zi ⟨zkM,zqq,trivial⟩) call49 func49 (lOK aN)
def zKy:=zbq base 9 [(49,zg3),(51,zhr)]
def zMH (f:Fc) (p1:Term):Wy0 (Bool):=.bn (zeM p1.Fs (FO.mk (At.mk f.At.Kind f.At.Row f.At.Ag f.At.Func f.At.Items f.At.Op f.At.Bd) f.Exp)) λr0=>.k (!r0)
def zuU (f:Fc) (p1:Term):=(zMH f p1).fin default
def zMO:AL base (Fc×Term×Unit):=zd (ze (zcx 69)) (zd (ze (zx7 28)) zp)
def zjD:=zh zMO λx=>((zuU x.1 x.2.1).1,zVf (zuU x.1 x.2.1).2)
theorem zmT:SdP 50 zjD:=
 sT (cx':=zKy) (zi ⟨zom,zkM,trivial⟩) call50 func50 (lOK aN)
abbrev zek:=yD×(Term×Unit)×Int×Int×Unit
def ztO (s:yD) (f:Term) (t7:Int) (t8:Int):Wy zek Unit (Int⊕Unit):=.i (decide (t8<t7)) (.i (decide (0<=t8)&&decide (t8<Int.ofNat s.length)) (.bn (zuU (FO.mk (At.mk (s.getD t8.toNat default).At.Kind (s.getD t8.toNat default).At.Row (s.getD t8.toNat default).At.Ag (s.getD t8.toNat default).At.Func (s.getD t8.toNat default).At.Items (s.getD t8.toNat default).At.Op (s.getD t8.toNat default).At.Bd) (s.getD t8.toNat default).Exp) f) λr0=>.i (r0) (.k (.inl t8)) (.h (s,(f,()),t7,(IntKind.i64.wrap (t8+1)),()) ())) .d) (.k (.inr ()))
def zjo (x:zek) (y:Unit):=ztO x.1 x.2.1.1 x.2.2.1 x.2.2.2.1
def zti (n:Nat) (s:yD) (f:Term) (t7:Int) (t8:Int):=zH (zjo) (.inl default) n (s,(f,()),t7,t8,()) ()
def ztG:LL ty zek:=za (lSl 69) (za (lFn 50 (za (zmY (zgt (λx=>(⟨x.1,x.2.1⟩:Term)) (λx=>(x.Cf,x.Fs,())) (λ_=>rfl) (za zj (za (lSl 69) zm))) 0) zm)) (za zj (za zj zm)))
def zs2 (x:zek) (y:Unit):Nat:=(x.1.length+x.2.1.1.Fs.length+Int.toNat x.2.2.1+Int.toNat x.2.2.2.1+1000)
def zjr:=zbZ base 19 [(50,zjD)] [] [(2,(kpL [0,1,7,8]))] [(2,1,[]),(2,0,(kpL [4]))] [(2,spW ztG z8a (zjo) (.inl default) zrC zs2)] []
theorem zsp:zD zjr (lp (body f103) 0):=zq (id:=2) (hl:=rfl)
def ztZ (s:yD) (f:Term):Wy0 (Int):=.bn (zti (s.length+f.Fs.length+(Int.ofNat s.length).toNat +Int.toNat 0+1000) s f (Int.ofNat s.length) 0) λr2=>.i (isL r2) (.k (getL r2)) (.k (-1:Int))
def zfS (s:yD) (f:Term):=(ztZ s f).fin default
def zt2:AL base (yD×(Term×Unit)×Unit):=zd (ze (vSl 69)) (zd (ze (vFn 50 (zdv (zx7 28) zbT))) zp)
def ziB:=zh zt2 λx=>((zfS x.1 x.2.1.1).1,zOF (zfS x.1 x.2.1.1).2)
theorem zqK:SdP 103 ziB:=
 sT (cx':=zjr) (zi ⟨zmT,trivial⟩) call103 func103 (lOK (aC zsp aN))
def zqO:=zbq base 9 [(50,zjD),(103,ziB)]
def zrO (s:yD) (f:Term):Wy0 (Bool):=.bn (zfS s f) λr0=>.k (decide (r0≥0))
def zeY (s:yD) (f:Term):=(zrO s f).fin default
def zhq:=zh zt2 λx=>((zeY x.1 x.2.1.1).1,zVf (zeY x.1 x.2.1.1).2)
theorem zo0:SdP 49 zhq:=
 sT (cx':=zqO) (zi ⟨zmT,zqK,trivial⟩) call49 func49 (lOK aN)
def zRs:=zbq base 10 [(49,zhq),(50,zjD)]
def zRU (a:Term) (b:Term):Wy0 (Bool):=.bn (zeY a.Fs b) λr0=>.k (!r0)
def zjN (a:Term) (b:Term):=(zRU a b).fin default
def zlA:=zh zME λx=>((zjN x.1 x.2.1).1,zVf (zjN x.1 x.2.1).2)
theorem zqn:SdP 14 zlA:=
 sT (cx':=zRs) (zi ⟨zo0,zmT,trivial⟩) call14 func14 (lOK aN)
abbrev zns:=yC×Unit×Int×Unit×yC×Int×Int×yC×Int×Int×Unit
abbrev zng:=yC×Term×Unit
abbrev zCj:=(yC×yC×Int×Int×yC)⊕(yC×yC×Int×Int×yC×Term)
abbrev znw:=yC×Unit×yC×Int×Int×Unit
abbrev zjV:=yC×Unit
def zRr (a:yC) (i:Int) (t8:yC) (t9:Int) (t10:Int) (t15:yC) (t16:Int) (t17:Int) (out_:yC) (t:Term):Wy zns zng zCj:=.i (decide (t17<t16)) (.i (decide (0<=t17)&&decide (t17<Int.ofNat t15.length)) (.i (t17 != i) (.bn (zjN (t15.getD t17.toNat default) t) λr5=>.i (r5) (.bn (zjN t (t15.getD t17.toNat default)) λr4=>.i (!r4) (.k (.inl (a,t8,t9,t10,out_))) (.i (decide (t17<i)) (.k (.inl (a,t8,t9,t10,out_))) (.h (a,(),i,(),t8,t9,t10,t15,t16,(IntKind.i64.wrap (t17+1)),()) (out_,t,())))) (.h (a,(),i,(),t8,t9,t10,t15,t16,(IntKind.i64.wrap (t17+1)),()) (out_,t,()))) (.h (a,(),i,(),t8,t9,t10,t15,t16,(IntKind.i64.wrap (t17+1)),()) (out_,t,()))) .d) (.k (.inr (a,t8,t9,t10,out_,t)))
def zCl (x:zns) (y:zng):=zRr x.1 x.2.2.1 x.2.2.2.2.1 x.2.2.2.2.2.1 x.2.2.2.2.2.2.1 x.2.2.2.2.2.2.2.1 x.2.2.2.2.2.2.2.2.1 x.2.2.2.2.2.2.2.2.2.1 y.1 y.2.1
def zPG (n:Nat) (a:yC) (i:Int) (t8:yC) (t9:Int) (t10:Int) (t15:yC) (t16:Int) (t17:Int) (out_:yC) (t:Term):=zH (zCl) (.inl default) n (a,(),i,(),t8,t9,t10,t15,t16,t17,()) (out_,t,())
def zPc (r:zCj):LTree ty:=.ite (isL r) (.done (.exit 1) [.sl 28 ((getL r).1),.own 196,.sl 28 ((getL r).2.1),.lit (.int .i64 ((getL r).2.2.1)),.lit (.int .i64 ((getL r).2.2.2.1))] [.arr 28 ((getL r).2.2.2.2) false]) (.done (.exit 2) [.sl 28 (getR r).1,.own 196,.ptr 197 0,.sl 28 (getR r).2.1,.lit (.int .i64 (getR r).2.2.1),.lit (.int .i64 (getR r).2.2.2.1)] [.arr 28 (getR r).2.2.2.2.1 false,.box (base.enc 28 (getR r).2.2.2.2.2) false])
def zQG:LL ty zns:=za (lSl 28) (za (zes 196) (za zj (za (zfa 197 0) (za (lSl 28) (za zj (za zj (za (lSl 28) (za zj (za zj zm)))))))))
def zRu:BL ty zng:=zew 28 false (ziw (zgt (λx=>(⟨x.1,x.2.1⟩:Term)) (λx=>(x.Cf,x.Fs,())) (λ_=>rfl) (za (zO .i64) (za (lSl 69) zm))) false (zbg))
def zQV (a:yC) (t8:yC) (t9:Int) (t10:Int) (out_:yC):Wy znw zjV (yC):=.i (decide (t10<t9)) (.i (decide (0<=t10)&&decide (t10<Int.ofNat t8.length)) (.bn (zPG (a.length+t10.toNat +t8.length+t9.toNat +t10.toNat +a.length+(Int.ofNat a.length).toNat +Int.toNat 0+out_.length+(t8.getD t10.toNat default).Fs.length+1000) a t10 t8 t9 t10 a (Int.ofNat a.length) 0 out_ (t8.getD t10.toNat default)) λr8=>.i (isL r8) (.h (((getL r8).1),(),((getL r8).2.1),((getL r8).2.2.1),(IntKind.i64.wrap ((getL r8).2.2.2.1+1)),()) (((getL r8).2.2.2.2),())) (.i (decide (((getR r8).2.2.2.2.1.length+[TO.mk 1 (getR r8).2.2.2.2.2.Fs].length)*32<=z7)) (.h ((getR r8).1,(),(getR r8).2.1,(getR r8).2.2.1,(IntKind.i64.wrap ((getR r8).2.2.2.1+1)),()) (((getR r8).2.2.2.2.1++[TO.mk 1 (getR r8).2.2.2.2.2.Fs]),())) .d)) .d) (.k out_)
def zB9 (x:znw) (y:zjV):=zQV x.1 x.2.2.1 x.2.2.2.1 x.2.2.2.2.1 y.1
def zQ5 (n:Nat) (a:yC) (t8:yC) (t9:Int) (t10:Int) (out_:yC):=zH (zB9) default n (a,(),t8,t9,t10,()) (out_,())
def zOY (r:yC):LTree ty:=.done (.exit 0) [.own 196] [.arr 28 r false]
def zRf:LL ty znw:=za (lSl 28) (za (zes 196) (za (lSl 28) (za zj (za zj zm))))
def zRi:BL ty zjV:=zew 28 false (zbg)
def zO2 (x:zns) (y:zng):Nat:=(x.1.length+Int.toNat x.2.2.1+x.2.2.2.2.1.length+Int.toNat x.2.2.2.2.2.1+Int.toNat x.2.2.2.2.2.2.1+x.2.2.2.2.2.2.2.1.length+Int.toNat x.2.2.2.2.2.2.2.2.1+Int.toNat x.2.2.2.2.2.2.2.2.2.1+y.1.length+y.2.1.Fs.length+1000)
def zOE (x:znw) (y:zjV):Nat:=(x.1.length+x.2.2.1.length+Int.toNat x.2.2.2.1+Int.toNat x.2.2.2.2.1+y.1.length+1000)
def zuC:=zbZ base 49 [(14,zlA)] [] [(3,[(0,.keep),(3,.own 28),(8,.keep),(9,.keep),(10,.keep)]),(6,(kpL [0,3,4,5,8,9,10,15,16,17]))] [(3,1,(kpL [3])),(6,3,(kpL [0,3,5,8,9,10])),(6,2,(kpL [0,3,8,9,10]))] [(6,spW zQG zRu (zCl) (.inl default) zPc zO2),(3,spW zRf zRi (zB9) default zOY zOE)] []
theorem zOg:zD zuC (lp (body f69) 1):=zq (id:=6) (hl:=rfl)
theorem zOz:zD zuC (lp (body f69) 0):=zq (id:=3) (hl:=rfl)
def zSC (a:yC):Wy0 (yC):=.bn (zQ5 (a.length+a.length+(Int.ofNat a.length).toNat +Int.toNat 0+0+1000) a a (Int.ofNat a.length) 0 []) λr10=>.k r10
def zzl (a:yC):=(zSC a).fin default
def zTG:AL base zjV:=zd (ze (vSl 28)) zp
def zAj:=zh zTG λx=>((zzl x.1).1,zOR (zzl x.1).2)
theorem zL9:SdP 69 zAj:=
 sT (cx':=zuC) (zi ⟨zqn,trivial⟩) call69 func69 (lOK (aC zOz (aC zOg aN))) (sg:=⟨[.own 28],[]⟩)
def zR1:=zbq zbU 9 [(20,zcs),(68,zA8),(69,zAj)]
def zUg (a:yC):Wy0 (yC):=.bn (zb7 a) λr2=>.i (!r2) (.k []) (.bn (zzl a) λr1=>.bn (zAH r1) λr0=>.k r0)
def zAY (a:yC):=(zUg a).fin default
def zBi:=zh zY8 λx=>((zAY x.1).1,zOR (zAY x.1).2)
theorem zMC:Sound Tryz.prog zbU 22 zBi:=
 sU (cx':=zR1) (zi ⟨zcC.nodr,zMJ,zL9.nodr,trivial⟩) call22 func22 (lOK aN) (sg:=⟨[.own 28],[]⟩)
def zIc:=zbq base 7 [(14,zlA)]
def zJB (u:Term) (p1:Term):Wy0 (Bool):=.bn (zjN u p1) λr0=>.k r0
def zrv (u:Term) (p1:Term):=(zJB u p1).fin default
def zJJ:AL base (Term×Term×Unit):=zd (ze (zcx 28)) (zd (ze (zx7 28)) zp)
def zig:=zh zJJ λx=>((zrv x.1 x.2.1).1,zVf (zrv x.1 x.2.1).2)
theorem zlm:SdP 61 zig:=
 sT (cx':=zIc) (zi ⟨zqn,trivial⟩) call61 func61 (lOK aN)
abbrev zd1:=yC×(Term×Unit)×Int×Int×Unit
def zrt (s:yC) (f:Term) (t7:Int) (t8:Int):Wy zd1 Unit (Int⊕Unit):=.i (decide (t8<t7)) (.i (decide (0<=t8)&&decide (t8<Int.ofNat s.length)) (.bn (zrv (s.getD t8.toNat default) f) λr0=>.i (r0) (.k (.inl t8)) (.h (s,(f,()),t7,(IntKind.i64.wrap (t8+1)),()) ())) .d) (.k (.inr ()))
def ziJ (x:zd1) (y:Unit):=zrt x.1 x.2.1.1 x.2.2.1 x.2.2.2.1
def zrV (n:Nat) (s:yC) (f:Term) (t7:Int) (t8:Int):=zH (ziJ) (.inl default) n (s,(f,()),t7,t8,()) ()
def zrs:LL ty zd1:=za (lSl 28) (za (lFn 61 (za (zmY (zgt (λx=>(⟨x.1,x.2.1⟩:Term)) (λx=>(x.Cf,x.Fs,())) (λ_=>rfl) (za zj (za (lSl 69) zm))) 0) zm)) (za zj (za zj zm)))
def zrb (x:zd1) (y:Unit):Nat:=(x.1.length+x.2.1.1.Fs.length+Int.toNat x.2.2.1+Int.toNat x.2.2.2.1+1000)
def ziF:=zbZ base 19 [(61,zig)] [] [(2,(kpL [0,1,7,8]))] [(2,1,[]),(2,0,(kpL [4]))] [(2,spW zrs z8a (ziJ) (.inl default) zrC zrb)] []
theorem zrf:zD ziF (lp (body f113) 0):=zq (id:=2) (hl:=rfl)
def zsu (s:yC) (f:Term):Wy0 (Int):=.bn (zrV (s.length+f.Fs.length+(Int.ofNat s.length).toNat +Int.toNat 0+1000) s f (Int.ofNat s.length) 0) λr2=>.i (isL r2) (.k (getL r2)) (.k (-1:Int))
def zfh (s:yC) (f:Term):=(zsu s f).fin default
def zst:AL base (yC×(Term×Unit)×Unit):=zd (ze (vSl 28)) (zd (ze (vFn 61 (zdv (zx7 28) zbT))) zp)
def zhC:=zh zst λx=>((zfh x.1 x.2.1.1).1,zOF (zfh x.1 x.2.1.1).2)
theorem zpH:SdP 113 zhC:=
 sT (cx':=ziF) (zi ⟨zlm,trivial⟩) call113 func113 (lOK (aC zrf aN))
def zpj:=zbq base 9 [(61,zig),(113,zhC)]
def zqz (s:yC) (f:Term):Wy0 (Bool):=.bn (zfh s f) λr0=>.k (decide (r0≥0))
def zey (s:yC) (f:Term):=(zqz s f).fin default
def zgM:=zh zst λx=>((zey x.1 x.2.1.1).1,zVf (zey x.1 x.2.1.1).2)
theorem znQ:SdP 59 zgM:=
 sT (cx':=zpj) (zi ⟨zlm,zpH,trivial⟩) call59 func59 (lOK aN)
def zMT:=zbq base 8 [(59,zgM),(61,zig)]
def zPl (t:Term) (p1:yC):Wy0 (Bool):=.bn (zey p1 t) λr0=>.k (!r0)
def zwx (t:Term) (p1:yC):=(zPl t p1).fin default
def zOp:AL base (Term×(yC×Unit)×Unit):=zd (ze (zcx 28)) (zd (ze (ztA (zdv (vSl 28) zbT))) zp)
def zj7:=zh zOp λx=>((zwx x.1 x.2.1.1).1,zVf (zwx x.1 x.2.1.1).2)
theorem znH:SdP 60 zj7:=
 sT (cx':=zMT) (zi ⟨znQ,zlm,trivial⟩) call60 func60 (lOK aN)
abbrev zd7:=yC×((yC×Unit)×Unit)×Int×Int×Unit
def zsr (s:yC) (f:yC) (t7:Int) (t8:Int):Wy zd7 Unit (Int⊕Unit):=.i (decide (t8<t7)) (.i (decide (0<=t8)&&decide (t8<Int.ofNat s.length)) (.bn (zwx (s.getD t8.toNat default) f) λr0=>.i (r0) (.k (.inl t8)) (.h (s,((f,()),()),t7,(IntKind.i64.wrap (t8+1)),()) ())) .d) (.k (.inr ()))
def zje (x:zd7) (y:Unit):=zsr x.1 x.2.1.1.1 x.2.2.1 x.2.2.2.1
def zsv (n:Nat) (s:yC) (f:yC) (t7:Int) (t8:Int):=zH (zje) (.inl default) n (s,((f,()),()),t7,t8,()) ()
def zsA:LL ty zd7:=za (lSl 28) (za (lFn 60 (za (zmY (za (lSl 28) zm) 0) zm)) (za zj (za zj zm)))
def zrR (x:zd7) (y:Unit):Nat:=(x.1.length+x.2.1.1.1.length+Int.toNat x.2.2.1+Int.toNat x.2.2.2.1+1000)
def zi2:=zbZ base 19 [(60,zj7)] [] [(2,(kpL [0,1,7,8]))] [(2,1,[]),(2,0,(kpL [4]))] [(2,spW zsA z8a (zje) (.inl default) zrC zrR)] []
theorem zrH:zD zi2 (lp (body f113) 0):=zq (id:=2) (hl:=rfl)
def ztn (s:yC) (f:yC):Wy0 (Int):=.bn (zsv (s.length+f.length+(Int.ofNat s.length).toNat +Int.toNat 0+1000) s f (Int.ofNat s.length) 0) λr2=>.i (isL r2) (.k (getL r2)) (.k (-1:Int))
def zfB (s:yC) (f:yC):=(ztn s f).fin default
def ztt:AL base (yC×((yC×Unit)×Unit)×Unit):=zd (ze (vSl 28)) (zd (ze (vFn 60 (zdv (ztA (zdv (vSl 28) zbT)) zbT))) zp)
def zia:=zh ztt λx=>((zfB x.1 x.2.1.1.1).1,zOF (zfB x.1 x.2.1.1.1).2)
theorem zqp:SdP 113 zia:=
 sT (cx':=zi2) (zi ⟨znH,trivial⟩) call113 func113 (lOK (aC zrH aN))
def zqu:=zbq base 9 [(60,zj7),(113,zia)]
def zqZ (s:yC) (f:yC):Wy0 (Bool):=.bn (zfB s f) λr0=>.k (decide (r0≥0))
def zeO (s:yC) (f:yC):=(zqZ s f).fin default
def zg6:=zh ztt λx=>((zeO x.1 x.2.1.1.1).1,zVf (zeO x.1 x.2.1.1.1).2)
theorem zof:SdP 59 zg6:=
 sT (cx':=zqu) (zi ⟨znH,zqp,trivial⟩) call59 func59 (lOK aN)
def zTC:=zbq base 17 [(20,zcs),(59,zg6),(60,zj7)]
def zVy (a:yC) (b:yC):Wy0 (Bool):=.bn (zb7 a) λr2=>.i (!r2) (.k false) (.bn (zb7 b) λr1=>.i (!r1) (.k false) (.bn (zeO a b) λr0=>.k (!r0)))
def zAU (a:yC) (b:yC):=(zVy a b).fin default
def zBk:=zh zSZ λx=>((zAU x.1 x.2.1).1,zVf (zAU x.1 x.2.1).2)
theorem zMY:SdP 18 zBk:=
 sT (cx':=zTC) (zi ⟨zcC,zof,znH,trivial⟩) call18 func18 (lOK aN)
def z7L:=zbq base 8 []
def z96 (x_:At):Wy0 (yC):=.k [TO.mk 1 [FO.mk (At.mk x_.Kind x_.Row x_.Ag x_.Func x_.Items x_.Op x_.Bd) 1]]
def zD1 (x_:At):=(z96 x_).fin default
def zDL:=zh zBm λx=>((zD1 x.1).1,zOR (zD1 x.1).2)
theorem zK5:SdP 102 zDL:=
 sT (cx':=z7L) (zi trivial) call102 func102 (lOK aN) (sg:=⟨[.own 28],[]⟩)
def z85:=zbq base 14 [(102,zDL)]
def zba8 (id:RowID):Wy0 (yC):=.i (decide (id.Table<1)) (.k []) (.i (decide (id.Seq<1)) (.k []) (.k ((zD1 (At.mk 0 id [] 0 [] 0 (Value.mk 0 0 (ByteArray.mk #[])))).2)))
def zYD (id:RowID):=(zba8 id).fin default
def zQ8:=zh z5M λx=>((zYD x.1).1,zOR (zYD x.1).2)
theorem z5v:SdP 98 zQ8:=
 sT (cx':=z85) (zi ⟨zK5,trivial⟩) call98 func98 (lOK aN) (sg:=⟨[.own 28],[]⟩)
def zZm:=zbq base 6 [(98,zQ8)]
def z29 (seq:Int):Wy0 (yC):=.bn (zYD (RowID.mk 1 seq)) λr0=>.k r0
def zQh (seq:Int):=(z29 seq).fin default
def zER:=zh zZB λx=>((zQh x.1).1,zOR (zQh x.1).2)
theorem zSJ:SdP 44 zER:=
 sT (cx':=zZm) (zi ⟨z5v,trivial⟩) call44 func44 (lOK aN) (sg:=⟨[.own 28],[]⟩)
def z6q:=zbq base 9 []
def z8i (n_:Int):Wy0 (yC):=.i (decide (n_<1)) (.k []) (.k [TO.mk (if 1152921504606846976<n_ then 1152921504606846976 else n_) []])
def z0M (n_:Int):=(z8i n_).fin default
def zLh:=zh zZB λx=>((z0M x.1).1,zOR (z0M x.1).2)
theorem zZq:SdP 46 zLh:=
 sT (cx':=z6q) (zi trivial) call46 func46 (lOK aN) (sg:=⟨[.own 28],[]⟩)
end Go.Proofs.YtljlfiomikifjaaGreatDoor
/- What lies inside lists of terms and factors: fuel for loops. -/
namespace Go.Proofs.YtljlfiomikifjaaGreatDoor
open Go.Proofs.Tryz
def z6p:yD->Nat
 | []=>0
 | f::r=>f.Exp.toNat +f.At.Ag.length+f.At.Items.length+1+z6p r
def zdR:yC->Nat
 | []=>0
 | t::r=>z6p t.Fs+1+zdR r
end Go.Proofs.YtljlfiomikifjaaGreatDoor
namespace Go.Proofs.YtljlfiomikifjaaGreatDoor
open Go Go.Ab
open Go.Proofs.Tryz
def zjk (F:yD->yD->Bool×Int):Ab.Spec ty:=zh zZP λx=>((F x.1 x.2.1).1,zOF (F x.1 x.2.1).2)
def zS2:AL base (yE×yE×Unit):=zd (ze (vSl 100)) (zd (ze (vSl 100)) zp)
def zkt (F:yE->yE->Bool×Int):Ab.Spec ty:=zh zS2 λx=>((F x.1 x.2.1).1,zOF (F x.1 x.2.1).2)
def z4g:=zbq base 11 []
def zPW (a:Int) (b:Int):Wy0 (Int):=.i (decide (a<b)) (.k (-1:Int)) (.i (decide (a>b)) (.k 1) (.k 0))
def zc0 (a:Int) (b:Int):=(zPW a b).fin default
def zle:=zh zVp λx=>((zc0 x.1 x.2.1).1,zOF (zc0 x.1 x.2.1).2)
theorem zmH:SdP 91 zle:=
 sT (cx':=z4g) (zi trivial) call91 func91 (lOK aN)
abbrev zwN:=yC×yC×Int×Unit
abbrev zLY:=Int⊕(yC×yC)
def zYu (zbm:yD->yD->Bool×Int) (a:yC) (b:yC) (i:Int):Wy zwN Unit zLY:=.i (decide (i<Int.ofNat a.length)) (.i (decide (i<Int.ofNat b.length)) (.i (decide (0<=i)&&decide (i<Int.ofNat a.length)) (.i (decide (0<=i)&&decide (i<Int.ofNat b.length)) (.bn (zbm (a.getD i.toNat default).Fs (b.getD i.toNat default).Fs) λr1=>.i (r1 != 0) (.k (.inl (r1))) (.i (decide (0<=i)&&decide (i<Int.ofNat a.length)) (.i (decide (0<=i)&&decide (i<Int.ofNat b.length)) (.bn (zc0 (a.getD i.toNat default).Cf (b.getD i.toNat default).Cf) λr0=>.i (r0 != 0) (.k (.inl (r0))) (.h (a,b,(IntKind.i64.wrap (i+1)),()) ())) .d) .d)) .d) .d) (.k (.inr (a,b)))) (.k (.inr (a,b)))
def zGV (zbm:yD->yD->Bool×Int) (x:zwN) (y:Unit):=zYu zbm x.1 x.2.1 x.2.2.1
def zYd (zbm:yD->yD->Bool×Int) (n:Nat) (a:yC) (b:yC) (i:Int):=zH (zGV zbm) (.inl default) n (a,b,i,()) ()
def zUU (r:zLY):LTree ty:=.ite (isL r) (.done .ret [.lit (.int .i64 (getL r))] []) (.done (.exit 0) [.sl 28 (getR r).1,.sl 28 (getR r).2] [])
def zXB:LL ty zwN:=za (lSl 28) (za (lSl 28) (za zj zm))
def zUy (x:zwN) (y:Unit):Nat:=(x.1.length+x.2.1.length+Int.toNat x.2.2.1+1)
def zHG (zbm:yD->yD->Bool×Int):=zbZ base 53 [(34,(zjk zbm)),(91,zle)] [] [(2,(kpL [0,1,5]))] [(2,1,(kpL [0,1])),(2,0,(kpL [4]))] [(2,spW zXB z8a (zGV zbm) (.inl default) zUU zUy)] []
theorem zVl (zbm:yD->yD->Bool×Int):zD (zHG zbm) (lp (body f89) 0):=zq (id:=2) (hl:=rfl)
def zZs (zbm:yD->yD->Bool×Int) (a:yC) (b:yC):Wy0 (Int):=.bn (zYd zbm (a.length+b.length+Int.toNat 0+1) a b 0) λr5=>.i (isL r5) (.k (getL r5)) (.bn (zc0 (Int.ofNat (getR r5).1.length) (Int.ofNat (getR r5).2.length)) λr4=>.k r4)
def zya (zbm:yD->yD->Bool×Int) (a:yC) (b:yC):=(zZs zbm a b).fin default
theorem zPL (zbm:yD->yD->Bool×Int) (zL8:SdP 34 (zjk zbm)):SdP 89 (zd9 (zya zbm)):=
 sT (cx':=(zHG zbm)) (zi ⟨zL8,zmH,trivial⟩) call89 func89 (lOK (aC (zVl zbm) aN))
def z7Z:=zbq base 4 []
def zYb (less:Bool):Wy0 (Int):=.i (less) (.k (-1:Int)) (.k 1)
def zz5 (less:Bool):=(zYb less).fin default
def zbai:AL base (Bool×Unit):=zd (ze zbhY) zp
def zNp:=zh zbai λx=>((zz5 x.1).1,zOF (zz5 x.1).2)
theorem z2j:SdP 157 zNp:=
 sT (cx':=z7Z) (zi trivial) call157 func157 (lOK aN)
def z16:=zbq base 38 [(157,zNp)]
def zN6 (a:Value) (b:Value):Wy0 (Int):=.i (a.Kind != b.Kind) (.bn (zz5 (decide (a.Kind<b.Kind))) λr0=>.k r0) (.i (a.Int != b.Int) (.bn (zz5 (decide (a.Int<b.Int))) λr1=>.k r1) (.i (!a.Text.toList==b.Text.toList) (.bn (zz5 (Op.bytesLess a.Text.toList b.Text.toList)) λr2=>.k r2) (.k 0)))
def znK (a:Value) (b:Value):=(zN6 a b).fin default
def zyN:=zh z3c λx=>((znK x.1 x.2.1).1,zOF (znK x.1 x.2.1).2)
theorem zEK:SdP 107 zyN:=
 sT (cx':=z16) (zi ⟨z2j,trivial⟩) call107 func107 (lOK aN)
def zVv:=zbq base 19 [(91,zle)]
def zG6 (a:RowID) (b:RowID):Wy0 (Int):=.bn (zc0 a.Table b.Table) λr1=>.i (r1 != 0) (.k r1) (.bn (zc0 a.Seq b.Seq) λr0=>.k r0)
def zhW (a:RowID) (b:RowID):=(zG6 a b).fin default
def znt:=zh z2D λx=>((zhW x.1 x.2.1).1,zOF (zhW x.1 x.2.1).2)
theorem ztw:SdP 105 znt:=
 sT (cx':=zVv) (zi ⟨zmH,trivial⟩) call105 func105 (lOK aN)
abbrev zoI:=Unit×Unit×Int×Unit
abbrev zor:=At×At×Unit
abbrev zDN:=Int⊕(At×At)
def ztc (zT:yC->yC->Bool×Int) (zbx:yE->yE->Bool×Int) (i:Int) (a:At) (b:At):Wy zoI zor zDN:=.i (decide (i<Int.ofNat a.Ag.length)) (.i (decide (i<Int.ofNat b.Ag.length)) (.i (decide (0<=i)&&decide (i<Int.ofNat a.Ag.length)) (.i (decide (0<=i)&&decide (i<Int.ofNat b.Ag.length)) (.bn (zT (a.Ag.getD i.toNat default) (b.Ag.getD i.toNat default)) λr0=>.i (r0 != 0) (.k (.inl (r0))) (.h ((),(),(IntKind.i64.wrap (i+1)),()) (a,b,()))) .d) .d) (.k (.inr (a,b)))) (.k (.inr (a,b)))
def zA7 (zT:yC->yC->Bool×Int) (zbx:yE->yE->Bool×Int) (x:zoI) (y:zor):=ztc zT zbx x.2.2.1 y.1 y.2.1
def ztF (zT:yC->yC->Bool×Int) (zbx:yE->yE->Bool×Int) (n:Nat) (i:Int) (a:At) (b:At):=zH (zA7 zT zbx) (.inl default) n ((),(),i,()) (a,b,())
def zM5 (r:zDN):LTree ty:=.ite (isL r) (.done .ret [.lit (.int .i64 (getL r))] []) (.done (.exit 0) [.ptr 384 0,.ptr 385 0] [.box (base.enc 67 (getR r).1) false,.box (base.enc 67 (getR r).2) false])
def zOx:LL ty zoI:=za (zfa 384 0) (za (zfa 385 0) (za zj zm))
def zOt:BL ty zor:=ziw (zgt (λx=>(⟨x.1,⟨x.2.1,x.2.2.1⟩,x.2.2.2.1,x.2.2.2.2.1,x.2.2.2.2.2.1,x.2.2.2.2.2.2.1,⟨x.2.2.2.2.2.2.2.1,x.2.2.2.2.2.2.2.2.1,x.2.2.2.2.2.2.2.2.2.1⟩⟩:At)) (λx=>(x.Kind,x.Row.Table,x.Row.Seq,x.Ag,x.Func,x.Items,x.Op,x.Bd.Kind,x.Bd.Int,x.Bd.Text,())) (λ_=>rfl) (za (zO .i64) (za (zO .i64) (za (zO .i64) (za (lSl 23) (za (zO .i64) (za (lSl 100) (za (zO .i64) (za (zO .i64) (za (zO .i64) (za zp3 zm))))))))))) false (ziw (zgt (λx=>(⟨x.1,⟨x.2.1,x.2.2.1⟩,x.2.2.2.1,x.2.2.2.2.1,x.2.2.2.2.2.1,x.2.2.2.2.2.2.1,⟨x.2.2.2.2.2.2.2.1,x.2.2.2.2.2.2.2.2.1,x.2.2.2.2.2.2.2.2.2.1⟩⟩:At)) (λx=>(x.Kind,x.Row.Table,x.Row.Seq,x.Ag,x.Func,x.Items,x.Op,x.Bd.Kind,x.Bd.Int,x.Bd.Text,())) (λ_=>rfl) (za (zO .i64) (za (zO .i64) (za (zO .i64) (za (lSl 23) (za (zO .i64) (za (lSl 100) (za (zO .i64) (za (zO .i64) (za (zO .i64) (za zp3 zm))))))))))) false (zbg))
def zMQ (x:zoI) (y:zor):Nat:=(Int.toNat x.2.2.1+y.1.Ag.length+y.1.Items.length+y.2.1.Ag.length+y.2.1.Items.length+1)
def zBu (zT:yC->yC->Bool×Int) (zbx:yE->yE->Bool×Int):=zbZ base 96 [(89,(zd9 zT)),(91,zle),(105,znt),(106,(zkt zbx)),(107,zyN)] [] [(8,(kpL [2,3,7]))] [(8,1,(kpL [2,3])),(8,0,(kpL [4]))] [(8,spW zOx zOt (zA7 zT zbx) (.inl default) zM5 zMQ)] []
theorem zMP (zT:yC->yC->Bool×Int) (zbx:yE->yE->Bool×Int):zD (zBu zT zbx) (lp (body f53) 0):=zq (id:=8) (hl:=rfl)
def zCp (zT:yC->yC->Bool×Int) (zbx:yE->yE->Bool×Int) (a:At) (b:At):Wy0 (Int):=.bn (zc0 a.Kind b.Kind) λr9=>.i (r9 != 0) (.k r9) (.bn (zhW a.Row b.Row) λr8=>.i (r8 != 0) (.k r8) (.bn (ztF zT zbx (Int.toNat 0+a.Ag.length+a.Items.length+b.Ag.length+b.Items.length+1) 0 (At.mk a.Kind a.Row a.Ag a.Func a.Items a.Op a.Bd) (At.mk b.Kind b.Row b.Ag b.Func b.Items b.Op b.Bd)) λr7=>.i (isL r7) (.k (getL r7)) (.bn (zc0 (Int.ofNat (getR r7).1.Ag.length) (Int.ofNat (getR r7).2.Ag.length)) λr6=>.i (r6 != 0) (.k r6) (.bn (zc0 (getR r7).1.Func (getR r7).2.Func) λr5=>.i (r5 != 0) (.k r5) (.bn (zbx (getR r7).1.Items (getR r7).2.Items) λr4=>.i (r4 != 0) (.k r4) (.bn (zc0 (getR r7).1.Op (getR r7).2.Op) λr3=>.i (r3 != 0) (.k r3) (.bn (znK (getR r7).1.Bd (getR r7).2.Bd) λr2=>.k r2)))))))
def zlV (zT:yC->yC->Bool×Int) (zbx:yE->yE->Bool×Int) (a:At) (b:At):=(zCp zT zbx a b).fin default
theorem zKd (zT:yC->yC->Bool×Int) (zbx:yE->yE->Bool×Int) (zAW:SdP 89 (zd9 zT)) (zPa:SdP 106 (zkt zbx)):SdP 53 (zg5 (zlV zT zbx)):=
 sT (cx':=(zBu zT zbx)) (zi ⟨zAW,zmH,ztw,zPa,zEK,trivial⟩) call53 func53 (lOK (aC (zMP zT zbx) aN))
abbrev zlF:=yD×yD×Int×Unit
abbrev zAf:=Int⊕(yD×yD)
def zyo (zbD:At->At->Bool×Int) (a:yD) (b:yD) (i:Int):Wy zlF Unit zAf:=.i (decide (i<Int.ofNat a.length)) (.i (decide (i<Int.ofNat b.length)) (.i (decide (0<=i)&&decide (i<Int.ofNat a.length)) (.i (decide (0<=i)&&decide (i<Int.ofNat b.length)) (.bn (zbD (At.mk (a.getD i.toNat default).At.Kind (a.getD i.toNat default).At.Row (a.getD i.toNat default).At.Ag (a.getD i.toNat default).At.Func (a.getD i.toNat default).At.Items (a.getD i.toNat default).At.Op (a.getD i.toNat default).At.Bd) (At.mk (b.getD i.toNat default).At.Kind (b.getD i.toNat default).At.Row (b.getD i.toNat default).At.Ag (b.getD i.toNat default).At.Func (b.getD i.toNat default).At.Items (b.getD i.toNat default).At.Op (b.getD i.toNat default).At.Bd)) λr1=>.i (r1 != 0) (.k (.inl (r1))) (.i (decide (0<=i)&&decide (i<Int.ofNat a.length)) (.i (decide (0<=i)&&decide (i<Int.ofNat b.length)) (.bn (zc0 (a.getD i.toNat default).Exp (b.getD i.toNat default).Exp) λr0=>.i (r0 != 0) (.k (.inl (r0))) (.h (a,b,(IntKind.i64.wrap (i+1)),()) ())) .d) .d)) .d) .d) (.k (.inr (a,b)))) (.k (.inr (a,b)))
def zj9 (zbD:At->At->Bool×Int) (x:zlF) (y:Unit):=zyo zbD x.1 x.2.1 x.2.2.1
def zyt (zbD:At->At->Bool×Int) (n:Nat) (a:yD) (b:yD) (i:Int):=zH (zj9 zbD) (.inl default) n (a,b,i,()) ()
def zIe (r:zAf):LTree ty:=.ite (isL r) (.done .ret [.lit (.int .i64 (getL r))] []) (.done (.exit 0) [.sl 69 (getR r).1,.sl 69 (getR r).2] [])
def zKo:LL ty zlF:=za (lSl 69) (za (lSl 69) (za zj zm))
def zHP (x:zlF) (y:Unit):Nat:=(x.1.length+x.2.1.length+Int.toNat x.2.2.1+1)
def zyq (zbD:At->At->Bool×Int):=zbZ base 53 [(53,(zg5 zbD)),(91,zle)] [] [(2,(kpL [0,1,5]))] [(2,1,(kpL [0,1])),(2,0,(kpL [4]))] [(2,spW zKo z8a (zj9 zbD) (.inl default) zIe zHP)] []
theorem zIi (zbD:At->At->Bool×Int):zD (zyq zbD) (lp (body f34) 0):=zq (id:=2) (hl:=rfl)
def zy0 (zbD:At->At->Bool×Int) (a:yD) (b:yD):Wy0 (Int):=.bn (zyt zbD (a.length+b.length+Int.toNat 0+1) a b 0) λr5=>.i (isL r5) (.k (getL r5)) (.bn (zc0 (Int.ofNat (getR r5).1.length) (Int.ofNat (getR r5).2.length)) λr4=>.k r4)
def zju (zbD:At->At->Bool×Int) (a:yD) (b:yD):=(zy0 zbD a b).fin default
theorem zGb (zbD:At->At->Bool×Int) (zQT:SdP 53 (zg5 zbD)):SdP 34 (zjk (zju zbD)):=
 sT (cx':=(zyq zbD)) (zi ⟨zQT,zmH,trivial⟩) call34 func34 (lOK (aC (zIi zbD) aN))
abbrev znz:=yE×yE×Int×Unit
abbrev zCu:=Int⊕(yE×yE)
def zMX (zT:yC->yC->Bool×Int) (a:yE) (b:yE) (i:Int):Wy znz Unit zCu:=.i (decide (i<Int.ofNat a.length)) (.i (decide (i<Int.ofNat b.length)) (.i (decide (0<=i)&&decide (i<Int.ofNat a.length)) (.i (decide (0<=i)&&decide (i<Int.ofNat b.length)) (.bn (znK (a.getD i.toNat default).Value (b.getD i.toNat default).Value) λr1=>.i (r1 != 0) (.k (.inl (r1))) (.i (decide (0<=i)&&decide (i<Int.ofNat a.length)) (.i (decide (0<=i)&&decide (i<Int.ofNat b.length)) (.bn (zT (a.getD i.toNat default).Ann (b.getD i.toNat default).Ann) λr0=>.i (r0 != 0) (.k (.inl (r0))) (.h (a,b,(IntKind.i64.wrap (i+1)),()) ())) .d) .d)) .d) .d) (.k (.inr (a,b)))) (.k (.inr (a,b)))
def zAd (zT:yC->yC->Bool×Int) (x:znz) (y:Unit):=zMX zT x.1 x.2.1 x.2.2.1
def zNa (zT:yC->yC->Bool×Int) (n:Nat) (a:yE) (b:yE) (i:Int):=zH (zAd zT) (.inl default) n (a,b,i,()) ()
def zK4 (r:zCu):LTree ty:=.ite (isL r) (.done .ret [.lit (.int .i64 (getL r))] []) (.done (.exit 0) [.sl 100 (getR r).1,.sl 100 (getR r).2] [])
def zMV:LL ty znz:=za (lSl 100) (za (lSl 100) (za zj zm))
def zLv (x:znz) (y:Unit):Nat:=(x.1.length+x.2.1.length+Int.toNat x.2.2.1+1)
def zAs (zT:yC->yC->Bool×Int):=zbZ base 53 [(89,(zd9 zT)),(91,zle),(107,zyN)] [] [(2,(kpL [0,1,5]))] [(2,1,(kpL [0,1])),(2,0,(kpL [4]))] [(2,spW zMV z8a (zAd zT) (.inl default) zK4 zLv)] []
theorem zLQ (zT:yC->yC->Bool×Int):zD (zAs zT) (lp (body f106) 0):=zq (id:=2) (hl:=rfl)
def zOv (zT:yC->yC->Bool×Int) (a:yE) (b:yE):Wy0 (Int):=.bn (zNa zT (a.length+b.length+Int.toNat 0+1) a b 0) λr5=>.i (isL r5) (.k (getL r5)) (.bn (zc0 (Int.ofNat (getR r5).1.length) (Int.ofNat (getR r5).2.length)) λr4=>.k r4)
def zos (zT:yC->yC->Bool×Int) (a:yE) (b:yE):=(zOv zT a b).fin default
theorem zHO (zT:yC->yC->Bool×Int) (zAW:SdP 89 (zd9 zT)):SdP 106 (zkt (zos zT)):=
 sT (cx':=(zAs zT)) (zi ⟨zAW,zmH,zEK,trivial⟩) call106 func106 (lOK (aC (zLQ zT) aN))
def zk7:Nat->(yC->yC->Bool×Int)×(yD->yD->Bool×Int)×(At->At->Bool×Int)×(yE->yE->Bool×Int)
 | 0=>(λ_ _=>(false,default),λ_ _=>(false,default),λ_ _=>(false,default),λ_ _=>(false,default))
 | n+1=>(zya ((zk7 n).2.1),zju ((zk7 n).2.2.1),zlV ((zk7 n).1) ((zk7 n).2.2.2),zos ((zk7 n).1))
def znh (n:Nat):yC->yC->Bool×Int:=(zk7 n).1
def zjm (n:Nat):yD->yD->Bool×Int:=(zk7 n).2.1
def zlU (n:Nat):At->At->Bool×Int:=(zk7 n).2.2.1
def zkS (n:Nat):yE->yE->Bool×Int:=(zk7 n).2.2.2
theorem zX4 (n:Nat):znh (n+1)=zya (zjm n):=rfl
theorem zJQ (n:Nat):zjm (n+1)=zju (zlU n):=rfl
theorem zPr (n:Nat):zlU (n+1)=zlV (znh n) (zkS n):=rfl
theorem zMN (n:Nat):zkS (n+1)=zos (znh n):=rfl
theorem zup:∀ n,SdP 89 (zd9 (znh n))/\SdP 34 (zjk (zjm n))/\SdP 53 (zg5 (zlU n))/\SdP 106 (zkt (zkS n))
 | 0=>⟨zba call89 (λ_=>rfl),zba call34 (λ_=>rfl),zba call53 (λ_=>rfl),zba call106 (λ_=>rfl)⟩
 | n+1=>by
  have ih:=zup n;exact ⟨zPL _ (ih.2.1),zGb _ (ih.2.2.1),zKd _ _ (ih.1) (ih.2.2.2),zHO _ (ih.1)⟩
def zH9:yC->yC->Bool×Int:=znh 1000
def zGu:Ab.Spec ty:=zd9 zH9
theorem zU8:SdP 89 zGu:=(zup 1000).1
def zkv:yD->yD->Bool×Int:=zjm 1000
def zoW:Ab.Spec ty:=zjk zkv
theorem zwT:SdP 34 zoW:=(zup 1000).2.1
def zlf:At->At->Bool×Int:=zlU 1000
def ztH:Ab.Spec ty:=zg5 zlf
theorem zAk:SdP 53 ztH:=(zup 1000).2.2.1
def zyQ:yE->yE->Bool×Int:=zkS 1000
def zAu:Ab.Spec ty:=zkt zyQ
theorem zKW:SdP 106 zAu:=(zup 1000).2.2.2
abbrev zhG:=yC×Int×Int×Int×Unit×Int×Int×Unit
abbrev zLf:=yC×Int×Int×Int×Int×At
abbrev zL1:=yC×Int×Int×Int×Int
abbrev zvY:=yC×Int×Int×Int×Unit
abbrev zLm:=yC×Int×Int
abbrev zws:=yC×Int×Int×Unit
def zlL (zA:yC->Bool×Int) (a:yC) (most:Int) (i:Int) (k:Int) (n_:Int) (j:Int) (x_:At):Wy zhG (At×Unit) zLf:=.i (decide (j<Int.ofNat x_.Ag.length)) (.i (decide (0<=j)&&decide (j<Int.ofNat x_.Ag.length)) (.bn (zA (x_.Ag.getD j.toNat default)) λr0=>.h (a,most,i,k,(),(if IntKind.i64.wrap (1+r0)>n_ then IntKind.i64.wrap (1+r0) else n_),(IntKind.i64.wrap (j+1)),()) (x_,())) .d) (.k (a,most,i,k,n_,x_))
def zxV (zA:yC->Bool×Int) (x:zhG) (y:At×Unit):=zlL zA x.1 x.2.1 x.2.2.1 x.2.2.2.1 x.2.2.2.2.2.1 x.2.2.2.2.2.2.1 y.1
def zxP (zA:yC->Bool×Int) (n:Nat) (a:yC) (most:Int) (i:Int) (k:Int) (n_:Int) (j:Int) (x_:At):=zH (zxV zA) default n (a,most,i,k,(),n_,j,()) (x_,())
def zRI (r:zLf):LTree ty:=.done (.exit 4) [.sl 28 r.1,.lit (.int .i64 r.2.1),.lit (.int .i64 r.2.2.1),.lit (.int .i64 r.2.2.2.1),.ptr 300 0,.lit (.int .i64 r.2.2.2.2.1)] [.box (base.enc 67 r.2.2.2.2.2) false]
def zU0:LL ty zhG:=za (lSl 28) (za zj (za zj (za zj (za (zfa 300 0) (za zj (za zj zm))))))
def zUH:BL ty (At×Unit):=ziw (zgt (λx=>(⟨x.1,⟨x.2.1,x.2.2.1⟩,x.2.2.2.1,x.2.2.2.2.1,x.2.2.2.2.2.1,x.2.2.2.2.2.2.1,⟨x.2.2.2.2.2.2.2.1,x.2.2.2.2.2.2.2.2.1,x.2.2.2.2.2.2.2.2.2.1⟩⟩:At)) (λx=>(x.Kind,x.Row.Table,x.Row.Seq,x.Ag,x.Func,x.Items,x.Op,x.Bd.Kind,x.Bd.Int,x.Bd.Text,())) (λ_=>rfl) (za (zO .i64) (za (zO .i64) (za (zO .i64) (za (lSl 23) (za (zO .i64) (za (lSl 100) (za (zO .i64) (za (zO .i64) (za (zO .i64) (za zp3 zm))))))))))) false (zbg)
def zlP (zA:yC->Bool×Int) (a:yC) (most:Int) (i:Int) (k:Int) (n_:Int) (j:Int) (x_:At):Wy zhG (At×Unit) zL1:=.i (decide (j<Int.ofNat x_.Items.length)) (.i (decide (0<=j)&&decide (j<Int.ofNat x_.Items.length)) (.bn (zA (x_.Items.getD j.toNat default).Ann) λr2=>.h (a,most,i,k,(),(if IntKind.i64.wrap (1+r2)>n_ then IntKind.i64.wrap (1+r2) else n_),(IntKind.i64.wrap (j+1)),()) (x_,())) .d) (.k (a,most,i,k,n_))
def zxT (zA:yC->Bool×Int) (x:zhG) (y:At×Unit):=zlP zA x.1 x.2.1 x.2.2.1 x.2.2.2.1 x.2.2.2.2.2.1 x.2.2.2.2.2.2.1 y.1
def zE3 (zA:yC->Bool×Int) (n:Nat) (a:yC) (most:Int) (i:Int) (k:Int) (n_:Int) (j:Int) (x_:At):=zH (zxT zA) default n (a,most,i,k,(),n_,j,()) (x_,())
def zSR (r:zL1):LTree ty:=.done (.exit 6) [.sl 28 r.1,.lit (.int .i64 r.2.1),.lit (.int .i64 r.2.2.1),.lit (.int .i64 r.2.2.2.1),.lit (.int .i64 r.2.2.2.2)] []
def zm0 (zA:yC->Bool×Int) (a:yC) (most:Int) (i:Int) (k:Int):Wy zvY Unit zLm:=.i (decide (0<=i)&&decide (i<Int.ofNat a.length)) (.i (decide (k<Int.ofNat (a.getD i.toNat default).Fs.length)) (.i (decide (0<=i)&&decide (i<Int.ofNat a.length)) (.i (decide (0<=k)&&decide (k<Int.ofNat (a.getD i.toNat default).Fs.length)) (.i (((a.getD i.toNat default).Fs.getD k.toNat default).At.Kind==0) (.h (a,most,i,(IntKind.i64.wrap (k+1)),()) ()) (.bn (zxP zA ((a.length+most.toNat +i.toNat +k.toNat +Int.toNat 1+Int.toNat 0+((a.getD i.toNat default).Fs.getD k.toNat default).At.Ag.length+((a.getD i.toNat default).Fs.getD k.toNat default).At.Items.length+1)+zdR a) a most i k 1 0 (At.mk ((a.getD i.toNat default).Fs.getD k.toNat default).At.Kind ((a.getD i.toNat default).Fs.getD k.toNat default).At.Row ((a.getD i.toNat default).Fs.getD k.toNat default).At.Ag ((a.getD i.toNat default).Fs.getD k.toNat default).At.Func ((a.getD i.toNat default).Fs.getD k.toNat default).At.Items ((a.getD i.toNat default).Fs.getD k.toNat default).At.Op ((a.getD i.toNat default).Fs.getD k.toNat default).At.Bd)) λr5=>.bn (zE3 zA ((r5.1.length+r5.2.1.toNat +r5.2.2.1.toNat +r5.2.2.2.1.toNat +r5.2.2.2.2.1.toNat +Int.toNat 0+r5.2.2.2.2.2.Ag.length+r5.2.2.2.2.2.Items.length+1)+zdR r5.1) r5.1 r5.2.1 r5.2.2.1 r5.2.2.2.1 r5.2.2.2.2.1 0 (At.mk r5.2.2.2.2.2.Kind r5.2.2.2.2.2.Row r5.2.2.2.2.2.Ag r5.2.2.2.2.2.Func r5.2.2.2.2.2.Items r5.2.2.2.2.2.Op r5.2.2.2.2.2.Bd)) λr4=>.h ((r4.1),(if r4.2.2.2.2>r4.2.1 then r4.2.2.2.2 else r4.2.1),(r4.2.2.1),(IntKind.i64.wrap (r4.2.2.2.1+1)),()) ())) .d) .d) (.k (a,most,i))) .d
def zzy (zA:yC->Bool×Int) (x:zvY) (y:Unit):=zm0 zA x.1 x.2.1 x.2.2.1 x.2.2.2.1
def zHg (zA:yC->Bool×Int) (n:Nat) (a:yC) (most:Int) (i:Int) (k:Int):=zH (zzy zA) default n (a,most,i,k,()) ()
def zVq (r:zLm):LTree ty:=.done (.exit 2) [.sl 28 r.1,.lit (.int .i64 r.2.1),.lit (.int .i64 r.2.2)] []
def zWt:LL ty zvY:=za (lSl 28) (za zj (za zj (za zj zm)))
def zmZ (zA:yC->Bool×Int) (a:yC) (most:Int) (i:Int):Wy zws Unit (Int):=.i (decide (i<Int.ofNat a.length)) (.bn (zHg zA ((a.length+most.toNat +i.toNat +Int.toNat 0+1)+zdR a) a most i 0) λr8=>.h ((r8.1),(r8.2.1),(IntKind.i64.wrap (r8.2.2+1)),()) ()) (.k most)
def zzv (zA:yC->Bool×Int) (x:zws) (y:Unit):=zmZ zA x.1 x.2.1 x.2.2.1
def zHu (zA:yC->Bool×Int) (n:Nat) (a:yC) (most:Int) (i:Int):=zH (zzv zA) default n (a,most,i,()) ()
def zWg:LL ty zws:=za (lSl 28) (za zj (za zj zm))
def zSq (x:zhG) (y:At×Unit):Nat:=((x.1.length+Int.toNat x.2.1+Int.toNat x.2.2.1+Int.toNat x.2.2.2.1+Int.toNat x.2.2.2.2.2.1+Int.toNat x.2.2.2.2.2.2.1+y.1.Ag.length+y.1.Items.length+1)+zdR x.1)
def zUB (x:zvY) (y:Unit):Nat:=((x.1.length+Int.toNat x.2.1+Int.toNat x.2.2.1+Int.toNat x.2.2.2.1+1)+zdR x.1)
def zVc (x:zws) (y:Unit):Nat:=((x.1.length+Int.toNat x.2.1+Int.toNat x.2.2.1+1)+zdR x.1)
def zm2 (zA:yC->Bool×Int):=zbZ base 75 [(108,(zn2 zA))] [] [(3,(kpL [0,3,4])),(6,(kpL [0,3,4,5])),(12,(kpL [0,3,4,5,6,7,8])),(16,(kpL [0,3,4,5,6,7,9]))] [(3,1,(kpL [3])),(6,3,(kpL [0,3,4])),(12,5,(kpL [0,3,4,5,6,7])),(16,7,(kpL [0,3,4,5,7]))] [(12,spW zU0 zUH (zxV zA) default zRI zSq),(16,spW zU0 zUH (zxT zA) default zSR zSq),(6,spW zWt z8a (zzy zA) default zVq zUB),(3,spW zWg z8a (zzv zA) default zP6 zVc)] []
theorem zRX (zA:yC->Bool×Int):zD (zm2 zA) (lp (body f108) 2):=zq (id:=12) (hl:=rfl)
theorem zSv (zA:yC->Bool×Int):zD (zm2 zA) (lp (body f108) 3):=zq (id:=16) (hl:=rfl)
theorem zUp (zA:yC->Bool×Int):zD (zm2 zA) (lp (body f108) 1):=zq (id:=6) (hl:=rfl)
theorem zU2 (zA:yC->Bool×Int):zD (zm2 zA) (lp (body f108) 0):=zq (id:=3) (hl:=rfl)
def zIW (zA:yC->Bool×Int) (a:yC):Wy0 (Int):=.bn (zHu zA ((a.length+Int.toNat 0+Int.toNat 0+1)+zdR a) a 0 0) λr10=>.k r10
def zx5 (zA:yC->Bool×Int) (a:yC):=(zIW zA a).fin default
theorem zQW (zA:yC->Bool×Int) (z0f:SdP 108 (zn2 zA)):SdP 108 (zn2 (zx5 zA)):=
 sT (cx':=(zm2 zA)) (zi ⟨z0f,trivial⟩) call108 func108 (lOK (aC (zU2 zA) (aC (zUp zA) (aC (zRX zA) (aC (zSv zA) aN)))))
def zWl:Nat->(yC->Bool×Int)
 | 0=>λ_=>(false,default)
 | n+1=>zx5 (zWl n)
def zkF (n:Nat):yC->Bool×Int:=zWl n
theorem zV2 (n:Nat):zkF (n+1)=zx5 (zkF n):=rfl
theorem zPP:∀ n,SdP 108 (zn2 (zkF n))
 | 0=>zba call108 (λ_=>rfl)
 | n+1=>by
  have ih:=zPP n;exact zQW _ (ih)
def zH8:yC->Bool×Int:=zkF 1000
def zGE:Ab.Spec ty:=zn2 zH8
theorem zU9:SdP 108 zGE:=(zPP 1000)
abbrev zlj:=yC×Int×Int×Int×Unit×Int×Unit
abbrev zTK:=yC×Int×Int×Int×At
abbrev zTX:=yC×Int×Int×Int
abbrev zBy:=yC×Int×Int×Int×Unit
abbrev zTV:=yC×Int×Int
abbrev zBK:=yC×Int×Int×Unit
def zqr (zS:yC->Bool×Int) (a:yC) (n_:Int) (i:Int) (k:Int) (j:Int) (x_:At):Wy zlj (At×Unit) zTK:=.i (decide (j<Int.ofNat x_.Ag.length)) (.i (decide (0<=j)&&decide (j<Int.ofNat x_.Ag.length)) (.bn (zS (x_.Ag.getD j.toNat default)) λr0=>.h (a,(IntKind.i64.wrap (n_+r0)),i,k,(),(IntKind.i64.wrap (j+1)),()) (x_,())) .d) (.k (a,n_,i,k,x_))
def zBY (zS:yC->Bool×Int) (x:zlj) (y:At×Unit):=zqr zS x.1 x.2.1 x.2.2.1 x.2.2.2.1 x.2.2.2.2.2.1 y.1
def zKO (zS:yC->Bool×Int) (n:Nat) (a:yC) (n_:Int) (i:Int) (k:Int) (j:Int) (x_:At):=zH (zBY zS) default n (a,n_,i,k,(),j,()) (x_,())
def zY9 (r:zTK):LTree ty:=.done (.exit 4) [.sl 28 r.1,.lit (.int .i64 r.2.1),.lit (.int .i64 r.2.2.1),.lit (.int .i64 r.2.2.2.1),.ptr 284 0] [.box (base.enc 67 r.2.2.2.2) false]
def z1L:LL ty zlj:=za (lSl 28) (za zj (za zj (za zj (za (zfa 284 0) (za zj zm)))))
def zqB (zS:yC->Bool×Int) (a:yC) (n_:Int) (i:Int) (k:Int) (j:Int) (x_:At):Wy zlj (At×Unit) zTX:=.i (decide (j<Int.ofNat x_.Items.length)) (.i (decide (0<=j)&&decide (j<Int.ofNat x_.Items.length)) (.bn (zS (x_.Items.getD j.toNat default).Ann) λr2=>.h (a,(IntKind.i64.wrap (IntKind.i64.wrap (n_+1)+r2)),i,k,(),(IntKind.i64.wrap (j+1)),()) (x_,())) .d) (.k (a,n_,i,k))
def zBN (zS:yC->Bool×Int) (x:zlj) (y:At×Unit):=zqB zS x.1 x.2.1 x.2.2.1 x.2.2.2.1 x.2.2.2.2.2.1 y.1
def zKS (zS:yC->Bool×Int) (n:Nat) (a:yC) (n_:Int) (i:Int) (k:Int) (j:Int) (x_:At):=zH (zBN zS) default n (a,n_,i,k,(),j,()) (x_,())
def z0c (r:zTX):LTree ty:=.done (.exit 6) [.sl 28 r.1,.lit (.int .i64 r.2.1),.lit (.int .i64 r.2.2.1),.lit (.int .i64 r.2.2.2)] []
def zsd (zS:yC->Bool×Int) (a:yC) (n_:Int) (i:Int) (k:Int):Wy zBy Unit zTV:=.i (decide (0<=i)&&decide (i<Int.ofNat a.length)) (.i (decide (k<Int.ofNat (a.getD i.toNat default).Fs.length)) (.i (decide (0<=i)&&decide (i<Int.ofNat a.length)) (.i (decide (0<=k)&&decide (k<Int.ofNat (a.getD i.toNat default).Fs.length)) (.bn (zKO zS ((a.length+(IntKind.i64.wrap (n_+1)).toNat +i.toNat +k.toNat +Int.toNat 0+((a.getD i.toNat default).Fs.getD k.toNat default).At.Ag.length+((a.getD i.toNat default).Fs.getD k.toNat default).At.Items.length+1)+zdR a) a (IntKind.i64.wrap (n_+1)) i k 0 (At.mk ((a.getD i.toNat default).Fs.getD k.toNat default).At.Kind ((a.getD i.toNat default).Fs.getD k.toNat default).At.Row ((a.getD i.toNat default).Fs.getD k.toNat default).At.Ag ((a.getD i.toNat default).Fs.getD k.toNat default).At.Func ((a.getD i.toNat default).Fs.getD k.toNat default).At.Items ((a.getD i.toNat default).Fs.getD k.toNat default).At.Op ((a.getD i.toNat default).Fs.getD k.toNat default).At.Bd)) λr5=>.bn (zKS zS ((r5.1.length+r5.2.1.toNat +r5.2.2.1.toNat +r5.2.2.2.1.toNat +Int.toNat 0+r5.2.2.2.2.Ag.length+r5.2.2.2.2.Items.length+1)+zdR r5.1) r5.1 r5.2.1 r5.2.2.1 r5.2.2.2.1 0 (At.mk r5.2.2.2.2.Kind r5.2.2.2.2.Row r5.2.2.2.2.Ag r5.2.2.2.2.Func r5.2.2.2.2.Items r5.2.2.2.2.Op r5.2.2.2.2.Bd)) λr4=>.h ((r4.1),(r4.2.1),(r4.2.2.1),(IntKind.i64.wrap (r4.2.2.2+1)),()) ()) .d) .d) (.k (a,n_,i))) .d
def zC8 (zS:yC->Bool×Int) (x:zBy) (y:Unit):=zsd zS x.1 x.2.1 x.2.2.1 x.2.2.2.1
def zNI (zS:yC->Bool×Int) (n:Nat) (a:yC) (n_:Int) (i:Int) (k:Int):=zH (zC8 zS) default n (a,n_,i,k,()) ()
def z1A (r:zTV):LTree ty:=.done (.exit 2) [.sl 28 r.1,.lit (.int .i64 r.2.1),.lit (.int .i64 r.2.2)] []
def z3h:LL ty zBy:=za (lSl 28) (za zj (za zj (za zj zm)))
def zse (zS:yC->Bool×Int) (a:yC) (n_:Int) (i:Int):Wy zBK Unit (Int):=.i (decide (i<Int.ofNat a.length)) (.bn (zNI zS ((a.length+(IntKind.i64.wrap (n_+1)).toNat +i.toNat +Int.toNat 0+1)+zdR a) a (IntKind.i64.wrap (n_+1)) i 0) λr8=>.h ((r8.1),(r8.2.1),(IntKind.i64.wrap (r8.2.2+1)),()) ()) (.k n_)
def zDv (zS:yC->Bool×Int) (x:zBK) (y:Unit):=zse zS x.1 x.2.1 x.2.2.1
def zNm (zS:yC->Bool×Int) (n:Nat) (a:yC) (n_:Int) (i:Int):=zH (zDv zS) default n (a,n_,i,()) ()
def z40:LL ty zBK:=za (lSl 28) (za zj (za zj zm))
def z0m (x:zlj) (y:At×Unit):Nat:=((x.1.length+Int.toNat x.2.1+Int.toNat x.2.2.1+Int.toNat x.2.2.2.1+Int.toNat x.2.2.2.2.2.1+y.1.Ag.length+y.1.Items.length+1)+zdR x.1)
def z2P (x:zBy) (y:Unit):Nat:=((x.1.length+Int.toNat x.2.1+Int.toNat x.2.2.1+Int.toNat x.2.2.2.1+1)+zdR x.1)
def z2R (x:zBK) (y:Unit):Nat:=((x.1.length+Int.toNat x.2.1+Int.toNat x.2.2.1+1)+zdR x.1)
def zsU (zS:yC->Bool×Int):=zbZ base 71 [(109,(zn2 zS))] [] [(3,(kpL [0,3,4])),(7,(kpL [0,3,4,5])),(12,(kpL [0,3,4,5,6,7])),(16,(kpL [0,3,4,5,6,8]))] [(3,1,(kpL [3])),(7,3,(kpL [0,3,4])),(12,5,(kpL [0,3,4,5,6])),(16,7,(kpL [0,3,4,5]))] [(12,spW z1L zUH (zBY zS) default zY9 z0m),(16,spW z1L zUH (zBN zS) default z0c z0m),(7,spW z3h z8a (zC8 zS) default z1A z2P),(3,spW z40 z8a (zDv zS) default zP6 z2R)] []
theorem z0e (zS:yC->Bool×Int):zD (zsU zS) (lp (body f109) 2):=zq (id:=12) (hl:=rfl)
theorem zZQ (zS:yC->Bool×Int):zD (zsU zS) (lp (body f109) 3):=zq (id:=16) (hl:=rfl)
theorem z1S (zS:yC->Bool×Int):zD (zsU zS) (lp (body f109) 1):=zq (id:=7) (hl:=rfl)
theorem z1q (zS:yC->Bool×Int):zD (zsU zS) (lp (body f109) 0):=zq (id:=3) (hl:=rfl)
def zRg (zS:yC->Bool×Int) (a:yC):Wy0 (Int):=.bn (zNm zS ((a.length+Int.toNat 0+Int.toNat 0+1)+zdR a) a 0 0) λr10=>.k r10
def zDY (zS:yC->Bool×Int) (a:yC):=(zRg zS a).fin default
theorem zXT (zS:yC->Bool×Int) (z60:SdP 109 (zn2 zS)):SdP 109 (zn2 (zDY zS)):=
 sT (cx':=(zsU zS)) (zi ⟨z60,trivial⟩) call109 func109 (lOK (aC (z1q zS) (aC (z1S zS) (aC (z0e zS) (aC (zZQ zS) aN)))))
def z7E:Nat->(yC->Bool×Int)
 | 0=>λ_=>(false,default)
 | n+1=>zDY (z7E n)
def zuK (n:Nat):yC->Bool×Int:=z7E n
theorem z4e (n:Nat):zuK (n+1)=zDY (zuK n):=rfl
theorem z0Z:∀ n,SdP 109 (zn2 (zuK n))
 | 0=>zba call109 (λ_=>rfl)
 | n+1=>by
  have ih:=z0Z n;exact zXT _ (ih)
def zSA:yC->Bool×Int:=zuK 1000
def zNl:Ab.Spec ty:=zn2 zSA
theorem z17:SdP 109 zNl:=(z0Z 1000)
abbrev zBF:=yC×Int×Int×Unit
abbrev zTZ:=Bool⊕(yC×Int)
abbrev zBx:=yC×Int×Unit
def zwU (a:yC) (i:Int) (k:Int):Wy zBF Unit zTZ:=.i (decide (0<=i)&&decide (i<Int.ofNat a.length)) (.i (decide (k<Int.ofNat (a.getD i.toNat default).Fs.length)) (.i (decide (0<=i)&&decide (i<Int.ofNat a.length)) (.i (decide (0<=k)&&decide (k<Int.ofNat (a.getD i.toNat default).Fs.length)) (.i (decide (((a.getD i.toNat default).Fs.getD k.toNat default).Exp>64)) (.k (.inl false)) (.i (decide (0<=i)&&decide (i<Int.ofNat a.length)) (.i (decide (0<=k)&&decide (k<Int.ofNat (a.getD i.toNat default).Fs.length)) (.i (decide (Int.ofNat ((a.getD i.toNat default).Fs.getD k.toNat default).At.Items.length>1024)) (.k (.inl false)) (.h (a,i,(IntKind.i64.wrap (k+1)),()) ())) .d) .d)) .d) .d) (.k (.inr (a,i)))) .d
def zIt (x:zBF) (y:Unit):=zwU x.1 x.2.1 x.2.2.1
def zUb (n:Nat) (a:yC) (i:Int) (k:Int):=zH (zIt) (.inl default) n (a,i,k,()) ()
def z5V (r:zTZ):LTree ty:=.ite (isL r) (.done .ret [.lit (.bool (getL r))] []) (.done (.exit 2) [.sl 28 (getR r).1,.lit (.int .i64 (getR r).2)] [])
def z8b:LL ty zBF:=za (lSl 28) (za zj (za zj zm))
def zwX (a:yC) (i:Int):Wy zBx Unit (Bool⊕Unit):=.i (decide (i<Int.ofNat a.length)) (.i (decide (0<=i)&&decide (i<Int.ofNat a.length)) (.i (decide (Int.ofNat (a.getD i.toNat default).Fs.length>64)) (.k (.inl false)) (.bn (zUb ((a.length+i.toNat +Int.toNat 0+1)+zdR a) a i 0) λr0=>.i (isL r0) (.k (.inl (getL r0))) (.h ((getR r0).1,(IntKind.i64.wrap ((getR r0).2+1)),()) ()))) .d) (.k (.inr ()))
def zIH (x:zBx) (y:Unit):=zwX x.1 x.2.1
def zTT (n:Nat) (a:yC) (i:Int):=zH (zIH) (.inl default) n (a,i,()) ()
def z8f:LL ty zBx:=za (lSl 28) (za zj zm)
def z6W (x:zBF) (y:Unit):Nat:=((x.1.length+Int.toNat x.2.1+Int.toNat x.2.2.1+1)+zdR x.1)
def z6i (x:zBx) (y:Unit):Nat:=((x.1.length+Int.toNat x.2.1+1)+zdR x.1)
def zHK:=zbZ base 65 [(108,zGE),(109,zNl)] [] [(4,(kpL [0,3])),(9,(kpL [0,3,4]))] [(4,1,[]),(4,0,(kpL [2])),(9,3,(kpL [0,3])),(9,0,(kpL [2]))] [(9,spW z8b z8a (zIt) (.inl default) z5V z6W),(4,spW z8f z8a (zIH) (.inl default) zOn z6i)] []
theorem z6n:zD zHK (lp (body f54) 1):=zq (id:=9) (hl:=rfl)
theorem z6c:zD zHK (lp (body f54) 0):=zq (id:=4) (hl:=rfl)
def zV8 (a:yC):Wy0 (Bool):=.i (decide (Int.ofNat a.length>512)) (.k false) (.bn (zH8 a) λr4=>.i (decide (r4>8)) (.k false) (.bn (zSA a) λr3=>.i (decide (r3>4096)) (.k false) (.bn (zTT ((a.length+Int.toNat 0+1)+zdR a) a 0) λr2=>.i (isL r2) (.k (getL r2)) (.k true))))
def zzS (a:yC):=(zV8 a).fin default
def zEi:=zh zWH λx=>((zzS x.1).1,zVf (zzS x.1).2)
theorem zLN:SdP 54 zEi:=
 sT (cx':=zHK) (zi ⟨zU9,z17,trivial⟩) call54 func54 (lOK (aC z6c (aC z6n aN)))
end Go.Proofs.YtljlfiomikifjaaGreatDoor
end
