/- Texts of this claim, joined (the program, its functions in plain words, and what they compute). -/
import Derived.Test.YtljlfiomikifjaaGreatDoorGC4
set_option autoImplicit false
set_option linter.unusedVariables false
set_option linter.unusedSectionVars false
set_option linter.unusedSimpArgs false
set_option maxRecDepth 1000000
set_option maxHeartbeats 0
noncomputable section
namespace Go.Proofs.YtljlfiomikifjaaGreatDoor
open Go Go.Ab
open Go.Proofs.Tryz
abbrev zkJ:=((yG×Unit)×Unit)×Unit×Unit×yA×Int×Int×Unit
abbrev zkG:=At×yA×Unit
abbrev zzS:=Int⊕(yG×At×yA)
abbrev zkO:=((yG×Unit)×Unit)×Unit×Unit×yE×Int×Int×Unit
abbrev zkQ:=At×yE×Unit
abbrev zzt:=Int⊕(At×yE)
def zJD (zT:yC->yG->Bool×(yC×Int)) (to:yG) (t24:yA) (t25:Int) (t26:Int) (x_:At) (args:yA):Wy zkJ zkG zzS:=.i (decide (t26<t25)) (.i (decide (0<=t26)&&decide (t26<Int.ofNat t24.length)) (.bn (zT (t24.getD t26.toNat default) to) λr2=>.i (r2.2 != 0) (.k (.inl (r2.2))) (.i (decide ((args.length+[r2.1].length)*24<=zP)) (.h (((to,()),()),(),(),t24,t25,(IntKind.i64.wrap (t26+1)),()) (x_,(args++[r2.1]),())) .d)) .d) (.k (.inr (to,x_,args)))
def zw5 (zT:yC->yG->Bool×(yC×Int)) (x:zkJ) (y:zkG):=zJD zT x.1.1.1 x.2.2.2.1 x.2.2.2.2.1 x.2.2.2.2.2.1 y.1 y.2.1
def zJB (zT:yC->yG->Bool×(yC×Int)) (n:Nat) (to:yG) (t24:yA) (t25:Int) (t26:Int) (x_:At) (args:yA):=zA (zw5 zT) (.inl default) n (((to,()),()),(),(),t24,t25,t26,()) (x_,args,())
def zHx (r:zzS):LTree ty:=.ite (isL r) (.done .ret [.lit (.slice none 0 0),.lit (.int .i64 (getL r))] []) (.done (.exit 0) [.fn 84 ([.bptr ([.sl 51 (getR r).1]) 0]),.ptr 432 0,.own 433] [.box (base.enc 67 (getR r).2.1) false,.arr 23 (getR r).2.2 false])
def zJh:LL ty zkJ:=za (lFn 84 (za (znk (za (lSl 51) zk) 0) zk)) (za (zeb 432 0) (za (zdK 433) (za (lSl 23) (za zj (za zj zk)))))
def zJT:BL ty zkG:=zf8 (zeR (λx=>(⟨x.1,⟨x.2.1,x.2.2.1⟩,x.2.2.2.1,x.2.2.2.2.1,x.2.2.2.2.2.1,x.2.2.2.2.2.2.1,⟨x.2.2.2.2.2.2.2.1,x.2.2.2.2.2.2.2.2.1,x.2.2.2.2.2.2.2.2.2.1⟩⟩:At)) (λx=>(x.Kind,x.Row.Table,x.Row.Seq,x.Ag,x.Func,x.Items,x.Op,x.Bd.Kind,x.Bd.Int,x.Bd.Text,())) (λ_=>rfl) (za (zB .i64) (za (zB .i64) (za (zB .i64) (za (lSl 23) (za (zB .i64) (za (lSl 100) (za (zB .i64) (za (zB .i64) (za (zB .i64) (za zl4 zk))))))))))) false (zdO 23 false (z8))
def zIb (zT:yC->yG->Bool×(yC×Int)) (to:yG) (t74:yE) (t75:Int) (t76:Int) (x_:At) (items:yE):Wy zkO zkQ zzt:=.i (decide (t76<t75)) (.i (decide (0<=t76)&&decide (t76<Int.ofNat t74.length)) (.bn (zT (t74.getD t76.toNat default).Ann to) λr4=>.i (r4.2 != 0) (.k (.inl (r4.2))) (.i (decide ((items.length+[WO.mk (t74.getD t76.toNat default).Value r4.1].length)*56<=zP)) (.h (((to,()),()),(),(),t74,t75,(IntKind.i64.wrap (t76+1)),()) (x_,(items++[WO.mk (t74.getD t76.toNat default).Value r4.1]),())) .d)) .d) (.k (.inr (x_,items)))
def zv9 (zT:yC->yG->Bool×(yC×Int)) (x:zkO) (y:zkQ):=zIb zT x.1.1.1 x.2.2.2.1 x.2.2.2.2.1 x.2.2.2.2.2.1 y.1 y.2.1
def zHM (zT:yC->yG->Bool×(yC×Int)) (n:Nat) (to:yG) (t74:yE) (t75:Int) (t76:Int) (x_:At) (items:yE):=zA (zv9 zT) (.inl default) n (((to,()),()),(),(),t74,t75,t76,()) (x_,items,())
def zGp (r:zzt):LTree ty:=.ite (isL r) (.done .ret [.lit (.slice none 0 0),.lit (.int .i64 (getL r))] []) (.done (.exit 3) [.ptr 432 0,.own 433] [.box (base.enc 67 (getR r).1) false,.arr 100 (getR r).2 false])
def zH7:LL ty zkO:=za (lFn 84 (za (znk (za (lSl 51) zk) 0) zk)) (za (zeb 432 0) (za (zdK 433) (za (lSl 100) (za zj (za zj zk)))))
def zIh:BL ty zkQ:=zf8 (zeR (λx=>(⟨x.1,⟨x.2.1,x.2.2.1⟩,x.2.2.2.1,x.2.2.2.2.1,x.2.2.2.2.2.1,x.2.2.2.2.2.2.1,⟨x.2.2.2.2.2.2.2.1,x.2.2.2.2.2.2.2.2.1,x.2.2.2.2.2.2.2.2.2.1⟩⟩:At)) (λx=>(x.Kind,x.Row.Table,x.Row.Seq,x.Ag,x.Func,x.Items,x.Op,x.Bd.Kind,x.Bd.Int,x.Bd.Text,())) (λ_=>rfl) (za (zB .i64) (za (zB .i64) (za (zB .i64) (za (lSl 23) (za (zB .i64) (za (lSl 100) (za (zB .i64) (za (zB .i64) (za (zB .i64) (za zl4 zk))))))))))) false (zdO 100 false (z8))
def zHp (x:zkJ) (y:zkG):Nat:=(x.1.1.1.length+x.2.2.2.1.length+Int.toNat x.2.2.2.2.1+Int.toNat x.2.2.2.2.2.1+y.1.Ag.length+y.1.Items.length+y.2.1.length+1)
def zGz (x:zkO) (y:zkQ):Nat:=(x.1.1.1.length+x.2.2.2.1.length+Int.toNat x.2.2.2.2.1+Int.toNat x.2.2.2.2.2.1+y.1.Ag.length+y.1.Items.length+y.2.1.length+1)
def znw (zT:yC->yG->Bool×(yC×Int)):=zbY zb5 108 [(83,(zlH zT)),(84,zhR),(177,zD8),(178,zEk),(179,zDl),(180,zGe)] [] [(5,[(1,.keep),(2,.keep),(6,.own 23),(24,.keep),(25,.keep),(26,.keep)]),(21,[(1,.keep),(2,.keep),(11,.own 100),(74,.keep),(75,.keep),(76,.keep)])] [(5,1,(kpL [1,2,6])),(5,0,(kpL [4,5])),(21,4,(kpL [2,11])),(21,0,(kpL [4,5]))] [(5,spW zJh zJT (zw5 zT) (.inl default) zHx zHp),(21,spW zH7 zIh (zv9 zT) (.inl default) zGp zGz)] []
theorem zHw (zT:yC->yG->Bool×(yC×Int)):zy (znw zT) (lp (body f150) 0):=zm (id:=5) (hl:=rfl)
theorem zGB (zT:yC->yG->Bool×(yC×Int)):zy (znw zT) (lp (body f150) 1):=zm (id:=21) (hl:=rfl)
def zKv (zT:yC->yG->Bool×(yC×Int)) (x_:At) (to:yG):Wy0 (yC×Int):=.i (x_.Kind==0) (.bn (zqW x_.Row to) λr6=>.k (r6,0)) (.bn (zJB zT (to.length+x_.Ag.length+(Int.ofNat x_.Ag.length).toNat +Int.toNat 0+x_.Ag.length+x_.Items.length+0+1) to x_.Ag (Int.ofNat x_.Ag.length) 0 (At.mk x_.Kind x_.Row x_.Ag x_.Func x_.Items x_.Op x_.Bd) []) λr12=>.i (isL r12) (.k ([],getL r12)) (.i ((getR r12).2.1.Kind==1) (.i (decide ((0:Int)<=(0:Int))&&decide (0<Int.ofNat (getR r12).2.2.length)) (.i (decide ((0:Int)<=(1:Int))&&decide (1<Int.ofNat (getR r12).2.2.length)) (.bn (zDO ((getR r12).2.2.getD (Int.toNat 0) default) ((getR r12).2.2.getD (Int.toNat 1) default)) λr7=>.k (r7.1,r7.2)) .d) .d) (.i ((getR r12).2.1.Kind==2) (.i (decide ((0:Int)<=(0:Int))&&decide (0<Int.ofNat (getR r12).2.2.length)) (.bn (zDJ ((getR r12).2.2.getD (Int.toNat 0) default)) λr8=>.k (r8.1,r8.2)) .d) (.i ((getR r12).2.1.Kind==3) (.i (decide ((0:Int)<=(0:Int))&&decide (0<Int.ofNat (getR r12).2.2.length)) (.bn (zCN ((getR r12).2.2.getD (Int.toNat 0) default)) λr9=>.k (r9.1,r9.2)) .d) (.bn (zHM zT ((getR r12).1.length+(getR r12).2.1.Items.length+(Int.ofNat (getR r12).2.1.Items.length).toNat +Int.toNat 0+(getR r12).2.1.Ag.length+(getR r12).2.1.Items.length+0+1) (getR r12).1 (getR r12).2.1.Items (Int.ofNat (getR r12).2.1.Items.length) 0 (At.mk (getR r12).2.1.Kind (getR r12).2.1.Row (getR r12).2.1.Ag (getR r12).2.1.Func (getR r12).2.1.Items (getR r12).2.1.Op (getR r12).2.1.Bd) []) λr11=>.i (isL r11) (.k ([],getL r11)) (.bn (zFm (getR r11).1.Func (getR r11).2 (getR r11).1.Op (getR r11).1.Bd) λr10=>.k (r10.1,r10.2)))))))
def zAM (zT:yC->yG->Bool×(yC×Int)) (x_:At) (to:yG):=(zKv zT x_ to).fin default
theorem zFl (zT:yC->yG->Bool×(yC×Int)) (zSF:Sound Tryz.prog zb5 83 (zlH zT)):Sound Tryz.prog zb5 150 (zly (zAM zT)):=
 sU (cx':=(znw zT)) (zi ⟨zSF,zlw.nodr,zRU.nodr,zRS.nodr,zQq.nodr,zUI.nodr,trivial⟩) call150 func150 (lOK (aC (zHw zT) (aC (zGB zT) aN))) (sg:=⟨[.own 28,.pure],[]⟩)
def zIu:Nat->(yC->yG->Bool×(yC×Int))×(At->yG->Bool×(yC×Int))
 | 0=>(λ_ _=>(false,default),λ_ _=>(false,default))
 | n+1=>(zF4 ((zIu n).2),zAM ((zIu n).1))
def zE9 (n:Nat):yC->yG->Bool×(yC×Int):=(zIu n).1
def zOC (n:Nat):At->yG->Bool×(yC×Int):=(zIu n).2
theorem zX6:∀ n,Sound Tryz.prog zb5 83 (zlH (zE9 n))/\Sound Tryz.prog zb5 150 (zly (zOC n))
 | 0=>⟨zba call83 (λ_=>rfl),zba call150 (λ_=>rfl)⟩
 | n+1=>by
  have ih:=zX6 n;exact ⟨zLa _ (ih.2),zFl _ (ih.1)⟩
def zIE:yC->yG->Bool×(yC×Int):=zE9 1000
def zCd:Ab.Spec ty:=zlH zIE
theorem zO0:Sound Tryz.prog zb5 83 zCd:=(zX6 1000).1
def zIM:=zbt base 7 [(20,zcE)]
def zKe (b:Bg):Wy0 (Bool):=.bn (zci b.To) λr0=>.k (!r0)
def zrw (b:Bg):=(zKe b).fin default
def zKX:AL base (Bg×Unit):=zc (ze (zcy 51)) zo
def zhW:=zh zKX λx=>((zrw x.1).1,zZL (zrw x.1).2)
theorem zk5:SdP 82 zhW:=
 sT (cx':=zIM) (zi ⟨zcI,trivial⟩) call82 func82 (lOK aN)
abbrev zd2:=yG×Unit×Int×Int×Unit
def zrV (s:yG) (t7:Int) (t8:Int):Wy zd2 Unit (Int⊕Unit):=.i (decide (t8<t7)) (.i (decide (0<=t8)&&decide (t8<Int.ofNat s.length)) (.bn (zrw (s.getD t8.toNat default)) λr0=>.i (r0) (.k (.inl t8)) (.h (s,(),t7,(IntKind.i64.wrap (t8+1)),()) ())) .d) (.k (.inr ()))
def ziI (x:zd2) (y:Unit):=zrV x.1 x.2.2.1 x.2.2.2.1
def zsa (n:Nat) (s:yG) (t7:Int) (t8:Int):=zA (ziI) (.inl default) n (s,(),t7,t8,()) ()
def zsh:LL ty zd2:=za (lSl 51) (za (lFn 82 (zk)) (za zj (za zj zk)))
def zrk (x:zd2) (y:Unit):Nat:=(x.1.length+Int.toNat x.2.2.1+Int.toNat x.2.2.2.1+1)
def ziH:=zbY base 19 [(82,zhW)] [] [(2,(kpL [0,1,7,8]))] [(2,1,[]),(2,0,(kpL [4]))] [(2,spW zsh zbc9 (ziI) (.inl default) zsU zrk)] []
theorem zq0:zy ziH (lp (body f85) 0):=zm (id:=2) (hl:=rfl)
def zsH (s:yG):Wy0 (Int):=.bn (zsa (s.length+(Int.ofNat s.length).toNat +Int.toNat 0+1) s (Int.ofNat s.length) 0) λr2=>.i (isL r2) (.k (getL r2)) (.k (-1:Int))
def zfe (s:yG):=(zsH s).fin default
def zst:AL base (yG×Unit×Unit):=zc (ze (vSl 51)) (zc (ze (vFn 82 zb4)) zo)
def zhL:=zh zst λx=>((zfe x.1).1,zRZ (zfe x.1).2)
theorem zpp:SdP 85 zhL:=
 sT (cx':=ziH) (zi ⟨zk5,trivial⟩) call85 func85 (lOK (aC zq0 aN))
def zpV:=zbt base 9 [(82,zhW),(85,zhL)]
def zqD (s:yG):Wy0 (Bool):=.bn (zfe s) λr0=>.k (decide (r0≥0))
def zeO (s:yG):=(zqD s).fin default
def zgI:=zh zst λx=>((zeO x.1).1,zZL (zeO x.1).2)
theorem znH:SdP 81 zgI:=
 sT (cx':=zpV) (zi ⟨zk5,zpp,trivial⟩) call81 func81 (lOK aN)
def zNq:=zbt zb5 18 [(20,zcE),(81,zgI),(82,zhW),(83,zCd),(84,zhR)]
def zPR (a:yC) (l:yG):Wy0 (yC×Int):=.bn (zci a) λr2=>.i (!r2) (.k ([],1)) (.bn (zeO l) λr1=>.i (r1) (.k ([],1)) (.bn (zIE a l) λr0=>.k (r0.1,r0.2)))
def zvK (a:yC) (l:yG):=(zPR a l).fin default
def zP6:AL zb5 (yC×yG×Unit):=zc (ze (vSl 28)) (zc (ze (vSl 51)) zo)
def zyh:=zh zP6 λx=>((zvK x.1 x.2.1).1,zRC (zvK x.1 x.2.1).2)
theorem zJt:Sound Tryz.prog zb5 29 zyh:=
 sU (cx':=zNq) (zi ⟨zcI.nodr,znH.nodr,zk5.nodr,zO0,zlw.nodr,trivial⟩) call29 func29 (lOK aN) (sg:=⟨[.own 28,.pure],[]⟩)
def zVQ:=zbt zb5 11 [(29,zyh)]
def zZd (a:yC):Wy0 (yC):=.bn (zvK a []) λr0=>.k r0.1
def zCF (a:yC):=(zZd a).fin default
def zC7:=zh z43 λx=>((zCF x.1).1,zSt (zCF x.1).2)
theorem zPI:Sound Tryz.prog zb5 68 zC7:=
 sU (cx':=zVQ) (zi ⟨zJt,trivial⟩) call68 func68 (lOK aN) (sg:=⟨[.own 28],[]⟩)
def zNe:=zbt base 8 []
def zO7 (x_:At):Wy0 (yC):=.k [TO.mk 1 [FO.mk (At.mk x_.Kind x_.Row x_.Ag x_.Func x_.Items x_.Op x_.Bd) 1]]
def zm0 (x_:At):=(zO7 x_).fin default
def zwZ:=zh zC1 λx=>((zm0 x.1).1,zSt (zm0 x.1).2)
theorem zHW:SdP 104 zwZ:=
 sT (cx':=zNe) (zi trivial) call104 func104 (lOK aN) (sg:=⟨[.own 28],[]⟩)
def zR4:=zbt base 13 [(21,zn0),(104,zwZ)]
def zT7 (x_:At) (y_:At):Wy0 (Bool):=.bn (zih (zm0 (At.mk x_.Kind x_.Row x_.Ag x_.Func x_.Items x_.Op x_.Bd)).2 (zm0 (At.mk y_.Kind y_.Row y_.Ag y_.Func y_.Items y_.Op y_.Bd)).2) λr0=>.k r0
def zzd (x_:At) (y_:At):=(zT7 x_ y_).fin default
def zAK:=zh zL9 λx=>((zzd x.1 x.2.1).1,zZL (zzd x.1 x.2.1).2)
theorem zMt:SdP 52 zAK:=
 sT (cx':=zR4) (zi ⟨zut,zHW,trivial⟩) call52 func52 (lOK aN)
def zIV:=zbt base 16 [(52,zAK)]
def zKl (g:Fc) (p1:Fc):Wy0 (Bool):=.i (decide (p1.Exp<=g.Exp)) (.bn (zzd (At.mk p1.At.Kind p1.At.Row p1.At.Ag p1.At.Func p1.At.Items p1.At.Op p1.At.Bd) (At.mk g.At.Kind g.At.Row g.At.Ag g.At.Func g.At.Items g.At.Op g.At.Bd)) λr0=>.k r0) (.k false)
def zqP (g:Fc) (p1:Fc):=(zKl g p1).fin default
def zKU:AL base (Fc×Fc×Unit):=zc (ze (zcy 69)) (zc (ze (zzR 69)) zo)
def zhS:=zh zKU λx=>((zqP x.1 x.2.1).1,zZL (zqP x.1 x.2.1).2)
theorem zlE:SdP 51 zhS:=
 sT (cx':=zIV) (zi ⟨zMt,trivial⟩) call51 func51 (lOK aN)
abbrev zes:=yD×(Fc×Unit)×Int×Int×Unit
def ztS (s:yD) (f:Fc) (t7:Int) (t8:Int):Wy zes Unit (Int⊕Unit):=.i (decide (t8<t7)) (.i (decide (0<=t8)&&decide (t8<Int.ofNat s.length)) (.bn (zqP (FO.mk (At.mk (s.getD t8.toNat default).At.Kind (s.getD t8.toNat default).At.Row (s.getD t8.toNat default).At.Ag (s.getD t8.toNat default).At.Func (s.getD t8.toNat default).At.Items (s.getD t8.toNat default).At.Op (s.getD t8.toNat default).At.Bd) (s.getD t8.toNat default).Exp) (FO.mk (At.mk f.At.Kind f.At.Row f.At.Ag f.At.Func f.At.Items f.At.Op f.At.Bd) f.Exp)) λr0=>.i (r0) (.k (.inl t8)) (.h (s,(f,()),t7,(IntKind.i64.wrap (t8+1)),()) ())) .d) (.k (.inr ()))
def zjJ (x:zes) (y:Unit):=ztS x.1 x.2.1.1 x.2.2.1 x.2.2.2.1
def zts (n:Nat) (s:yD) (f:Fc) (t7:Int) (t8:Int):=zA (zjJ) (.inl default) n (s,(f,()),t7,t8,()) ()
def ztH:LL ty zes:=za (lSl 69) (za (lFn 51 (za (znk (zeR (λx=>(⟨⟨x.1,⟨x.2.1,x.2.2.1⟩,x.2.2.2.1,x.2.2.2.2.1,x.2.2.2.2.2.1,x.2.2.2.2.2.2.1,⟨x.2.2.2.2.2.2.2.1,x.2.2.2.2.2.2.2.2.1,x.2.2.2.2.2.2.2.2.2.1⟩⟩,x.2.2.2.2.2.2.2.2.2.2.1⟩:Fc)) (λx=>(x.At.Kind,x.At.Row.Table,x.At.Row.Seq,x.At.Ag,x.At.Func,x.At.Items,x.At.Op,x.At.Bd.Kind,x.At.Bd.Int,x.At.Bd.Text,x.Exp,())) (λ_=>rfl) (za zj (za zj (za zj (za (lSl 23) (za zj (za (lSl 100) (za zj (za zj (za zj (za zl4 (za zj zk)))))))))))) 0) zk)) (za zj (za zj zk)))
def zsp (x:zes) (y:Unit):Nat:=(x.1.length+x.2.1.1.At.Ag.length+x.2.1.1.At.Items.length+Int.toNat x.2.2.1+Int.toNat x.2.2.2.1+1000)
def zjE:=zbY base 19 [(51,zhS)] [] [(2,(kpL [0,1,7,8]))] [(2,1,[]),(2,0,(kpL [4]))] [(2,spW ztH zbc9 (zjJ) (.inl default) zsU zsp)] []
theorem zsK:zy zjE (lp (body f103) 0):=zm (id:=2) (hl:=rfl)
def zuP (s:yD) (f:Fc):Wy0 (Int):=.bn (zts (s.length+f.At.Ag.length+f.At.Items.length+(Int.ofNat s.length).toNat +Int.toNat 0+1000) s (FO.mk (At.mk f.At.Kind f.At.Row f.At.Ag f.At.Func f.At.Items f.At.Op f.At.Bd) f.Exp) (Int.ofNat s.length) 0) λr2=>.i (isL r2) (.k (getL r2)) (.k (-1:Int))
def zfR (s:yD) (f:Fc):=(zuP s f).fin default
def zuv:AL base (yD×(Fc×Unit)×Unit):=zc (ze (vSl 69)) (zc (ze (vFn 51 (zdz (zzR 69) zb4))) zo)
def ziz:=zh zuv λx=>((zfR x.1 x.2.1.1).1,zRZ (zfR x.1 x.2.1.1).2)
theorem zq2:SdP 103 ziz:=
 sT (cx':=zjE) (zi ⟨zlE,trivial⟩) call103 func103 (lOK (aC zsK aN))
def zrp:=zbt base 9 [(51,zhS),(103,ziz)]
def zsn (s:yD) (f:Fc):Wy0 (Bool):=.bn (zfR s (FO.mk (At.mk f.At.Kind f.At.Row f.At.Ag f.At.Func f.At.Items f.At.Op f.At.Bd) f.Exp)) λr0=>.k (decide (r0≥0))
def zeZ (s:yD) (f:Fc):=(zsn s f).fin default
def zhy:=zh zuv λx=>((zeZ x.1 x.2.1.1).1,zZL (zeZ x.1 x.2.1.1).2)
theorem zoQ:SdP 49 zhy:=
 sT (cx':=zrp) (zi ⟨zlE,zq2,trivial⟩) call49 func49 (lOK aN)
def zPq:=zbt base 9 [(49,zhy),(51,zhS)]
def zP1 (f:Fc) (p1:Term):Wy0 (Bool):=.bn (zeZ p1.Fs (FO.mk (At.mk f.At.Kind f.At.Row f.At.Ag f.At.Func f.At.Items f.At.Op f.At.Bd) f.Exp)) λr0=>.k (!r0)
def zvG (f:Fc) (p1:Term):=(zP1 f p1).fin default
def zPE:AL base (Fc×Term×Unit):=zc (ze (zcy 69)) (zc (ze (zzR 28)) zo)
def zj7:=zh zPE λx=>((zvG x.1 x.2.1).1,zZL (zvG x.1 x.2.1).2)
theorem znB:SdP 50 zj7:=
 sT (cx':=zPq) (zi ⟨zoQ,zlE,trivial⟩) call50 func50 (lOK aN)
abbrev zeE:=yD×(Term×Unit)×Int×Int×Unit
def zuW (s:yD) (f:Term) (t7:Int) (t8:Int):Wy zeE Unit (Int⊕Unit):=.i (decide (t8<t7)) (.i (decide (0<=t8)&&decide (t8<Int.ofNat s.length)) (.bn (zvG (FO.mk (At.mk (s.getD t8.toNat default).At.Kind (s.getD t8.toNat default).At.Row (s.getD t8.toNat default).At.Ag (s.getD t8.toNat default).At.Func (s.getD t8.toNat default).At.Items (s.getD t8.toNat default).At.Op (s.getD t8.toNat default).At.Bd) (s.getD t8.toNat default).Exp) f) λr0=>.i (r0) (.k (.inl t8)) (.h (s,(f,()),t7,(IntKind.i64.wrap (t8+1)),()) ())) .d) (.k (.inr ()))
def zjQ (x:zeE) (y:Unit):=zuW x.1 x.2.1.1 x.2.2.1 x.2.2.2.1
def zuG (n:Nat) (s:yD) (f:Term) (t7:Int) (t8:Int):=zA (zjQ) (.inl default) n (s,(f,()),t7,t8,()) ()
def zuz:LL ty zeE:=za (lSl 69) (za (lFn 50 (za (znk (zeR (λx=>(⟨x.1,x.2.1⟩:Term)) (λx=>(x.Cf,x.Fs,())) (λ_=>rfl) (za zj (za (lSl 69) zk))) 0) zk)) (za zj (za zj zk)))
def ztr (x:zeE) (y:Unit):Nat:=(x.1.length+x.2.1.1.Fs.length+Int.toNat x.2.2.1+Int.toNat x.2.2.2.1+1000)
def zjY:=zbY base 19 [(50,zj7)] [] [(2,(kpL [0,1,7,8]))] [(2,1,[]),(2,0,(kpL [4]))] [(2,spW zuz zbc9 (zjQ) (.inl default) zsU ztr)] []
theorem zuf:zy zjY (lp (body f103) 0):=zm (id:=2) (hl:=rfl)
def zva (s:yD) (f:Term):Wy0 (Int):=.bn (zuG (s.length+f.Fs.length+(Int.ofNat s.length).toNat +Int.toNat 0+1000) s f (Int.ofNat s.length) 0) λr2=>.i (isL r2) (.k (getL r2)) (.k (-1:Int))
def zgb (s:yD) (f:Term):=(zva s f).fin default
def zu7:AL base (yD×(Term×Unit)×Unit):=zc (ze (vSl 69)) (zc (ze (vFn 50 (zdz (zzR 28) zb4))) zo)
def zi6:=zh zu7 λx=>((zgb x.1 x.2.1.1).1,zRZ (zgb x.1 x.2.1.1).2)
theorem zrX:SdP 103 zi6:=
 sT (cx':=zjY) (zi ⟨znB,trivial⟩) call103 func103 (lOK (aC zuf aN))
def zrR:=zbt base 9 [(50,zj7),(103,zi6)]
def zsr (s:yD) (f:Term):Wy0 (Bool):=.bn (zgb s f) λr0=>.k (decide (r0≥0))
def zfj (s:yD) (f:Term):=(zsr s f).fin default
def zhF:=zh zu7 λx=>((zfj x.1 x.2.1.1).1,zZL (zfj x.1 x.2.1.1).2)
theorem zpc:SdP 49 zhF:=
 sT (cx':=zrR) (zi ⟨znB,zrX,trivial⟩) call49 func49 (lOK aN)
def zUc:=zbt base 10 [(49,zhF),(50,zj7)]
def zWc (a:Term) (b:Term):Wy0 (Bool):=.bn (zfj a.Fs b) λr0=>.k (!r0)
def zkm (a:Term) (b:Term):=(zWc a b).fin default
def zma:=zh zPJ λx=>((zkm x.1 x.2.1).1,zZL (zkm x.1 x.2.1).2)
theorem zq8:SdP 14 zma:=
 sT (cx':=zUc) (zi ⟨zpc,znB,trivial⟩) call14 func14 (lOK aN)
abbrev zoa:=yC×Unit×Int×Unit×yC×Int×Int×yC×Int×Int×Unit
abbrev zn1:=yC×Term×Unit
abbrev zEP:=(yC×yC×Int×Int×yC)⊕(yC×yC×Int×Int×yC×Term)
abbrev znS:=yC×Unit×yC×Int×Int×Unit
abbrev zko:=yC×Unit
def zTK (a:yC) (i:Int) (t8:yC) (t9:Int) (t10:Int) (t15:yC) (t16:Int) (t17:Int) (out_:yC) (t:Term):Wy zoa zn1 zEP:=.i (decide (t17<t16)) (.i (decide (0<=t17)&&decide (t17<Int.ofNat t15.length)) (.i (t17 != i) (.bn (zkm (t15.getD t17.toNat default) t) λr5=>.i (r5) (.bn (zkm t (t15.getD t17.toNat default)) λr4=>.i (!r4) (.k (.inl (a,t8,t9,t10,out_))) (.i (decide (t17<i)) (.k (.inl (a,t8,t9,t10,out_))) (.h (a,(),i,(),t8,t9,t10,t15,t16,(IntKind.i64.wrap (t17+1)),()) (out_,t,())))) (.h (a,(),i,(),t8,t9,t10,t15,t16,(IntKind.i64.wrap (t17+1)),()) (out_,t,()))) (.h (a,(),i,(),t8,t9,t10,t15,t16,(IntKind.i64.wrap (t17+1)),()) (out_,t,()))) .d) (.k (.inr (a,t8,t9,t10,out_,t)))
def zEQ (x:zoa) (y:zn1):=zTK x.1 x.2.2.1 x.2.2.2.2.1 x.2.2.2.2.2.1 x.2.2.2.2.2.2.1 x.2.2.2.2.2.2.2.1 x.2.2.2.2.2.2.2.2.1 x.2.2.2.2.2.2.2.2.2.1 y.1 y.2.1
def zTw (n:Nat) (a:yC) (i:Int) (t8:yC) (t9:Int) (t10:Int) (t15:yC) (t16:Int) (t17:Int) (out_:yC) (t:Term):=zA (zEQ) (.inl default) n (a,(),i,(),t8,t9,t10,t15,t16,t17,()) (out_,t,())
def zSb (r:zEP):LTree ty:=.ite (isL r) (.done (.exit 1) [.sl 28 ((getL r).1),.own 196,.sl 28 ((getL r).2.1),.lit (.int .i64 ((getL r).2.2.1)),.lit (.int .i64 ((getL r).2.2.2.1))] [.arr 28 ((getL r).2.2.2.2) false]) (.done (.exit 2) [.sl 28 (getR r).1,.own 196,.ptr 197 0,.sl 28 (getR r).2.1,.lit (.int .i64 (getR r).2.2.1),.lit (.int .i64 (getR r).2.2.2.1)] [.arr 28 (getR r).2.2.2.2.1 false,.box (base.enc 28 (getR r).2.2.2.2.2) false])
def zUR:LL ty zoa:=za (lSl 28) (za (zdK 196) (za zj (za (zeb 197 0) (za (lSl 28) (za zj (za zj (za (lSl 28) (za zj (za zj zk)))))))))
def zTP:BL ty zn1:=zdO 28 false (zf8 (zeR (λx=>(⟨x.1,x.2.1⟩:Term)) (λx=>(x.Cf,x.Fs,())) (λ_=>rfl) (za (zB .i64) (za (lSl 69) zk))) false (z8))
def zTf (a:yC) (t8:yC) (t9:Int) (t10:Int) (out_:yC):Wy znS zko (yC):=.i (decide (t10<t9)) (.i (decide (0<=t10)&&decide (t10<Int.ofNat t8.length)) (.bn (zTw (a.length+t10.toNat +t8.length+t9.toNat +t10.toNat +a.length+(Int.ofNat a.length).toNat +Int.toNat 0+out_.length+(t8.getD t10.toNat default).Fs.length+1000) a t10 t8 t9 t10 a (Int.ofNat a.length) 0 out_ (t8.getD t10.toNat default)) λr8=>.i (isL r8) (.h (((getL r8).1),(),((getL r8).2.1),((getL r8).2.2.1),(IntKind.i64.wrap ((getL r8).2.2.2.1+1)),()) (((getL r8).2.2.2.2),())) (.i (decide (((getR r8).2.2.2.2.1.length+[TO.mk 1 (getR r8).2.2.2.2.2.Fs].length)*32<=zP)) (.h ((getR r8).1,(),(getR r8).2.1,(getR r8).2.2.1,(IntKind.i64.wrap ((getR r8).2.2.2.1+1)),()) (((getR r8).2.2.2.2.1++[TO.mk 1 (getR r8).2.2.2.2.2.Fs]),())) .d)) .d) (.k out_)
def zEC (x:znS) (y:zko):=zTf x.1 x.2.2.1 x.2.2.2.1 x.2.2.2.2.1 y.1
def zUY (n:Nat) (a:yC) (t8:yC) (t9:Int) (t10:Int) (out_:yC):=zA (zEC) default n (a,(),t8,t9,t10,()) (out_,())
def zSY (r:yC):LTree ty:=.done (.exit 0) [.own 196] [.arr 28 r false]
def zS4:LL ty znS:=za (lSl 28) (za (zdK 196) (za (lSl 28) (za zj (za zj zk))))
def zU1:BL ty zko:=zdO 28 false (z8)
def zR1 (x:zoa) (y:zn1):Nat:=(x.1.length+Int.toNat x.2.2.1+x.2.2.2.2.1.length+Int.toNat x.2.2.2.2.2.1+Int.toNat x.2.2.2.2.2.2.1+x.2.2.2.2.2.2.2.1.length+Int.toNat x.2.2.2.2.2.2.2.2.1+Int.toNat x.2.2.2.2.2.2.2.2.2.1+y.1.length+y.2.1.Fs.length+1000)
def zSl (x:znS) (y:zko):Nat:=(x.1.length+x.2.2.1.length+Int.toNat x.2.2.2.1+Int.toNat x.2.2.2.2.1+y.1.length+1000)
def zwl:=zbY base 49 [(14,zma)] [] [(3,[(0,.keep),(3,.own 28),(8,.keep),(9,.keep),(10,.keep)]),(6,(kpL [0,3,4,5,8,9,10,15,16,17]))] [(3,1,(kpL [3])),(6,3,(kpL [0,3,5,8,9,10])),(6,2,(kpL [0,3,8,9,10]))] [(6,spW zUR zTP (zEQ) (.inl default) zSb zR1),(3,spW zS4 zU1 (zEC) default zSY zSl)] []
theorem zSH:zy zwl (lp (body f69) 1):=zm (id:=6) (hl:=rfl)
theorem zRu:zy zwl (lp (body f69) 0):=zm (id:=3) (hl:=rfl)
def zW8 (a:yC):Wy0 (yC):=.bn (zUY (a.length+a.length+(Int.ofNat a.length).toNat +Int.toNat 0+0+1000) a a (Int.ofNat a.length) 0 []) λr10=>.k r10
def zAm (a:yC):=(zW8 a).fin default
def zXC:AL base zko:=zc (ze (vSl 28)) zo
def zCh:=zh zXC λx=>((zAm x.1).1,zSt (zAm x.1).2)
theorem zOl:SdP 69 zCh:=
 sT (cx':=zwl) (zi ⟨zq8,trivial⟩) call69 func69 (lOK (aC zRu (aC zSH aN))) (sg:=⟨[.own 28],[]⟩)
def zWj:=zbt zb5 9 [(20,zcE),(68,zC7),(69,zCh)]
def zZX (a:yC):Wy0 (yC):=.bn (zci a) λr2=>.i (!r2) (.k []) (.bn (zAm a) λr1=>.bn (zCF r1) λr0=>.k r0)
def zCr (a:yC):=(zZX a).fin default
def zDf:=zh z43 λx=>((zCr x.1).1,zSt (zCr x.1).2)
theorem zP8:Sound Tryz.prog zb5 22 zDf:=
 sU (cx':=zWj) (zi ⟨zcI.nodr,zPI,zOl.nodr,trivial⟩) call22 func22 (lOK aN) (sg:=⟨[.own 28],[]⟩)
def zK7:=zbt base 7 [(14,zma)]
def zMi (u:Term) (p1:Term):Wy0 (Bool):=.bn (zkm u p1) λr0=>.k r0
def zs5 (u:Term) (p1:Term):=(zMi u p1).fin default
def zMz:AL base (Term×Term×Unit):=zc (ze (zcy 28)) (zc (ze (zzR 28)) zo)
def ziQ:=zh zMz λx=>((zs5 x.1 x.2.1).1,zZL (zs5 x.1 x.2.1).2)
theorem zl5:SdP 61 ziQ:=
 sT (cx':=zK7) (zi ⟨zq8,trivial⟩) call61 func61 (lOK aN)
abbrev zee:=yC×(Term×Unit)×Int×Int×Unit
def zs1 (s:yC) (f:Term) (t7:Int) (t8:Int):Wy zee Unit (Int⊕Unit):=.i (decide (t8<t7)) (.i (decide (0<=t8)&&decide (t8<Int.ofNat s.length)) (.bn (zs5 (s.getD t8.toNat default) f) λr0=>.i (r0) (.k (.inl t8)) (.h (s,(f,()),t7,(IntKind.i64.wrap (t8+1)),()) ())) .d) (.k (.inr ()))
def zi9 (x:zee) (y:Unit):=zs1 x.1 x.2.1.1 x.2.2.1 x.2.2.2.1
def zsS (n:Nat) (s:yC) (f:Term) (t7:Int) (t8:Int):=zA (zi9) (.inl default) n (s,(f,()),t7,t8,()) ()
def zs8:LL ty zee:=za (lSl 28) (za (lFn 61 (za (znk (zeR (λx=>(⟨x.1,x.2.1⟩:Term)) (λx=>(x.Cf,x.Fs,())) (λ_=>rfl) (za zj (za (lSl 69) zk))) 0) zk)) (za zj (za zj zk)))
def zrO (x:zee) (y:Unit):Nat:=(x.1.length+x.2.1.1.Fs.length+Int.toNat x.2.2.1+Int.toNat x.2.2.2.1+1000)
def zjl:=zbY base 19 [(61,ziQ)] [] [(2,(kpL [0,1,7,8]))] [(2,1,[]),(2,0,(kpL [4]))] [(2,spW zs8 zbc9 (zi9) (.inl default) zsU zrO)] []
theorem zrS:zy zjl (lp (body f113) 0):=zm (id:=2) (hl:=rfl)
def ztL (s:yC) (f:Term):Wy0 (Int):=.bn (zsS (s.length+f.Fs.length+(Int.ofNat s.length).toNat +Int.toNat 0+1000) s f (Int.ofNat s.length) 0) λr2=>.i (isL r2) (.k (getL r2)) (.k (-1:Int))
def zfB (s:yC) (f:Term):=(ztL s f).fin default
def zul:AL base (yC×(Term×Unit)×Unit):=zc (ze (vSl 28)) (zc (ze (vFn 61 (zdz (zzR 28) zb4))) zo)
def zin:=zh zul λx=>((zfB x.1 x.2.1.1).1,zRZ (zfB x.1 x.2.1.1).2)
theorem zqw:SdP 113 zin:=
 sT (cx':=zjl) (zi ⟨zl5,trivial⟩) call113 func113 (lOK (aC zrS aN))
def zqh:=zbt base 9 [(61,ziQ),(113,zin)]
def zrf (s:yC) (f:Term):Wy0 (Bool):=.bn (zfB s f) λr0=>.k (decide (r0≥0))
def zeT (s:yC) (f:Term):=(zrf s f).fin default
def zg9:=zh zul λx=>((zeT x.1 x.2.1.1).1,zZL (zeT x.1 x.2.1.1).2)
theorem zoq:SdP 59 zg9:=
 sT (cx':=zqh) (zi ⟨zl5,zqw,trivial⟩) call59 func59 (lOK aN)
def zQn:=zbt base 8 [(59,zg9),(61,ziQ)]
def zRD (t:Term) (p1:yC):Wy0 (Bool):=.bn (zeT p1 t) λr0=>.k (!r0)
def zxl (t:Term) (p1:yC):=(zRD t p1).fin default
def zSI:AL base (Term×(yC×Unit)×Unit):=zc (ze (zcy 28)) (zc (ze (zuA (zdz (vSl 28) zb4))) zo)
def zkL:=zh zSI λx=>((zxl x.1 x.2.1.1).1,zZL (zxl x.1 x.2.1.1).2)
theorem zor:SdP 60 zkL:=
 sT (cx':=zQn) (zi ⟨zoq,zl5,trivial⟩) call60 func60 (lOK aN)
abbrev zep:=yC×((yC×Unit)×Unit)×Int×Int×Unit
def ztp (s:yC) (f:yC) (t7:Int) (t8:Int):Wy zep Unit (Int⊕Unit):=.i (decide (t8<t7)) (.i (decide (0<=t8)&&decide (t8<Int.ofNat s.length)) (.bn (zxl (s.getD t8.toNat default) f) λr0=>.i (r0) (.k (.inl t8)) (.h (s,((f,()),()),t7,(IntKind.i64.wrap (t8+1)),()) ())) .d) (.k (.inr ()))
def zjG (x:zep) (y:Unit):=ztp x.1 x.2.1.1.1 x.2.2.1 x.2.2.2.1
def zt2 (n:Nat) (s:yC) (f:yC) (t7:Int) (t8:Int):=zA (zjG) (.inl default) n (s,((f,()),()),t7,t8,()) ()
def zt6:LL ty zep:=za (lSl 28) (za (lFn 60 (za (znk (za (lSl 28) zk) 0) zk)) (za zj (za zj zk)))
def zs3 (x:zep) (y:Unit):Nat:=(x.1.length+x.2.1.1.1.length+Int.toNat x.2.2.1+Int.toNat x.2.2.2.1+1000)
def zjF:=zbY base 19 [(60,zkL)] [] [(2,(kpL [0,1,7,8]))] [(2,1,[]),(2,0,(kpL [4]))] [(2,spW zt6 zbc9 (zjG) (.inl default) zsU zs3)] []
theorem zsz:zy zjF (lp (body f113) 0):=zm (id:=2) (hl:=rfl)
def zuF (s:yC) (f:yC):Wy0 (Int):=.bn (zt2 (s.length+f.length+(Int.ofNat s.length).toNat +Int.toNat 0+1000) s f (Int.ofNat s.length) 0) λr2=>.i (isL r2) (.k (getL r2)) (.k (-1:Int))
def zf0 (s:yC) (f:yC):=(zuF s f).fin default
def zuR:AL base (yC×((yC×Unit)×Unit)×Unit):=zc (ze (vSl 28)) (zc (ze (vFn 60 (zdz (zuA (zdz (vSl 28) zb4)) zb4))) zo)
def ziD:=zh zuR λx=>((zf0 x.1 x.2.1.1.1).1,zRZ (zf0 x.1 x.2.1.1.1).2)
theorem zqX:SdP 113 ziD:=
 sT (cx':=zjF) (zi ⟨zor,trivial⟩) call113 func113 (lOK (aC zsz aN))
def zq9:=zbt base 9 [(60,zkL),(113,ziD)]
def zrN (s:yC) (f:yC):Wy0 (Bool):=.bn (zf0 s f) λr0=>.k (decide (r0≥0))
def ze5 (s:yC) (f:yC):=(zrN s f).fin default
def zhv:=zh zuR λx=>((ze5 x.1 x.2.1.1.1).1,zZL (ze5 x.1 x.2.1.1.1).2)
theorem zoV:SdP 59 zhv:=
 sT (cx':=zq9) (zi ⟨zor,zqX,trivial⟩) call59 func59 (lOK aN)
def zVu:=zbt base 17 [(20,zcE),(59,zhv),(60,zkL)]
def zZV (a:yC) (b:yC):Wy0 (Bool):=.bn (zci a) λr2=>.i (!r2) (.k false) (.bn (zci b) λr1=>.i (!r1) (.k false) (.bn (ze5 a b) λr0=>.k (!r0)))
def zCP (a:yC) (b:yC):=(zZV a b).fin default
def zDe:=zh zWi λx=>((zCP x.1 x.2.1).1,zZL (zCP x.1 x.2.1).2)
theorem zPO:SdP 18 zDe:=
 sT (cx':=zVu) (zi ⟨zcI,zoV,zor,trivial⟩) call18 func18 (lOK aN)
def zbd0:=zbt base 8 []
def z0s (x_:At):Wy0 (yC):=.k [TO.mk 1 [FO.mk (At.mk x_.Kind x_.Row x_.Ag x_.Func x_.Items x_.Op x_.Bd) 1]]
def zmS (x_:At):=(z0s x_).fin default
def zoe:=zh zC1 λx=>((zmS x.1).1,zSt (zmS x.1).2)
theorem zrB:SdP 102 zoe:=
 sT (cx':=zbd0) (zi trivial) call102 func102 (lOK aN) (sg:=⟨[.own 28],[]⟩)
def zbfj:=zbt base 14 [(102,zoe)]
def z5T (id:RowID):Wy0 (yC):=.i (decide (id.Table<1)) (.k []) (.i (decide (id.Seq<1)) (.k []) (.k ((zmS (At.mk 0 id [] 0 [] 0 (Value.mk 0 0 (ByteArray.mk #[])))).2)))
def zEi (id:RowID):=(z5T id).fin default
def zHj:=zh zbaA λx=>((zEi x.1).1,zSt (zEi x.1).2)
theorem zRg:SdP 98 zHj:=
 sT (cx':=zbfj) (zi ⟨zrB,trivial⟩) call98 func98 (lOK aN) (sg:=⟨[.own 28],[]⟩)
def z4I:=zbt base 6 [(98,zHj)]
def z7g (seq:Int):Wy0 (yC):=.bn (zEi (RowID.mk 1 seq)) λr0=>.k r0
def zTv (seq:Int):=(z7g seq).fin default
def zGT:=zh z4Y λx=>((zTv x.1).1,zSt (zTv x.1).2)
theorem zWY:SdP 44 zGT:=
 sT (cx':=z4I) (zi ⟨zRg,trivial⟩) call44 func44 (lOK aN) (sg:=⟨[.own 28],[]⟩)
def zba6:=zbt base 9 []
def zYq (n_:Int):Wy0 (yC):=.i (decide (n_<1)) (.k []) (.k [TO.mk (if 1152921504606846976<n_ then 1152921504606846976 else n_) []])
def zDa (n_:Int):=(zYq n_).fin default
def zD0:=zh z4Y λx=>((zDa x.1).1,zSt (zDa x.1).2)
theorem zLZ:SdP 46 zD0:=
 sT (cx':=zba6) (zi trivial) call46 func46 (lOK aN) (sg:=⟨[.own 28],[]⟩)
end Go.Proofs.YtljlfiomikifjaaGreatDoor
/- What lies inside lists of terms and factors: fuel for loops. -/
namespace Go.Proofs.YtljlfiomikifjaaGreatDoor
open Go.Proofs.Tryz
def zKS:yD->Nat
 | []=>0
 | f::r=>f.Exp.toNat +f.At.Ag.length+f.At.Items.length+1+zKS r
def zbD:yC->Nat
 | []=>0
 | t::r=>zKS t.Fs+1+zbD r
end Go.Proofs.YtljlfiomikifjaaGreatDoor
namespace Go.Proofs.YtljlfiomikifjaaGreatDoor
open Go Go.Ab
open Go.Proofs.Tryz
def zjP (F:yD->yD->Bool×Int):Ab.Spec ty:=zh z4d λx=>((F x.1 x.2.1).1,zRZ (F x.1 x.2.1).2)
def zV7:AL base (yE×yE×Unit):=zc (ze (vSl 100)) (zc (ze (vSl 100)) zo)
def zln (F:yE->yE->Bool×Int):Ab.Spec ty:=zh zV7 λx=>((F x.1 x.2.1).1,zRZ (F x.1 x.2.1).2)
def zbac:=zbt base 11 []
def zUU (a:Int) (b:Int):Wy0 (Int):=.i (decide (a<b)) (.k (-1:Int)) (.i (decide (a>b)) (.k 1) (.k 0))
def zcZ (a:Int) (b:Int):=(zUU a b).fin default
def zjp:=zh zYS λx=>((zcZ x.1 x.2.1).1,zRZ (zcZ x.1 x.2.1).2)
theorem zku:SdP 91 zjp:=
 sT (cx':=zbac) (zi trivial) call91 func91 (lOK aN)
abbrev zxB:=yC×yC×Int×Unit
abbrev zOu:=Int⊕(yC×yC)
def z0L (zbr:yD->yD->Bool×Int) (a:yC) (b:yC) (i:Int):Wy zxB Unit zOu:=.i (decide (i<Int.ofNat a.length)) (.i (decide (i<Int.ofNat b.length)) (.i (decide (0<=i)&&decide (i<Int.ofNat a.length)) (.i (decide (0<=i)&&decide (i<Int.ofNat b.length)) (.bn (zbr (a.getD i.toNat default).Fs (b.getD i.toNat default).Fs) λr1=>.i (r1 != 0) (.k (.inl (r1))) (.i (decide (0<=i)&&decide (i<Int.ofNat a.length)) (.i (decide (0<=i)&&decide (i<Int.ofNat b.length)) (.bn (zcZ (a.getD i.toNat default).Cf (b.getD i.toNat default).Cf) λr0=>.i (r0 != 0) (.k (.inl (r0))) (.h (a,b,(IntKind.i64.wrap (i+1)),()) ())) .d) .d)) .d) .d) (.k (.inr (a,b)))) (.k (.inr (a,b)))
def zI9 (zbr:yD->yD->Bool×Int) (x:zxB) (y:Unit):=z0L zbr x.1 x.2.1 x.2.2.1
def z0X (zbr:yD->yD->Bool×Int) (n:Nat) (a:yC) (b:yC) (i:Int):=zA (zI9 zbr) (.inl default) n (a,b,i,()) ()
def zYG (r:zOu):LTree ty:=.ite (isL r) (.done .ret [.lit (.int .i64 (getL r))] []) (.done (.exit 0) [.sl 28 (getR r).1,.sl 28 (getR r).2] [])
def z0p:LL ty zxB:=za (lSl 28) (za (lSl 28) (za zj zk))
def zZO (x:zxB) (y:Unit):Nat:=(x.1.length+x.2.1.length+Int.toNat x.2.2.1+1)
def zJJ (zbr:yD->yD->Bool×Int):=zbY base 53 [(34,(zjP zbr)),(91,zjp)] [] [(2,(kpL [0,1,5]))] [(2,1,(kpL [0,1])),(2,0,(kpL [4]))] [(2,spW z0p zbc9 (zI9 zbr) (.inl default) zYG zZO)] []
theorem zYw (zbr:yD->yD->Bool×Int):zy (zJJ zbr) (lp (body f89) 0):=zm (id:=2) (hl:=rfl)
def z3M (zbr:yD->yD->Bool×Int) (a:yC) (b:yC):Wy0 (Int):=.bn (z0X zbr (a.length+b.length+Int.toNat 0+1) a b 0) λr5=>.i (isL r5) (.k (getL r5)) (.bn (zcZ (Int.ofNat (getR r5).1.length) (Int.ofNat (getR r5).2.length)) λr4=>.k r4)
def zzN (zbr:yD->yD->Bool×Int) (a:yC) (b:yC):=(z3M zbr a b).fin default
theorem zTR (zbr:yD->yD->Bool×Int) (zOB:SdP 34 (zjP zbr)):SdP 89 (zem (zzN zbr)):=
 sT (cx':=(zJJ zbr)) (zi ⟨zOB,zku,trivial⟩) call89 func89 (lOK (aC (zYw zbr) aN))
def zbdT:=zbt base 4 []
def z12 (less:Bool):Wy0 (Int):=.i (less) (.k (-1:Int)) (.k 1)
def zBR (less:Bool):=(z12 less).fin default
def zbf1:AL base (Bool×Unit):=zc (ze zbox) zo
def zQ6:=zh zbf1 λx=>((zBR x.1).1,zRZ (zBR x.1).2)
theorem z7i:SdP 157 zQ6:=
 sT (cx':=zbdT) (zi trivial) call157 func157 (lOK aN)
def z7l:=zbt base 38 [(157,zQ6)]
def zQM (a:Value) (b:Value):Wy0 (Int):=.i (a.Kind != b.Kind) (.bn (zBR (decide (a.Kind<b.Kind))) λr0=>.k r0) (.i (a.Int != b.Int) (.bn (zBR (decide (a.Int<b.Int))) λr1=>.k r1) (.i (!a.Text.toList==b.Text.toList) (.bn (zBR (Op.bytesLess a.Text.toList b.Text.toList)) λr2=>.k r2) (.k 0)))
def zoy (a:Value) (b:Value):=(zQM a b).fin default
def zAt:=zh z8y λx=>((zoy x.1 x.2.1).1,zRZ (zoy x.1 x.2.1).2)
theorem zG4:SdP 107 zAt:=
 sT (cx':=z7l) (zi ⟨z7i,trivial⟩) call107 func107 (lOK aN)
def zZJ:=zbt base 19 [(91,zjp)]
def zJr (a:RowID) (b:RowID):Wy0 (Int):=.bn (zcZ a.Table b.Table) λr1=>.i (r1 != 0) (.k r1) (.bn (zcZ a.Seq b.Seq) λr0=>.k r0)
def zh0 (a:RowID) (b:RowID):=(zJr a b).fin default
def znQ:=zh z6s λx=>((zh0 x.1 x.2.1).1,zRZ (zh0 x.1 x.2.1).2)
theorem zuC:SdP 105 znQ:=
 sT (cx':=zZJ) (zi ⟨zku,trivial⟩) call105 func105 (lOK aN)
abbrev zpx:=Unit×Unit×Int×Unit
abbrev zps:=At×At×Unit
abbrev zGh:=Int⊕(At×At)
def zuY (zV:yC->yC->Bool×Int) (zbG:yE->yE->Bool×Int) (i:Int) (a:At) (b:At):Wy zpx zps zGh:=.i (decide (i<Int.ofNat a.Ag.length)) (.i (decide (i<Int.ofNat b.Ag.length)) (.i (decide (0<=i)&&decide (i<Int.ofNat a.Ag.length)) (.i (decide (0<=i)&&decide (i<Int.ofNat b.Ag.length)) (.bn (zV (a.Ag.getD i.toNat default) (b.Ag.getD i.toNat default)) λr0=>.i (r0 != 0) (.k (.inl (r0))) (.h ((),(),(IntKind.i64.wrap (i+1)),()) (a,b,()))) .d) .d) (.k (.inr (a,b)))) (.k (.inr (a,b)))
def zC4 (zV:yC->yC->Bool×Int) (zbG:yE->yE->Bool×Int) (x:zpx) (y:zps):=zuY zV zbG x.2.2.1 y.1 y.2.1
def zuM (zV:yC->yC->Bool×Int) (zbG:yE->yE->Bool×Int) (n:Nat) (i:Int) (a:At) (b:At):=zA (zC4 zV zbG) (.inl default) n ((),(),i,()) (a,b,())
def zPK (r:zGh):LTree ty:=.ite (isL r) (.done .ret [.lit (.int .i64 (getL r))] []) (.done (.exit 0) [.ptr 384 0,.ptr 385 0] [.box (base.enc 67 (getR r).1) false,.box (base.enc 67 (getR r).2) false])
def zSw:LL ty zpx:=za (zeb 384 0) (za (zeb 385 0) (za zj zk))
def zSn:BL ty zps:=zf8 (zeR (λx=>(⟨x.1,⟨x.2.1,x.2.2.1⟩,x.2.2.2.1,x.2.2.2.2.1,x.2.2.2.2.2.1,x.2.2.2.2.2.2.1,⟨x.2.2.2.2.2.2.2.1,x.2.2.2.2.2.2.2.2.1,x.2.2.2.2.2.2.2.2.2.1⟩⟩:At)) (λx=>(x.Kind,x.Row.Table,x.Row.Seq,x.Ag,x.Func,x.Items,x.Op,x.Bd.Kind,x.Bd.Int,x.Bd.Text,())) (λ_=>rfl) (za (zB .i64) (za (zB .i64) (za (zB .i64) (za (lSl 23) (za (zB .i64) (za (lSl 100) (za (zB .i64) (za (zB .i64) (za (zB .i64) (za zl4 zk))))))))))) false (zf8 (zeR (λx=>(⟨x.1,⟨x.2.1,x.2.2.1⟩,x.2.2.2.1,x.2.2.2.2.1,x.2.2.2.2.2.1,x.2.2.2.2.2.2.1,⟨x.2.2.2.2.2.2.2.1,x.2.2.2.2.2.2.2.2.1,x.2.2.2.2.2.2.2.2.2.1⟩⟩:At)) (λx=>(x.Kind,x.Row.Table,x.Row.Seq,x.Ag,x.Func,x.Items,x.Op,x.Bd.Kind,x.Bd.Int,x.Bd.Text,())) (λ_=>rfl) (za (zB .i64) (za (zB .i64) (za (zB .i64) (za (lSl 23) (za (zB .i64) (za (lSl 100) (za (zB .i64) (za (zB .i64) (za (zB .i64) (za zl4 zk))))))))))) false (z8))
def zPW (x:zpx) (y:zps):Nat:=(Int.toNat x.2.2.1+y.1.Ag.length+y.1.Items.length+y.2.1.Ag.length+y.2.1.Items.length+1)
def zDo (zV:yC->yC->Bool×Int) (zbG:yE->yE->Bool×Int):=zbY base 96 [(89,(zem zV)),(91,zjp),(105,znQ),(106,(zln zbG)),(107,zAt)] [] [(8,(kpL [2,3,7]))] [(8,1,(kpL [2,3])),(8,0,(kpL [4]))] [(8,spW zSw zSn (zC4 zV zbG) (.inl default) zPK zPW)] []
theorem zQe (zV:yC->yC->Bool×Int) (zbG:yE->yE->Bool×Int):zy (zDo zV zbG) (lp (body f53) 0):=zm (id:=8) (hl:=rfl)
def zEJ (zV:yC->yC->Bool×Int) (zbG:yE->yE->Bool×Int) (a:At) (b:At):Wy0 (Int):=.bn (zcZ a.Kind b.Kind) λr9=>.i (r9 != 0) (.k r9) (.bn (zh0 a.Row b.Row) λr8=>.i (r8 != 0) (.k r8) (.bn (zuM zV zbG (Int.toNat 0+a.Ag.length+a.Items.length+b.Ag.length+b.Items.length+1) 0 (At.mk a.Kind a.Row a.Ag a.Func a.Items a.Op a.Bd) (At.mk b.Kind b.Row b.Ag b.Func b.Items b.Op b.Bd)) λr7=>.i (isL r7) (.k (getL r7)) (.bn (zcZ (Int.ofNat (getR r7).1.Ag.length) (Int.ofNat (getR r7).2.Ag.length)) λr6=>.i (r6 != 0) (.k r6) (.bn (zcZ (getR r7).1.Func (getR r7).2.Func) λr5=>.i (r5 != 0) (.k r5) (.bn (zbG (getR r7).1.Items (getR r7).2.Items) λr4=>.i (r4 != 0) (.k r4) (.bn (zcZ (getR r7).1.Op (getR r7).2.Op) λr3=>.i (r3 != 0) (.k r3) (.bn (zoy (getR r7).1.Bd (getR r7).2.Bd) λr2=>.k r2)))))))
def zmw (zV:yC->yC->Bool×Int) (zbG:yE->yE->Bool×Int) (a:At) (b:At):=(zEJ zV zbG a b).fin default
theorem zMa (zV:yC->yC->Bool×Int) (zbG:yE->yE->Bool×Int) (zCo:SdP 89 (zem zV)) (zSr:SdP 106 (zln zbG)):SdP 53 (zhp (zmw zV zbG)):=
 sT (cx':=(zDo zV zbG)) (zi ⟨zCo,zku,zuC,zSr,zG4,trivial⟩) call53 func53 (lOK (aC (zQe zV zbG) aN))
abbrev zmb:=yD×yD×Int×Unit
abbrev zCc:=Int⊕(yD×yD)
def zzF (zbL:At->At->Bool×Int) (a:yD) (b:yD) (i:Int):Wy zmb Unit zCc:=.i (decide (i<Int.ofNat a.length)) (.i (decide (i<Int.ofNat b.length)) (.i (decide (0<=i)&&decide (i<Int.ofNat a.length)) (.i (decide (0<=i)&&decide (i<Int.ofNat b.length)) (.bn (zbL (At.mk (a.getD i.toNat default).At.Kind (a.getD i.toNat default).At.Row (a.getD i.toNat default).At.Ag (a.getD i.toNat default).At.Func (a.getD i.toNat default).At.Items (a.getD i.toNat default).At.Op (a.getD i.toNat default).At.Bd) (At.mk (b.getD i.toNat default).At.Kind (b.getD i.toNat default).At.Row (b.getD i.toNat default).At.Ag (b.getD i.toNat default).At.Func (b.getD i.toNat default).At.Items (b.getD i.toNat default).At.Op (b.getD i.toNat default).At.Bd)) λr1=>.i (r1 != 0) (.k (.inl (r1))) (.i (decide (0<=i)&&decide (i<Int.ofNat a.length)) (.i (decide (0<=i)&&decide (i<Int.ofNat b.length)) (.bn (zcZ (a.getD i.toNat default).Exp (b.getD i.toNat default).Exp) λr0=>.i (r0 != 0) (.k (.inl (r0))) (.h (a,b,(IntKind.i64.wrap (i+1)),()) ())) .d) .d)) .d) .d) (.k (.inr (a,b)))) (.k (.inr (a,b)))
def zkK (zbL:At->At->Bool×Int) (x:zmb) (y:Unit):=zzF zbL x.1 x.2.1 x.2.2.1
def zzI (zbL:At->At->Bool×Int) (n:Nat) (a:yD) (b:yD) (i:Int):=zA (zkK zbL) (.inl default) n (a,b,i,()) ()
def zLd (r:zCc):LTree ty:=.ite (isL r) (.done .ret [.lit (.int .i64 (getL r))] []) (.done (.exit 0) [.sl 69 (getR r).1,.sl 69 (getR r).2] [])
def zMK:LL ty zmb:=za (lSl 69) (za (lSl 69) (za zj zk))
def zLh (x:zmb) (y:Unit):Nat:=(x.1.length+x.2.1.length+Int.toNat x.2.2.1+1)
def zzy (zbL:At->At->Bool×Int):=zbY base 53 [(53,(zhp zbL)),(91,zjp)] [] [(2,(kpL [0,1,5]))] [(2,1,(kpL [0,1])),(2,0,(kpL [4]))] [(2,spW zMK zbc9 (zkK zbL) (.inl default) zLd zLh)] []
theorem zKy (zbL:At->At->Bool×Int):zy (zzy zbL) (lp (body f34) 0):=zm (id:=2) (hl:=rfl)
def zAV (zbL:At->At->Bool×Int) (a:yD) (b:yD):Wy0 (Int):=.bn (zzI zbL (a.length+b.length+Int.toNat 0+1) a b 0) λr5=>.i (isL r5) (.k (getL r5)) (.bn (zcZ (Int.ofNat (getR r5).1.length) (Int.ofNat (getR r5).2.length)) λr4=>.k r4)
def zjU (zbL:At->At->Bool×Int) (a:yD) (b:yD):=(zAV zbL a b).fin default
theorem zHh (zbL:At->At->Bool×Int) (zUm:SdP 53 (zhp zbL)):SdP 34 (zjP (zjU zbL)):=
 sT (cx':=(zzy zbL)) (zi ⟨zUm,zku,trivial⟩) call34 func34 (lOK (aC (zKy zbL) aN))
abbrev znW:=yE×yE×Int×Unit
abbrev zEK:=Int⊕(yE×yE)
def zP5 (zV:yC->yC->Bool×Int) (a:yE) (b:yE) (i:Int):Wy znW Unit zEK:=.i (decide (i<Int.ofNat a.length)) (.i (decide (i<Int.ofNat b.length)) (.i (decide (0<=i)&&decide (i<Int.ofNat a.length)) (.i (decide (0<=i)&&decide (i<Int.ofNat b.length)) (.bn (zoy (a.getD i.toNat default).Value (b.getD i.toNat default).Value) λr1=>.i (r1 != 0) (.k (.inl (r1))) (.i (decide (0<=i)&&decide (i<Int.ofNat a.length)) (.i (decide (0<=i)&&decide (i<Int.ofNat b.length)) (.bn (zV (a.getD i.toNat default).Ann (b.getD i.toNat default).Ann) λr0=>.i (r0 != 0) (.k (.inl (r0))) (.h (a,b,(IntKind.i64.wrap (i+1)),()) ())) .d) .d)) .d) .d) (.k (.inr (a,b)))) (.k (.inr (a,b)))
def zB4 (zV:yC->yC->Bool×Int) (x:znW) (y:Unit):=zP5 zV x.1 x.2.1 x.2.2.1
def zP2 (zV:yC->yC->Bool×Int) (n:Nat) (a:yE) (b:yE) (i:Int):=zA (zB4 zV) (.inl default) n (a,b,i,()) ()
def zPi (r:zEK):LTree ty:=.ite (isL r) (.done .ret [.lit (.int .i64 (getL r))] []) (.done (.exit 0) [.sl 100 (getR r).1,.sl 100 (getR r).2] [])
def zQg:LL ty znW:=za (lSl 100) (za (lSl 100) (za zj zk))
def zNs (x:znW) (y:Unit):Nat:=(x.1.length+x.2.1.length+Int.toNat x.2.2.1+1)
def zB8 (zV:yC->yC->Bool×Int):=zbY base 53 [(89,(zem zV)),(91,zjp),(107,zAt)] [] [(2,(kpL [0,1,5]))] [(2,1,(kpL [0,1])),(2,0,(kpL [4]))] [(2,spW zQg zbc9 (zB4 zV) (.inl default) zPi zNs)] []
theorem zPo (zV:yC->yC->Bool×Int):zy (zB8 zV) (lp (body f106) 0):=zm (id:=2) (hl:=rfl)
def zRF (zV:yC->yC->Bool×Int) (a:yE) (b:yE):Wy0 (Int):=.bn (zP2 zV (a.length+b.length+Int.toNat 0+1) a b 0) λr5=>.i (isL r5) (.k (getL r5)) (.bn (zcZ (Int.ofNat (getR r5).1.length) (Int.ofNat (getR r5).2.length)) λr4=>.k r4)
def zpE (zV:yC->yC->Bool×Int) (a:yE) (b:yE):=(zRF zV a b).fin default
theorem zLo (zV:yC->yC->Bool×Int) (zCo:SdP 89 (zem zV)):SdP 106 (zln (zpE zV)):=
 sT (cx':=(zB8 zV)) (zi ⟨zCo,zku,zG4,trivial⟩) call106 func106 (lOK (aC (zPo zV) aN))
def zlh:Nat->(yC->yC->Bool×Int)×(yD->yD->Bool×Int)×(At->At->Bool×Int)×(yE->yE->Bool×Int)
 | 0=>(λ_ _=>(false,default),λ_ _=>(false,default),λ_ _=>(false,default),λ_ _=>(false,default))
 | n+1=>(zzN ((zlh n).2.1),zjU ((zlh n).2.2.1),zmw ((zlh n).1) ((zlh n).2.2.2),zpE ((zlh n).1))
def znL (n:Nat):yC->yC->Bool×Int:=(zlh n).1
def zjX (n:Nat):yD->yD->Bool×Int:=(zlh n).2.1
def zmv (n:Nat):At->At->Bool×Int:=(zlh n).2.2.1
def zlp (n:Nat):yE->yE->Bool×Int:=(zlh n).2.2.2
theorem z2N (n:Nat):znL (n+1)=zzN (zjX n):=rfl
theorem zM7 (n:Nat):zjX (n+1)=zjU (zmv n):=rfl
theorem zSk (n:Nat):zmv (n+1)=zmw (znL n) (zlp n):=rfl
theorem zQm (n:Nat):zlp (n+1)=zpE (znL n):=rfl
theorem zwa:∀ n,SdP 89 (zem (znL n))/\SdP 34 (zjP (zjX n))/\SdP 53 (zhp (zmv n))/\SdP 106 (zln (zlp n))
 | 0=>⟨zba call89 (λ_=>rfl),zba call34 (λ_=>rfl),zba call53 (λ_=>rfl),zba call106 (λ_=>rfl)⟩
 | n+1=>by
  have ih:=zwa n;exact ⟨zTR _ (ih.2.1),zHh _ (ih.2.2.1),zMa _ _ (ih.1) (ih.2.2.2),zLo _ (ih.1)⟩
def zKA:yC->yC->Bool×Int:=znL 1000
def zJp:Ab.Spec ty:=zem zKA
theorem zYA:SdP 89 zJp:=(zwa 1000).1
def zlG:yD->yD->Bool×Int:=zjX 1000
def zpv:Ab.Spec ty:=zjP zlG
theorem zyo:SdP 34 zpv:=(zwa 1000).2.1
def zlN:At->At->Bool×Int:=zmv 1000
def zux:Ab.Spec ty:=zhp zlN
theorem zB9:SdP 53 zux:=(zwa 1000).2.2.1
def zt7:yE->yE->Bool×Int:=zlp 1000
def zsC:Ab.Spec ty:=zln zt7
theorem zAf:SdP 106 zsC:=(zwa 1000).2.2.2
abbrev zh8:=yC×Int×Int×Int×Unit×Int×Int×Unit
abbrev zNZ:=yC×Int×Int×Int×Int×At
abbrev zN7:=yC×Int×Int×Int×Int
abbrev zxZ:=yC×Int×Int×Int×Unit
abbrev zOf:=yC×Int×Int
abbrev zx4:=yC×Int×Int×Unit
def zmy (zF:yC->Bool×Int) (a:yC) (most:Int) (i:Int) (k:Int) (n_:Int) (j:Int) (x_:At):Wy zh8 (At×Unit) zNZ:=.i (decide (j<Int.ofNat x_.Ag.length)) (.i (decide (0<=j)&&decide (j<Int.ofNat x_.Ag.length)) (.bn (zF (x_.Ag.getD j.toNat default)) λr0=>.h (a,most,i,k,(),(if IntKind.i64.wrap (1+r0)>n_ then IntKind.i64.wrap (1+r0) else n_),(IntKind.i64.wrap (j+1)),()) (x_,())) .d) (.k (a,most,i,k,n_,x_))
def zzq (zF:yC->Bool×Int) (x:zh8) (y:At×Unit):=zmy zF x.1 x.2.1 x.2.2.1 x.2.2.2.1 x.2.2.2.2.2.1 x.2.2.2.2.2.2.1 y.1
def zza (zF:yC->Bool×Int) (n:Nat) (a:yC) (most:Int) (i:Int) (k:Int) (n_:Int) (j:Int) (x_:At):=zA (zzq zF) default n (a,most,i,k,(),n_,j,()) (x_,())
def zWL (r:zNZ):LTree ty:=.done (.exit 4) [.sl 28 r.1,.lit (.int .i64 r.2.1),.lit (.int .i64 r.2.2.1),.lit (.int .i64 r.2.2.2.1),.ptr 300 0,.lit (.int .i64 r.2.2.2.2.1)] [.box (base.enc 67 r.2.2.2.2.2) false]
def zYM:LL ty zh8:=za (lSl 28) (za zj (za zj (za zj (za (zeb 300 0) (za zj (za zj zk))))))
def zYU:BL ty (At×Unit):=zf8 (zeR (λx=>(⟨x.1,⟨x.2.1,x.2.2.1⟩,x.2.2.2.1,x.2.2.2.2.1,x.2.2.2.2.2.1,x.2.2.2.2.2.2.1,⟨x.2.2.2.2.2.2.2.1,x.2.2.2.2.2.2.2.2.1,x.2.2.2.2.2.2.2.2.2.1⟩⟩:At)) (λx=>(x.Kind,x.Row.Table,x.Row.Seq,x.Ag,x.Func,x.Items,x.Op,x.Bd.Kind,x.Bd.Int,x.Bd.Text,())) (λ_=>rfl) (za (zB .i64) (za (zB .i64) (za (zB .i64) (za (lSl 23) (za (zB .i64) (za (lSl 100) (za (zB .i64) (za (zB .i64) (za (zB .i64) (za zl4 zk))))))))))) false (z8)
def zmt (zF:yC->Bool×Int) (a:yC) (most:Int) (i:Int) (k:Int) (n_:Int) (j:Int) (x_:At):Wy zh8 (At×Unit) zN7:=.i (decide (j<Int.ofNat x_.Items.length)) (.i (decide (0<=j)&&decide (j<Int.ofNat x_.Items.length)) (.bn (zF (x_.Items.getD j.toNat default).Ann) λr2=>.h (a,most,i,k,(),(if IntKind.i64.wrap (1+r2)>n_ then IntKind.i64.wrap (1+r2) else n_),(IntKind.i64.wrap (j+1)),()) (x_,())) .d) (.k (a,most,i,k,n_))
def zy5 (zF:yC->Bool×Int) (x:zh8) (y:At×Unit):=zmt zF x.1 x.2.1 x.2.2.1 x.2.2.2.1 x.2.2.2.2.2.1 x.2.2.2.2.2.2.1 y.1
def zGM (zF:yC->Bool×Int) (n:Nat) (a:yC) (most:Int) (i:Int) (k:Int) (n_:Int) (j:Int) (x_:At):=zA (zy5 zF) default n (a,most,i,k,(),n_,j,()) (x_,())
def zVL (r:zN7):LTree ty:=.done (.exit 6) [.sl 28 r.1,.lit (.int .i64 r.2.1),.lit (.int .i64 r.2.2.1),.lit (.int .i64 r.2.2.2.1),.lit (.int .i64 r.2.2.2.2)] []
def znn (zF:yC->Bool×Int) (a:yC) (most:Int) (i:Int) (k:Int):Wy zxZ Unit zOf:=.i (decide (0<=i)&&decide (i<Int.ofNat a.length)) (.i (decide (k<Int.ofNat (a.getD i.toNat default).Fs.length)) (.i (decide (0<=i)&&decide (i<Int.ofNat a.length)) (.i (decide (0<=k)&&decide (k<Int.ofNat (a.getD i.toNat default).Fs.length)) (.i (((a.getD i.toNat default).Fs.getD k.toNat default).At.Kind==0) (.h (a,most,i,(IntKind.i64.wrap (k+1)),()) ()) (.bn (zza zF ((a.length+most.toNat +i.toNat +k.toNat +Int.toNat 1+Int.toNat 0+((a.getD i.toNat default).Fs.getD k.toNat default).At.Ag.length+((a.getD i.toNat default).Fs.getD k.toNat default).At.Items.length+1)+zbD a) a most i k 1 0 (At.mk ((a.getD i.toNat default).Fs.getD k.toNat default).At.Kind ((a.getD i.toNat default).Fs.getD k.toNat default).At.Row ((a.getD i.toNat default).Fs.getD k.toNat default).At.Ag ((a.getD i.toNat default).Fs.getD k.toNat default).At.Func ((a.getD i.toNat default).Fs.getD k.toNat default).At.Items ((a.getD i.toNat default).Fs.getD k.toNat default).At.Op ((a.getD i.toNat default).Fs.getD k.toNat default).At.Bd)) λr5=>.bn (zGM zF ((r5.1.length+r5.2.1.toNat +r5.2.2.1.toNat +r5.2.2.2.1.toNat +r5.2.2.2.2.1.toNat +Int.toNat 0+r5.2.2.2.2.2.Ag.length+r5.2.2.2.2.2.Items.length+1)+zbD r5.1) r5.1 r5.2.1 r5.2.2.1 r5.2.2.2.1 r5.2.2.2.2.1 0 (At.mk r5.2.2.2.2.2.Kind r5.2.2.2.2.2.Row r5.2.2.2.2.2.Ag r5.2.2.2.2.2.Func r5.2.2.2.2.2.Items r5.2.2.2.2.2.Op r5.2.2.2.2.2.Bd)) λr4=>.h ((r4.1),(if r4.2.2.2.2>r4.2.1 then r4.2.2.2.2 else r4.2.1),(r4.2.2.1),(IntKind.i64.wrap (r4.2.2.2.1+1)),()) ())) .d) .d) (.k (a,most,i))) .d
def zAz (zF:yC->Bool×Int) (x:zxZ) (y:Unit):=znn zF x.1 x.2.1 x.2.2.1 x.2.2.2.1
def zIF (zF:yC->Bool×Int) (n:Nat) (a:yC) (most:Int) (i:Int) (k:Int):=zA (zAz zF) default n (a,most,i,k,()) ()
def zYW (r:zOf):LTree ty:=.done (.exit 2) [.sl 28 r.1,.lit (.int .i64 r.2.1),.lit (.int .i64 r.2.2)] []
def zZ5:LL ty zxZ:=za (lSl 28) (za zj (za zj (za zj zk)))
def zng (zF:yC->Bool×Int) (a:yC) (most:Int) (i:Int):Wy zx4 Unit (Int):=.i (decide (i<Int.ofNat a.length)) (.bn (zIF zF ((a.length+most.toNat +i.toNat +Int.toNat 0+1)+zbD a) a most i 0) λr8=>.h ((r8.1),(r8.2.1),(IntKind.i64.wrap (r8.2.2+1)),()) ()) (.k most)
def zAS (zF:yC->Bool×Int) (x:zx4) (y:Unit):=zng zF x.1 x.2.1 x.2.2.1
def zJM (zF:yC->Bool×Int) (n:Nat) (a:yC) (most:Int) (i:Int):=zA (zAS zF) default n (a,most,i,()) ()
def z0i:LL ty zx4:=za (lSl 28) (za zj (za zj zk))
def zVp (x:zh8) (y:At×Unit):Nat:=((x.1.length+Int.toNat x.2.1+Int.toNat x.2.2.1+Int.toNat x.2.2.2.1+Int.toNat x.2.2.2.2.2.1+Int.toNat x.2.2.2.2.2.2.1+y.1.Ag.length+y.1.Items.length+1)+zbD x.1)
def zYE (x:zxZ) (y:Unit):Nat:=((x.1.length+Int.toNat x.2.1+Int.toNat x.2.2.1+Int.toNat x.2.2.2.1+1)+zbD x.1)
def zZC (x:zx4) (y:Unit):Nat:=((x.1.length+Int.toNat x.2.1+Int.toNat x.2.2.1+1)+zbD x.1)
def znq (zF:yC->Bool×Int):=zbY base 75 [(108,(zoP zF))] [] [(3,(kpL [0,3,4])),(6,(kpL [0,3,4,5])),(12,(kpL [0,3,4,5,6,7,8])),(16,(kpL [0,3,4,5,6,7,9]))] [(3,1,(kpL [3])),(6,3,(kpL [0,3,4])),(12,5,(kpL [0,3,4,5,6,7])),(16,7,(kpL [0,3,4,5,7]))] [(12,spW zYM zYU (zzq zF) default zWL zVp),(16,spW zYM zYU (zy5 zF) default zVL zVp),(6,spW zZ5 zbc9 (zAz zF) default zYW zYE),(3,spW z0i zbc9 (zAS zF) default zTm zZC)] []
theorem zVk (zF:yC->Bool×Int):zy (znq zF) (lp (body f108) 2):=zm (id:=12) (hl:=rfl)
theorem zXe (zF:yC->Bool×Int):zy (znq zF) (lp (body f108) 3):=zm (id:=16) (hl:=rfl)
theorem zY2 (zF:yC->Bool×Int):zy (znq zF) (lp (body f108) 1):=zm (id:=6) (hl:=rfl)
theorem zYv (zF:yC->Bool×Int):zy (znq zF) (lp (body f108) 0):=zm (id:=3) (hl:=rfl)
def zLG (zF:yC->Bool×Int) (a:yC):Wy0 (Int):=.bn (zJM zF ((a.length+Int.toNat 0+Int.toNat 0+1)+zbD a) a 0 0) λr10=>.k r10
def zzz (zF:yC->Bool×Int) (a:yC):=(zLG zF a).fin default
theorem zUx (zF:yC->Bool×Int) (z4a:SdP 108 (zoP zF)):SdP 108 (zoP (zzz zF)):=
 sT (cx':=(znq zF)) (zi ⟨z4a,trivial⟩) call108 func108 (lOK (aC (zYv zF) (aC (zY2 zF) (aC (zVk zF) (aC (zXe zF) aN)))))
def z2u:Nat->(yC->Bool×Int)
 | 0=>λ_=>(false,default)
 | n+1=>zzz (z2u n)
def zle (n:Nat):yC->Bool×Int:=z2u n
theorem z1L (n:Nat):zle (n+1)=zzz (zle n):=rfl
theorem zTS:∀ n,SdP 108 (zoP (zle n))
 | 0=>zba call108 (λ_=>rfl)
 | n+1=>by
  have ih:=zTS n;exact zUx _ (ih)
def zKu:yC->Bool×Int:=zle 1000
def zJQ:Ab.Spec ty:=zoP zKu
theorem zY7:SdP 108 zJQ:=(zTS 1000)
abbrev zlT:=yC×Int×Int×Int×Unit×Int×Unit
abbrev zXN:=yC×Int×Int×Int×At
abbrev zX3:=yC×Int×Int×Int
abbrev zDF:=yC×Int×Int×Int×Unit
abbrev zYi:=yC×Int×Int
abbrev zDw:=yC×Int×Int×Unit
def zrA (zU:yC->Bool×Int) (a:yC) (n_:Int) (i:Int) (k:Int) (j:Int) (x_:At):Wy zlT (At×Unit) zXN:=.i (decide (j<Int.ofNat x_.Ag.length)) (.i (decide (0<=j)&&decide (j<Int.ofNat x_.Ag.length)) (.bn (zU (x_.Ag.getD j.toNat default)) λr0=>.h (a,(IntKind.i64.wrap (n_+r0)),i,k,(),(IntKind.i64.wrap (j+1)),()) (x_,())) .d) (.k (a,n_,i,k,x_))
def zDX (zU:yC->Bool×Int) (x:zlT) (y:At×Unit):=zrA zU x.1 x.2.1 x.2.2.1 x.2.2.2.1 x.2.2.2.2.2.1 y.1
def zNG (zU:yC->Bool×Int) (n:Nat) (a:yC) (n_:Int) (i:Int) (k:Int) (j:Int) (x_:At):=zA (zDX zU) default n (a,n_,i,k,(),j,()) (x_,())
def z3G (r:zXN):LTree ty:=.done (.exit 4) [.sl 28 r.1,.lit (.int .i64 r.2.1),.lit (.int .i64 r.2.2.1),.lit (.int .i64 r.2.2.2.1),.ptr 284 0] [.box (base.enc 67 r.2.2.2.2) false]
def z6P:LL ty zlT:=za (lSl 28) (za zj (za zj (za zj (za (zeb 284 0) (za zj zk)))))
def zqU (zU:yC->Bool×Int) (a:yC) (n_:Int) (i:Int) (k:Int) (j:Int) (x_:At):Wy zlT (At×Unit) zX3:=.i (decide (j<Int.ofNat x_.Items.length)) (.i (decide (0<=j)&&decide (j<Int.ofNat x_.Items.length)) (.bn (zU (x_.Items.getD j.toNat default).Ann) λr2=>.h (a,(IntKind.i64.wrap (IntKind.i64.wrap (n_+1)+r2)),i,k,(),(IntKind.i64.wrap (j+1)),()) (x_,())) .d) (.k (a,n_,i,k))
def zD1 (zU:yC->Bool×Int) (x:zlT) (y:At×Unit):=zqU zU x.1 x.2.1 x.2.2.1 x.2.2.2.1 x.2.2.2.2.2.1 y.1
def zPu (zU:yC->Bool×Int) (n:Nat) (a:yC) (n_:Int) (i:Int) (k:Int) (j:Int) (x_:At):=zA (zD1 zU) default n (a,n_,i,k,(),j,()) (x_,())
def z4g (r:zX3):LTree ty:=.done (.exit 6) [.sl 28 r.1,.lit (.int .i64 r.2.1),.lit (.int .i64 r.2.2.1),.lit (.int .i64 r.2.2.2)] []
def zum (zU:yC->Bool×Int) (a:yC) (n_:Int) (i:Int) (k:Int):Wy zDF Unit zYi:=.i (decide (0<=i)&&decide (i<Int.ofNat a.length)) (.i (decide (k<Int.ofNat (a.getD i.toNat default).Fs.length)) (.i (decide (0<=i)&&decide (i<Int.ofNat a.length)) (.i (decide (0<=k)&&decide (k<Int.ofNat (a.getD i.toNat default).Fs.length)) (.bn (zNG zU ((a.length+(IntKind.i64.wrap (n_+1)).toNat +i.toNat +k.toNat +Int.toNat 0+((a.getD i.toNat default).Fs.getD k.toNat default).At.Ag.length+((a.getD i.toNat default).Fs.getD k.toNat default).At.Items.length+1)+zbD a) a (IntKind.i64.wrap (n_+1)) i k 0 (At.mk ((a.getD i.toNat default).Fs.getD k.toNat default).At.Kind ((a.getD i.toNat default).Fs.getD k.toNat default).At.Row ((a.getD i.toNat default).Fs.getD k.toNat default).At.Ag ((a.getD i.toNat default).Fs.getD k.toNat default).At.Func ((a.getD i.toNat default).Fs.getD k.toNat default).At.Items ((a.getD i.toNat default).Fs.getD k.toNat default).At.Op ((a.getD i.toNat default).Fs.getD k.toNat default).At.Bd)) λr5=>.bn (zPu zU ((r5.1.length+r5.2.1.toNat +r5.2.2.1.toNat +r5.2.2.2.1.toNat +Int.toNat 0+r5.2.2.2.2.Ag.length+r5.2.2.2.2.Items.length+1)+zbD r5.1) r5.1 r5.2.1 r5.2.2.1 r5.2.2.2.1 0 (At.mk r5.2.2.2.2.Kind r5.2.2.2.2.Row r5.2.2.2.2.Ag r5.2.2.2.2.Func r5.2.2.2.2.Items r5.2.2.2.2.Op r5.2.2.2.2.Bd)) λr4=>.h ((r4.1),(r4.2.1),(r4.2.2.1),(IntKind.i64.wrap (r4.2.2.2+1)),()) ()) .d) .d) (.k (a,n_,i))) .d
def zGf (zU:yC->Bool×Int) (x:zDF) (y:Unit):=zum zU x.1 x.2.1 x.2.2.1 x.2.2.2.1
def zQQ (zU:yC->Bool×Int) (n:Nat) (a:yC) (n_:Int) (i:Int) (k:Int):=zA (zGf zU) default n (a,n_,i,k,()) ()
def z7c (r:zYi):LTree ty:=.done (.exit 2) [.sl 28 r.1,.lit (.int .i64 r.2.1),.lit (.int .i64 r.2.2)] []
def z9O:LL ty zDF:=za (lSl 28) (za zj (za zj (za zj zk)))
def ztz (zU:yC->Bool×Int) (a:yC) (n_:Int) (i:Int):Wy zDw Unit (Int):=.i (decide (i<Int.ofNat a.length)) (.bn (zQQ zU ((a.length+(IntKind.i64.wrap (n_+1)).toNat +i.toNat +Int.toNat 0+1)+zbD a) a (IntKind.i64.wrap (n_+1)) i 0) λr8=>.h ((r8.1),(r8.2.1),(IntKind.i64.wrap (r8.2.2+1)),()) ()) (.k n_)
def zFA (zU:yC->Bool×Int) (x:zDw) (y:Unit):=ztz zU x.1 x.2.1 x.2.2.1
def zQ8 (zU:yC->Bool×Int) (n:Nat) (a:yC) (n_:Int) (i:Int):=zA (zFA zU) default n (a,n_,i,()) ()
def z8R:LL ty zDw:=za (lSl 28) (za zj (za zj zk))
def z4i (x:zlT) (y:At×Unit):Nat:=((x.1.length+Int.toNat x.2.1+Int.toNat x.2.2.1+Int.toNat x.2.2.2.1+Int.toNat x.2.2.2.2.2.1+y.1.Ag.length+y.1.Items.length+1)+zbD x.1)
def z7x (x:zDF) (y:Unit):Nat:=((x.1.length+Int.toNat x.2.1+Int.toNat x.2.2.1+Int.toNat x.2.2.2.1+1)+zbD x.1)
def z6B (x:zDw) (y:Unit):Nat:=((x.1.length+Int.toNat x.2.1+Int.toNat x.2.2.1+1)+zbD x.1)
def ztJ (zU:yC->Bool×Int):=zbY base 71 [(109,(zoP zU))] [] [(3,(kpL [0,3,4])),(7,(kpL [0,3,4,5])),(12,(kpL [0,3,4,5,6,7])),(16,(kpL [0,3,4,5,6,8]))] [(3,1,(kpL [3])),(7,3,(kpL [0,3,4])),(12,5,(kpL [0,3,4,5,6])),(16,7,(kpL [0,3,4,5]))] [(12,spW z6P zYU (zDX zU) default z3G z4i),(16,spW z6P zYU (zD1 zU) default z4g z4i),(7,spW z9O zbc9 (zGf zU) default z7c z7x),(3,spW z8R zbc9 (zFA zU) default zTm z6B)] []
theorem z3R (zU:yC->Bool×Int):zy (ztJ zU) (lp (body f109) 2):=zm (id:=12) (hl:=rfl)
theorem z5c (zU:yC->Bool×Int):zy (ztJ zU) (lp (body f109) 3):=zm (id:=16) (hl:=rfl)
theorem z6k (zU:yC->Bool×Int):zy (ztJ zU) (lp (body f109) 1):=zm (id:=7) (hl:=rfl)
theorem z63 (zU:yC->Bool×Int):zy (ztJ zU) (lp (body f109) 0):=zm (id:=3) (hl:=rfl)
def zVd (zU:yC->Bool×Int) (a:yC):Wy0 (Int):=.bn (zQ8 zU ((a.length+Int.toNat 0+Int.toNat 0+1)+zbD a) a 0 0) λr10=>.k r10
def zGi (zU:yC->Bool×Int) (a:yC):=(zVd zU a).fin default
theorem z1l (zU:yC->Bool×Int) (zbbC:SdP 109 (zoP zU)):SdP 109 (zoP (zGi zU)):=
 sT (cx':=(ztJ zU)) (zi ⟨zbbC,trivial⟩) call109 func109 (lOK (aC (z63 zU) (aC (z6k zU) (aC (z3R zU) (aC (z5c zU) aN)))))
def zbcQ:Nat->(yC->Bool×Int)
 | 0=>λ_=>(false,default)
 | n+1=>zGi (zbcQ n)
def zwr (n:Nat):yC->Bool×Int:=zbcQ n
theorem zbai (n:Nat):zwr (n+1)=zGi (zwr n):=rfl
theorem z5C:∀ n,SdP 109 (zoP (zwr n))
 | 0=>zba call109 (λ_=>rfl)
 | n+1=>by
  have ih:=z5C n;exact z1l _ (ih)
def zXm:yC->Bool×Int:=zwr 1000
def zQx:Ab.Spec ty:=zoP zXm
theorem z6N:SdP 109 zQx:=(z5C 1000)
abbrev zDt:=yC×Int×Int×Unit
abbrev zYp:=Bool⊕(yC×Int)
abbrev zDA:=yC×Int×Unit
def zyQ (a:yC) (i:Int) (k:Int):Wy zDt Unit zYp:=.i (decide (0<=i)&&decide (i<Int.ofNat a.length)) (.i (decide (k<Int.ofNat (a.getD i.toNat default).Fs.length)) (.i (decide (0<=i)&&decide (i<Int.ofNat a.length)) (.i (decide (0<=k)&&decide (k<Int.ofNat (a.getD i.toNat default).Fs.length)) (.i (decide (((a.getD i.toNat default).Fs.getD k.toNat default).Exp>64)) (.k (.inl false)) (.i (decide (0<=i)&&decide (i<Int.ofNat a.length)) (.i (decide (0<=k)&&decide (k<Int.ofNat (a.getD i.toNat default).Fs.length)) (.i (decide (Int.ofNat ((a.getD i.toNat default).Fs.getD k.toNat default).At.Items.length>1024)) (.k (.inl false)) (.h (a,i,(IntKind.i64.wrap (k+1)),()) ())) .d) .d)) .d) .d) (.k (.inr (a,i)))) .d
def zKL (x:zDt) (y:Unit):=zyQ x.1 x.2.1 x.2.2.1
def zYu (n:Nat) (a:yC) (i:Int) (k:Int):=zA (zKL) (.inl default) n (a,i,k,()) ()
def zbbK (r:zYp):LTree ty:=.ite (isL r) (.done .ret [.lit (.bool (getL r))] []) (.done (.exit 2) [.sl 28 (getR r).1,.lit (.int .i64 (getR r).2)] [])
def zbdc:LL ty zDt:=za (lSl 28) (za zj (za zj zk))
def zyL (a:yC) (i:Int):Wy zDA Unit (Bool⊕Unit):=.i (decide (i<Int.ofNat a.length)) (.i (decide (0<=i)&&decide (i<Int.ofNat a.length)) (.i (decide (Int.ofNat (a.getD i.toNat default).Fs.length>64)) (.k (.inl false)) (.bn (zYu ((a.length+i.toNat +Int.toNat 0+1)+zbD a) a i 0) λr0=>.i (isL r0) (.k (.inl (getL r0))) (.h ((getR r0).1,(IntKind.i64.wrap ((getR r0).2+1)),()) ()))) .d) (.k (.inr ()))
def zKb (x:zDA) (y:Unit):=zyL x.1 x.2.1
def zX0 (n:Nat) (a:yC) (i:Int):=zA (zKb) (.inl default) n (a,i,()) ()
def zbdn:LL ty zDA:=za (lSl 28) (za zj zk)
def zbbH (x:zDt) (y:Unit):Nat:=((x.1.length+Int.toNat x.2.1+Int.toNat x.2.2.1+1)+zbD x.1)
def zbbS (x:zDA) (y:Unit):Nat:=((x.1.length+Int.toNat x.2.1+1)+zbD x.1)
def zKd:=zbY base 65 [(108,zJQ),(109,zQx)] [] [(4,(kpL [0,3])),(9,(kpL [0,3,4]))] [(4,1,[]),(4,0,(kpL [2])),(9,3,(kpL [0,3])),(9,0,(kpL [2]))] [(9,spW zbdc zbc9 (zKL) (.inl default) zbbK zbbH),(4,spW zbdn zbc9 (zKb) (.inl default) zRs zbbS)] []
theorem zbb9:zy zKd (lp (body f54) 1):=zm (id:=9) (hl:=rfl)
theorem zbbZ:zy zKd (lp (body f54) 0):=zm (id:=4) (hl:=rfl)
def z2G (a:yC):Wy0 (Bool):=.i (decide (Int.ofNat a.length>512)) (.k false) (.bn (zKu a) λr4=>.i (decide (r4>8)) (.k false) (.bn (zXm a) λr3=>.i (decide (r3>4096)) (.k false) (.bn (zX0 ((a.length+Int.toNat 0+1)+zbD a) a 0) λr2=>.i (isL r2) (.k (getL r2)) (.k true))))
def zBv (a:yC):=(z2G a).fin default
def zE7:=zh z0t λx=>((zBv x.1).1,zZL (zBv x.1).2)
theorem zN2:SdP 54 zE7:=
 sT (cx':=zKd) (zi ⟨zY7,z6N,trivial⟩) call54 func54 (lOK (aC zbbZ (aC zbb9 aN)))
end Go.Proofs.YtljlfiomikifjaaGreatDoor
end
