/- Texts of this claim, joined (the program, its functions in plain words, and what they compute). -/
import Derived.Test.YtoknknbmfmddbaaGreatDoorGC5
set_option autoImplicit false
set_option linter.unusedVariables false
set_option linter.unusedSectionVars false
set_option linter.unusedSimpArgs false
set_option maxRecDepth 1000000
set_option maxHeartbeats 0
noncomputable section
namespace Go.Proofs.YtoknknbmfmddbaaGreatDoor
open Go Go.Ab
open Go.Proofs.Tryz
def ziF (zi:yB->yE->Bool×yE) (t12:yB) (t13:Int) (t14:Int) (t19:yC) (t20:Int) (t21:Int) (t31:yA) (t32:Int) (t33:Int) (f:Fc) (b2:yE):Wy ((Unit×Unit)×Unit×yB×Int×Int×yC×Int×Int×yA×Int×Int×Unit) ((Unit×Unit)×Fc×yE×Unit) (yB×Int×Int×yC×Int×Int×Fc×yE):=.i (decide (t33<t32)) (.i (decide ((0:Int)<=t33)&&decide (t33<Int.ofNat t31.length)) (.bn (zi (t31.getD t33.toNat default) b2) λr0=>.h (((),()),(),t12,t13,t14,t19,t20,t21,t31,t32,(IntKind.i64.wrap (t33+(1:Int))),()) (((),()),f,(r0),())) .d) (.k (t12,t13,t14,t19,t20,t21,f,b2))
def zme (zi:yB->yE->Bool×yE) (x:(Unit×Unit)×Unit×yB×Int×Int×yC×Int×Int×yA×Int×Int×Unit) (y:(Unit×Unit)×Fc×yE×Unit):Wy ((Unit×Unit)×Unit×yB×Int×Int×yC×Int×Int×yA×Int×Int×Unit) ((Unit×Unit)×Fc×yE×Unit) (yB×Int×Int×yC×Int×Int×Fc×yE):=ziF zi x.2.2.1 x.2.2.2.1 x.2.2.2.2.1 x.2.2.2.2.2.1 x.2.2.2.2.2.2.1 x.2.2.2.2.2.2.2.1 x.2.2.2.2.2.2.2.2.1 x.2.2.2.2.2.2.2.2.2.1 x.2.2.2.2.2.2.2.2.2.2.1 y.2.1 y.2.2.1
def zzI (zi:yB->yE->Bool×yE) (n:Nat) (t12:yB) (t13:Int) (t14:Int) (t19:yC) (t20:Int) (t21:Int) (t31:yA) (t32:Int) (t33:Int) (f:Fc) (b2:yE):Bool×(yB×Int×Int×yC×Int×Int×Fc×yE):=zD (zme zi) default n (((),()),(),t12,t13,t14,t19,t20,t21,t31,t32,t33,()) (((),()),f,b2,())
def zxW (r:yB×Int×Int×yC×Int×Int×Fc×yE):LTree ty:=.done (.exit 4) [.fn 144 ([.ptr 224 0]),.ptr 225 0,.sl 107 r.1,.lit (.int .i64 r.2.1),.lit (.int .i64 r.2.2.1),.sl 145 r.2.2.2.1,.lit (.int .i64 r.2.2.2.2.1),.lit (.int .i64 r.2.2.2.2.2.1)] [.box ([.own 226]) false,.box (base.enc 145 r.2.2.2.2.2.2.1) false,.arr 63 r.2.2.2.2.2.2.2 false]
def zzh:LL ty ((Unit×Unit)×Unit×yB×Int×Int×yC×Int×Int×yA×Int×Int×Unit):=za (lFn 144 (za (zde 224 0) zn)) (za (zde 225 0) (za (lSl 107) (za (zN .i64) (za (zN .i64) (za (lSl 145) (za (zN .i64) (za (zN .i64) (za (lSl 51) (za (zN .i64) (za (zN .i64) zn))))))))))
def zzR:BL ty ((Unit×Unit)×Fc×yE×Unit):=zev (za (zcG 226) zn) false (zev (zgF (λx=>(⟨⟨x.1,⟨x.2.1,x.2.2.1⟩,x.2.2.2.1,x.2.2.2.2.1,x.2.2.2.2.2.1,x.2.2.2.2.2.2.1,⟨x.2.2.2.2.2.2.2.1,x.2.2.2.2.2.2.2.2.1,x.2.2.2.2.2.2.2.2.2.1⟩⟩,x.2.2.2.2.2.2.2.2.2.2.1⟩:Fc)) (λx=>(x.At.Kind,x.At.Row.Table,x.At.Row.Seq,x.At.Ag,x.At.Func,x.At.Items,x.At.Op,x.At.Bd.Kind,x.At.Bd.Int,x.At.Bd.Text,x.Exp,())) (λ_=>rfl) (za (zN .i64) (za (zN .i64) (za (zN .i64) (za (lSl 51) (za (zN .i64) (za (lSl 169) (za (zN .i64) (za (zN .i64) (za (zN .i64) (za ztm (za (zN .i64) zn)))))))))))) false (zcV 63 false (zbd)))
def zie (zi:yB->yE->Bool×yE) (t12:yB) (t13:Int) (t14:Int) (t19:yC) (t20:Int) (t21:Int) (t43:yD) (t44:Int) (t45:Int) (b1:yE):Wy ((Unit×Unit)×yB×Int×Int×yC×Int×Int×yD×Int×Int×Unit) ((Unit×Unit)×yE×Unit) (yB×Int×Int×yC×Int×Int×yE):=.i (decide (t45<t44)) (.i (decide ((0:Int)<=t45)&&decide (t45<Int.ofNat t43.length)) (.bn (zi (t43.getD t45.toNat default).Ann b1) λr2=>.h (((),()),t12,t13,t14,t19,t20,t21,t43,t44,(IntKind.i64.wrap (t45+(1:Int))),()) (((),()),(r2),())) .d) (.k (t12,t13,t14,t19,t20,t21,b1))
def zld (zi:yB->yE->Bool×yE) (x:(Unit×Unit)×yB×Int×Int×yC×Int×Int×yD×Int×Int×Unit) (y:(Unit×Unit)×yE×Unit):Wy ((Unit×Unit)×yB×Int×Int×yC×Int×Int×yD×Int×Int×Unit) ((Unit×Unit)×yE×Unit) (yB×Int×Int×yC×Int×Int×yE):=zie zi x.2.1 x.2.2.1 x.2.2.2.1 x.2.2.2.2.1 x.2.2.2.2.2.1 x.2.2.2.2.2.2.1 x.2.2.2.2.2.2.2.1 x.2.2.2.2.2.2.2.2.1 x.2.2.2.2.2.2.2.2.2.1 y.2.1
def zya (zi:yB->yE->Bool×yE) (n:Nat) (t12:yB) (t13:Int) (t14:Int) (t19:yC) (t20:Int) (t21:Int) (t43:yD) (t44:Int) (t45:Int) (b1:yE):Bool×(yB×Int×Int×yC×Int×Int×yE):=zD (zld zi) default n (((),()),t12,t13,t14,t19,t20,t21,t43,t44,t45,()) (((),()),b1,())
def zxq (r:yB×Int×Int×yC×Int×Int×yE):LTree ty:=.done (.exit 6) [.fn 144 ([.ptr 224 0]),.sl 107 r.1,.lit (.int .i64 r.2.1),.lit (.int .i64 r.2.2.1),.sl 145 r.2.2.2.1,.lit (.int .i64 r.2.2.2.2.1),.lit (.int .i64 r.2.2.2.2.2.1)] [.box ([.own 225]) false,.arr 63 r.2.2.2.2.2.2 false]
def zyf:LL ty ((Unit×Unit)×yB×Int×Int×yC×Int×Int×yD×Int×Int×Unit):=za (lFn 144 (za (zde 224 0) zn)) (za (lSl 107) (za (zN .i64) (za (zN .i64) (za (lSl 145) (za (zN .i64) (za (zN .i64) (za (lSl 169) (za (zN .i64) (za (zN .i64) zn)))))))))
def zxS:BL ty ((Unit×Unit)×yE×Unit):=zev (za (zcG 225) zn) false (zcV 63 false (zbd))
def ziZ (zi:yB->yE->Bool×yE) (t12:yB) (t13:Int) (t14:Int) (t19:yC) (t20:Int) (t21:Int) (b1:yE):Wy ((Unit×Unit)×yB×Int×Int×yC×Int×Int×Unit) ((Unit×Unit)×yE×Unit) (yB×Int×Int×yE):=.i (decide (t21<t20)) (.i (decide ((0:Int)<=t21)&&decide (t21<Int.ofNat t19.length)) (.bn (zhH (At.mk (t19.getD t21.toNat default).At.Kind (t19.getD t21.toNat default).At.Row (t19.getD t21.toNat default).At.Ag (t19.getD t21.toNat default).At.Func (t19.getD t21.toNat default).At.Items (t19.getD t21.toNat default).At.Op (t19.getD t21.toNat default).At.Bd) b1) λr6=>.bn (zzI zi (t12.length+t13.toNat +t14.toNat +t19.length+t20.toNat +t21.toNat +(t19.getD t21.toNat default).At.Ag.length+(Int.ofNat (t19.getD t21.toNat default).At.Ag.length).toNat +Int.toNat (0:Int)+(t19.getD t21.toNat default).At.Ag.length+(t19.getD t21.toNat default).At.Items.length+r6.length+(1000:Nat)) t12 t13 t14 t19 t20 t21 (t19.getD t21.toNat default).At.Ag (Int.ofNat (t19.getD t21.toNat default).At.Ag.length) (0:Int) (FO.mk (At.mk (t19.getD t21.toNat default).At.Kind (t19.getD t21.toNat default).At.Row (t19.getD t21.toNat default).At.Ag (t19.getD t21.toNat default).At.Func (t19.getD t21.toNat default).At.Items (t19.getD t21.toNat default).At.Op (t19.getD t21.toNat default).At.Bd) (t19.getD t21.toNat default).Exp) r6) λr5=>.bn (zya zi (r5.fst.length+r5.snd.fst.toNat +r5.snd.snd.fst.toNat +r5.snd.snd.snd.fst.length+r5.snd.snd.snd.snd.fst.toNat +r5.snd.snd.snd.snd.snd.fst.toNat +r5.snd.snd.snd.snd.snd.snd.fst.At.Items.length+(Int.ofNat r5.snd.snd.snd.snd.snd.snd.fst.At.Items.length).toNat +Int.toNat (0:Int)+r5.snd.snd.snd.snd.snd.snd.snd.length+(1000:Nat)) r5.fst r5.snd.fst r5.snd.snd.fst r5.snd.snd.snd.fst r5.snd.snd.snd.snd.fst r5.snd.snd.snd.snd.snd.fst r5.snd.snd.snd.snd.snd.snd.fst.At.Items (Int.ofNat r5.snd.snd.snd.snd.snd.snd.fst.At.Items.length) (0:Int) r5.snd.snd.snd.snd.snd.snd.snd) λr4=>.h (((),()),(r4.fst),(r4.snd.fst),(r4.snd.snd.fst),(r4.snd.snd.snd.fst),(r4.snd.snd.snd.snd.fst),(IntKind.i64.wrap (r4.snd.snd.snd.snd.snd.fst+(1:Int))),()) (((),()),(r4.snd.snd.snd.snd.snd.snd),())) .d) (.k (t12,t13,t14,b1))
def zmG (zi:yB->yE->Bool×yE) (x:(Unit×Unit)×yB×Int×Int×yC×Int×Int×Unit) (y:(Unit×Unit)×yE×Unit):Wy ((Unit×Unit)×yB×Int×Int×yC×Int×Int×Unit) ((Unit×Unit)×yE×Unit) (yB×Int×Int×yE):=ziZ zi x.2.1 x.2.2.1 x.2.2.2.1 x.2.2.2.2.1 x.2.2.2.2.2.1 x.2.2.2.2.2.2.1 y.2.1
def zy8 (zi:yB->yE->Bool×yE) (n:Nat) (t12:yB) (t13:Int) (t14:Int) (t19:yC) (t20:Int) (t21:Int) (b1:yE):Bool×(yB×Int×Int×yE):=zD (zmG zi) default n (((),()),t12,t13,t14,t19,t20,t21,()) (((),()),b1,())
def zyc (r:yB×Int×Int×yE):LTree ty:=.done (.exit 2) [.fn 144 ([.ptr 224 0]),.sl 107 r.1,.lit (.int .i64 r.2.1),.lit (.int .i64 r.2.2.1)] [.box ([.own 225]) false,.arr 63 r.2.2.2 false]
def zzg:LL ty ((Unit×Unit)×yB×Int×Int×yC×Int×Int×Unit):=za (lFn 144 (za (zde 224 0) zn)) (za (lSl 107) (za (zN .i64) (za (zN .i64) (za (lSl 145) (za (zN .i64) (za (zN .i64) zn))))))
def ziL (zi:yB->yE->Bool×yE) (t12:yB) (t13:Int) (t14:Int) (b1:yE):Wy ((Unit×Unit)×yB×Int×Int×Unit) ((Unit×Unit)×yE×Unit) (yE):=.i (decide (t14<t13)) (.i (decide ((0:Int)<=t14)&&decide (t14<Int.ofNat t12.length)) (.bn (zy8 zi (t12.length+t13.toNat +t14.toNat +(t12.getD t14.toNat default).Fs.length+(Int.ofNat (t12.getD t14.toNat default).Fs.length).toNat +Int.toNat (0:Int)+b1.length+(1000:Nat)) t12 t13 t14 (t12.getD t14.toNat default).Fs (Int.ofNat (t12.getD t14.toNat default).Fs.length) (0:Int) b1) λr10=>.h (((),()),(r10.fst),(r10.snd.fst),(IntKind.i64.wrap (r10.snd.snd.fst+(1:Int))),()) (((),()),(r10.snd.snd.snd),())) .d) (.k b1)
def zmm (zi:yB->yE->Bool×yE) (x:(Unit×Unit)×yB×Int×Int×Unit) (y:(Unit×Unit)×yE×Unit):Wy ((Unit×Unit)×yB×Int×Int×Unit) ((Unit×Unit)×yE×Unit) (yE):=ziL zi x.2.1 x.2.2.1 x.2.2.2.1 y.2.1
def zzK (zi:yB->yE->Bool×yE) (n:Nat) (t12:yB) (t13:Int) (t14:Int) (b1:yE):Bool×yE:=zD (zmm zi) default n (((),()),t12,t13,t14,()) (((),()),b1,())
def zym (r:yE):LTree ty:=.done (.exit 0) [.fn 144 ([.ptr 224 0])] [.box ([.own 225]) false,.arr 63 r false]
def zzz:LL ty ((Unit×Unit)×yB×Int×Int×Unit):=za (lFn 144 (za (zde 224 0) zn)) (za (lSl 107) (za (zN .i64) (za (zN .i64) zn)))
def zqa (zi:yB->yE->Bool×yE):Cx ty:=z0W base [(143,(ziI zi)),(144,zkN)]
theorem zFj (zi:yB->yE->Bool×yE) (ztC:SoundC Tryz.prog base 143 (ziI zi)):CxOK Tryz.prog (zqa zi):=z2K zdj ⟨ztC,zrB,trivial⟩
def zi1 (zi:yB->yE->Bool×yE):Cx ty:=zb4 (zqa zi) 56 [] [] [(1,[(1,.keep),(12,.keep),(13,.keep),(14,.keep)]),(4,[(1,.keep),(12,.keep),(13,.keep),(14,.keep),(19,.keep),(20,.keep),(21,.keep)]),(8,[(1,.keep),(7,.keep),(12,.keep),(13,.keep),(14,.keep),(19,.keep),(20,.keep),(21,.keep),(31,.keep),(32,.keep),(33,.keep)]),(13,[(1,.keep),(12,.keep),(13,.keep),(14,.keep),(19,.keep),(20,.keep),(21,.keep),(43,.keep),(44,.keep),(45,.keep)])] [(1,1,[(1,.keep)]),(4,3,[(1,.keep),(12,.keep),(13,.keep),(14,.keep)]),(8,5,[(1,.keep),(7,.keep),(12,.keep),(13,.keep),(14,.keep),(19,.keep),(20,.keep),(21,.keep)]),(13,7,[(1,.keep),(12,.keep),(13,.keep),(14,.keep),(19,.keep),(20,.keep),(21,.keep)])] [(8,spW zzh zzR (zme zi) default zxW λx y=>(x.2.2.1.length+Int.toNat x.2.2.2.1+Int.toNat x.2.2.2.2.1+x.2.2.2.2.2.1.length+Int.toNat x.2.2.2.2.2.2.1+Int.toNat x.2.2.2.2.2.2.2.1+x.2.2.2.2.2.2.2.2.1.length+Int.toNat x.2.2.2.2.2.2.2.2.2.1+Int.toNat x.2.2.2.2.2.2.2.2.2.2.1+y.2.1.At.Ag.length+y.2.1.At.Items.length+y.2.2.1.length+1000)),(13,spW zyf zxS (zld zi) default zxq λx y=>(x.2.1.length+Int.toNat x.2.2.1+Int.toNat x.2.2.2.1+x.2.2.2.2.1.length+Int.toNat x.2.2.2.2.2.1+Int.toNat x.2.2.2.2.2.2.1+x.2.2.2.2.2.2.2.1.length+Int.toNat x.2.2.2.2.2.2.2.2.1+Int.toNat x.2.2.2.2.2.2.2.2.2.1+y.2.1.length+1000)),(4,spW zzg zxS (zmG zi) default zyc λx y=>(x.2.1.length+Int.toNat x.2.2.1+Int.toNat x.2.2.2.1+x.2.2.2.2.1.length+Int.toNat x.2.2.2.2.2.1+Int.toNat x.2.2.2.2.2.2.1+y.2.1.length+1000)),(1,spW zzz zxS (zmm zi) default zym λx y=>(x.2.1.length+Int.toNat x.2.2.1+Int.toNat x.2.2.2.1+y.2.1.length+1000))] []
theorem zK1 (zi:yB->yE->Bool×yE):zM (zi1 zi) (lp (body f143) 2):=zu (id:=8) (V:=zzh) (B:=zzR) (W:=zme zi) (z:=default) (tr:=zxW) (m:=λx y=>(x.2.2.1.length+Int.toNat x.2.2.2.1+Int.toNat x.2.2.2.2.1+x.2.2.2.2.2.1.length+Int.toNat x.2.2.2.2.2.2.1+Int.toNat x.2.2.2.2.2.2.2.1+x.2.2.2.2.2.2.2.2.1.length+Int.toNat x.2.2.2.2.2.2.2.2.2.1+Int.toNat x.2.2.2.2.2.2.2.2.2.2.1+y.2.1.At.Ag.length+y.2.1.At.Items.length+y.2.2.1.length+1000)) (by kernel_rfl) (by kernel_rfl) λR H K x y=>by kernel_rfl
theorem zIY (zi:yB->yE->Bool×yE):zM (zi1 zi) (lp (body f143) 3):=zu (id:=13) (V:=zyf) (B:=zxS) (W:=zld zi) (z:=default) (tr:=zxq) (m:=λx y=>(x.2.1.length+Int.toNat x.2.2.1+Int.toNat x.2.2.2.1+x.2.2.2.2.1.length+Int.toNat x.2.2.2.2.2.1+Int.toNat x.2.2.2.2.2.2.1+x.2.2.2.2.2.2.2.1.length+Int.toNat x.2.2.2.2.2.2.2.2.1+Int.toNat x.2.2.2.2.2.2.2.2.2.1+y.2.1.length+1000)) (by kernel_rfl) (by kernel_rfl) λR H K x y=>by kernel_rfl
theorem zKw (zi:yB->yE->Bool×yE):zM (zi1 zi) (lp (body f143) 1):=zu (id:=4) (V:=zzg) (B:=zxS) (W:=zmG zi) (z:=default) (tr:=zyc) (m:=λx y=>(x.2.1.length+Int.toNat x.2.2.1+Int.toNat x.2.2.2.1+x.2.2.2.2.1.length+Int.toNat x.2.2.2.2.2.1+Int.toNat x.2.2.2.2.2.2.1+y.2.1.length+1000)) (by kernel_rfl) (by kernel_rfl) λR H K x y=>by kernel_rfl
theorem zKk (zi:yB->yE->Bool×yE):zM (zi1 zi) (lp (body f143) 0):=zu (id:=1) (V:=zzz) (B:=zxS) (W:=zmm zi) (z:=default) (tr:=zym) (m:=λx y=>(x.2.1.length+Int.toNat x.2.2.1+Int.toNat x.2.2.2.1+y.2.1.length+1000)) (by kernel_rfl) (by kernel_rfl) λR H K x y=>by kernel_rfl
def ztR (zi:yB->yE->Bool×yE) (a:yB) (out_:yE):Wy0 (yE):=.bn (zzK zi (a.length+(Int.ofNat a.length).toNat +Int.toNat (0:Int)+out_.length+(1000:Nat)) a (Int.ofNat a.length) (0:Int) out_) λr12=>.k r12
def zlQ (zi:yB->yE->Bool×yE) (a:yB) (out_:yE):Bool×yE:=(ztR zi a out_).fin default
theorem zIi (zi:yB->yE->Bool×yE) (ztC:SoundC Tryz.prog base 143 (ziI zi)):SoundC Tryz.prog base 143 (ziI (zlQ zi)):=
 SoundC.cg zyp.symm (λe=>e) (SoundC.recode (A':=zDl) (λ_=>rfl) (z10 (cx:=(zqa zi)) (cx':=(zi1 zi)) zrR (zFj zi ztC) zNa (zk trivial) call143 func143 (c:=body f143) (by kernel_rfl) (zjI (l:=[lp (body f143) 0,lp (body f143) 1,lp (body f143) 2,lp (body f143) 3]) (by kernel_rfl) ⟨zKk zi,zKw zi,zK1 zi,zIY zi,trivial⟩) (g0:=(some 144)) (A:=zrP (vSl 107) zcr) (T:=63) (W:=λx l=>ztR zi x.1 l) (z:=default) (λx l=>by kernel_rfl) (λ_=>by kernel_rfl) (by kernel_rfl)))
def ziX:Nat->yB->yE->Bool×yE
 | 0=>λ_ _=>(false,default)
 | n+1=>zlQ (ziX n)
theorem zNw (n:Nat):ziX (n+1)=zlQ (ziX n):=rfl
theorem zxx:∀ n,SoundC Tryz.prog base 143 (ziI (ziX n))
 | 0=>z2T call143 (λ_ _=>rfl)
 | n+1=>zIi _ (zxx n)
def zyV:yB->yE->Bool×yE:=ziX 1000
def zzq:CSpec ty:=ziI zyV
theorem zKe:SoundC Tryz.prog base 143 zzq:=zxx 1000
def zU5:=zbG base 17 [(167,zjE),(168,zjU)]
def zIu (a:RowID) (b:RowID):Wy0 (Int):=.bn (zdo a.Table b.Table) λr2=>.bn (zdo a.Seq b.Seq) λr1=>.bn (zk3 [r2,r1]) λr0=>.k r0
def zeO (a:RowID) (b:RowID):=(zIu a b).fin default
def zvj:=zh zSA λx=>((zeO x.1 x.2.1).1,zLf (zeO x.1 x.2.1).2)
theorem zAs:SdP 147 zvj:=
 sT (cx':=zU5) (zk ⟨zkV,zmC,trivial⟩) call147 func147 (lOK aN)
def zed:Cx ty:={ base with nt:=8 }
def zdE (s:yE):Bool×yE:=(decide (s.length*16<=zbm),s)
def zkM:Ab.Spec ty:=zh (cx:=base) (zd (zg (vSl 63)) zw) λx=>((zdE x.1).1,⟨[.own 63 (zdE x.1).2],[]⟩)
theorem zvT:zdu zed f145 (body f145) ⟨[.own 63],[]⟩ [.pure (.lit (.slice none 0 0))]=some ⟨[.own 63 []],[]⟩:=by kernel_rfl
theorem zt9 (p:Addr) (c:Nat):zdu zed f145 (body f145) ⟨[.own 63],[]⟩ [.pure (.lit (.slice (some p) 0 c))]=some ⟨[.own 63 []],[]⟩:=by kernel_rfl
theorem zve (l:yE):zdu zed f145 (body f145) ⟨[.own 63],[]⟩ [.pure (.sl 63 l)]=bif !l.isEmpty then bif decide ((([]:List (ty 63)).length+l.length)*16<=zbm) then some ⟨[.own 63 l],[]⟩ else none else none:=by kernel_rfl
theorem zuK:SdP 145 zkM:=
 zrv (cx':=zed) (bytes:=16) zrR zdj ⟨⟨rfl,rfl,rfl,rfl,rfl,rfl⟩,rfl⟩ (λg s h=>by cases h) call145 func145 (c:=body f145) (by kernel_rfl) (zjI (l:=[]) (by kernel_rfl) trivial) zvT zt9 zve (by kernel_rfl)
abbrev zeG:=Unit×Int×(Nat×Nat)×Int×Unit
abbrev zbU:=yE×Unit
abbrev zna:=Int×yE
abbrev zhM:=Unit×Int×Unit
abbrev zni:=(Nat×yE)⊕yE
def zf5 (k:Int) (s2_0:Nat) (s2_1:Nat) (k2:Int) (s:yE):Wy zeG zbU zna:=.i (decide (k2<Int.ofNat s2_1)) (.i (decide (0<=k2)&&decide (k2<Int.ofNat s2_1)) (.i (decide (0<=IntKind.i64.wrap (k2 - 1))&&decide (IntKind.i64.wrap (k2 - 1)<Int.ofNat s2_1)) (.i (!((s.getD (s2_0+k2.toNat) default).Table==(s.getD (s2_0+(IntKind.i64.wrap (k2 - 1)).toNat) default).Table&&((s.getD (s2_0+k2.toNat) default).Seq==(s.getD (s2_0+(IntKind.i64.wrap (k2 - 1)).toNat) default).Seq&&true))) (.i (decide (0<=k2)&&decide (k2<Int.ofNat s2_1)) (.i (decide (0<=k)&&decide (k<Int.ofNat s.length)) (.i (decide (k.toNat<s.length)) (.h ((),(IntKind.i64.wrap (k+1)),(s2_0,s2_1),(IntKind.i64.wrap (k2+1)),()) ((s.set k.toNat (s.getD (s2_0+k2.toNat) default)),())) .d) .d) .d) (.h ((),k,(s2_0,s2_1),(IntKind.i64.wrap (k2+1)),()) (s,()))) .d) .d) (.k (k,s))
def zkG (x:zeG) (y:zbU):=zf5 x.2.1 x.2.2.1.1 x.2.2.1.2 x.2.2.2.1 y.1
def zdP (n:Nat) (k:Int) (s2_0:Nat) (s2_1:Nat) (k2:Int) (s:yE):=zD (zkG) default n ((),k,(s2_0,s2_1),k2,()) (s,())
def zul (r:zna):LTree ty:=.done (.exit 2) [.own 244,.lit (.int .i64 r.1)] [.arr 63 r.2 false]
def zvf:LL ty zeG:=za (zcG 244) (za zj (za (zbbn 244) (za zj zn)))
def zvr:BL ty zbU:=zcV 63 false (zbd)
def zf6 (k:Int) (s:yE):Wy zhM zbU zni:=.i (decide (k<Int.ofNat s.length)) (.i (decide (0<=k)&&decide (k<Int.ofNat s.length)) (.i (decide (0<=IntKind.i64.wrap (k - 1))&&decide (IntKind.i64.wrap (k - 1)<Int.ofNat s.length)) (.i ((s.getD k.toNat default).Table==(s.getD (IntKind.i64.wrap (k - 1)).toNat default).Table&&((s.getD k.toNat default).Seq==(s.getD (IntKind.i64.wrap (k - 1)).toNat default).Seq&&true)) (.i (decide (0<=k)&&decide (k<=Int.ofNat s.length)&&decide (Int.ofNat s.length<=Int.ofNat s.length)) (.bn (zdP (k.toNat +k.toNat +((Int.ofNat s.length).toNat - k.toNat)+Int.toNat 1+s.length+1000) k k.toNat ((Int.ofNat s.length).toNat - k.toNat) 1 s) λr0=>.i (decide (0<=r0.1)&&decide (r0.1<=Int.ofNat r0.2.length)&&decide (Int.ofNat r0.2.length<=Int.ofNat r0.2.length)) (.i (decide (r0.1.toNat +((Int.ofNat r0.2.length).toNat - r0.1.toNat)<=r0.2.length)) (.i (decide ((0:Int)<=(0:Int))&&decide (0<=r0.1)&&decide (r0.1<=Int.ofNat (List.take r0.1.toNat r0.2++List.replicate ((Int.ofNat r0.2.length).toNat - r0.1.toNat) (RowID.mk 0 0)++List.drop (r0.1.toNat +((Int.ofNat r0.2.length).toNat - r0.1.toNat)) r0.2).length)) (.k (.inl (r0.1.toNat - Int.toNat 0,List.take r0.1.toNat r0.2++List.replicate ((Int.ofNat r0.2.length).toNat - r0.1.toNat) (RowID.mk 0 0)++List.drop (r0.1.toNat +((Int.ofNat r0.2.length).toNat - r0.1.toNat)) r0.2))) .d) .d) .d) .d) (.h ((),(IntKind.i64.wrap (k+1)),()) (s,()))) .d) .d) (.k (.inr s))
def zkC (x:zhM) (y:zbU):=zf6 x.2.1 y.1
def zcW (n:Nat) (k:Int) (s:yE):=zD (zkC) (.inl default) n ((),k,()) (s,())
def zup (r:zni):LTree ty:=.ite (isL r) (.done .ret [.sub 244 0 ((getL r).1)] [.arr 63 ((getL r).2) false]) (.done (.exit 0) [.own 244] [.arr 63 (getR r) false])
def zvt:LL ty zhM:=za (zcG 244) (za zj zn)
def zt5 (x:zeG) (y:zbU):Nat:=(Int.toNat x.2.1+x.2.2.1.1+x.2.2.1.2+Int.toNat x.2.2.2.1+y.1.length+1000)
def zf4:=zb4 base 61 [] [] [(4,(kpL [0,3])),(9,(kpL [0,3,4,5]))] [(4,1,(kpL [0])),(4,0,(kpL [2])),(9,3,(kpL [0,3]))] [(9,spW zvf zvr (zkG) default zul zt5),(4,spW zvt zvr (zkC) (.inl default) zup λx y=>(Int.toNat x.2.1+y.1.length+1000))] []
theorem zt7:zM zf4 (lp (body f148) 1):=zu (id:=9) (hl:=rfl)
theorem zt8:zM zf4 (lp (body f148) 0):=zu (id:=4) (hl:=rfl)
def zvW (s:yE):Wy0 (yE):=.i (decide (Int.ofNat s.length<2)) (.k s) (.bn (zcW (Int.toNat 1+s.length+1000) 1 s) λr2=>.i (isL r2) (.k (List.take (getL r2).1 (getL r2).2)) (.k (getR r2)))
def zcE (s:yE):=(zvW s).fin default
def zuf (r:yE):ARes ty:=⟨[.own 63 r],[none]⟩
def zv5:AL base zbU:=zd (zkO 63) zw
def zjL:=zh zv5 λx=>((zcE x.1).1,zuf (zcE x.1).2)
theorem zsW:SdP 148 zjL:=
 sT (cx':=zf4) (zk trivial) call148 func148 (lOK (aC zt8 (aC zt7 aN))) (sg:=⟨[.own 63],[false]⟩)
def zcz (x:yE):Bool×yE:=zIm (λa b=>zeO a b) x
def zjj:Ab.Spec ty:=zh (cx:=base) (zd (zkO 63) (zd (zg (vFn 147 (zcr))) zw)) λx=>((zcz x.1).1,⟨[],[some ⟨63,(zcz x.1).2⟩]⟩)
theorem ztr (c:Unit) (x y:RowID) (h:(zeO x y).1=true):zvj ((AV.agg (base.enc 63 x)::AV.agg (base.enc 63 y)::(zcr:VL base (Unit)).enc c).map Arg.pure)=some (true,⟨[.pure (.lit (.int .i64 (zeO x y).2))],[]⟩):=by
 rw [<- h]; kernel_rfl
theorem zsq:SdP 146 zjj:=by
 letI:DecidableEq (ty 63):=inferInstanceAs (DecidableEq RowID)
 exact z3n (T:=63) zdj rfl Go.Proofs.Tryz.sortRow Tryz.isAgg63 (by unfold zo; exact Tryz.sizeOf63) call146 zAs (zcr) (λc=>λa b=>zeO a b) ztr
def zQq:=zb4 base 10 [(145,zkM),(146,zjj),(147,zvj),(148,zjL)] [(146,[true,false]),(148,[true])] [] [] [] []
def zSX (l:yE):Wy0 (yE):=.bn (zdE l) λr2=>.bn (zcz r2) λr1=>.bn (zcE r1) λr0=>.k r0
def zkY (l:yE):=(zSX l).fin default
def zOd (r:yE):ARes ty:=⟨[.own 63 r],[]⟩
def zTT:AL base (yE×Unit):=zd (zg (vSl 63)) zw
def zsk:=zh zTT λx=>((zkY x.1).1,zOd (zkY x.1).2)
theorem zyn:SdP 83 zsk:=
 sT (cx':=zQq) (zk ⟨zuK,zsq,zAs,zsW,trivial⟩) call83 func83 (lOK aN) (sg:=⟨[.own 63],[]⟩)
def zjc:Cx ty:=z0W base [(143,zzq),(144,zkN)]
theorem zCG:CxOK Tryz.prog zjc:=z2K zdj ⟨zKe,zrB,trivial⟩
def zIw:=zbG zjc 9 [(83,zsk)]
def zye (a:yB):Wy0 (yE):=.bn (zyV a []) λr1=>.bn (zkY r1) λr0=>.k r0
def zjw (a:yB):=(zye a).fin default
def zKi:AL zjc (yB×Unit):=zd (zg (vSl 107)) zw
def znD:=zh zKi λx=>((zjw x.1).1,zOd (zjw x.1).2)
theorem zDC:Sound Tryz.prog zjc 82 znD:=
 sW (cx':=zIw) zrR zCG zNa (zk ⟨(Sound.cg0 zyp (λe=>e) (zyn)),trivial⟩) call82 func82 (c:=body f82) (lOK aN) (sg:=⟨[.own 63],[]⟩)
theorem zET:SdP 82 znD:=Sound.cg0 zyp.symm (λe=>e) zDC
abbrev zmB:=Unit×yG×Int×Int×Unit
abbrev zma:=yE×Unit
def ziK (t7:yG) (t8:Int) (t9:Int) (out_:yE):Wy zmB zma (yE):=.i (decide (t9<t8)) (.i (decide (0<=t9)&&decide (t9<Int.ofNat t7.length)) (.bn (zjw (t7.getD t9.toNat default).Ann) λr0=>.i (decide ((out_.length+r0.length)*16<=zbm)) (.h ((),t7,t8,(IntKind.i64.wrap (t9+1)),()) ((out_++r0),())) .d) .d) (.k out_)
def zsa (x:zmB) (y:zma):=ziK x.2.1 x.2.2.1 x.2.2.2.1 y.1
def zzo (n:Nat) (t7:yG) (t8:Int) (t9:Int) (out_:yE):=zD (zsa) default n ((),t7,t8,t9,()) (out_,())
def zLl (r:yE):LTree ty:=.done (.exit 0) [.own 84] [.arr 63 r false]
def zMW:LL ty zmB:=za (zcG 84) (za (lSl 54) (za zj (za zj zn)))
def zLO:BL ty zma:=zcV 63 false (zbd)
def zKF (x:zmB) (y:zma):Nat:=(x.2.1.length+Int.toNat x.2.2.1+Int.toNat x.2.2.2.1+y.1.length+1000)
def zy9:=zb4 base 21 [(82,znD),(83,zsk)] [] [(3,[(3,.own 63),(7,.keep),(8,.keep),(9,.keep)])] [(3,1,(kpL [3]))] [(3,spW zMW zLO (zsa) default zLl zKF)] []
theorem zKc:zM zy9 (lp (body f39) 0):=zu (id:=3) (hl:=rfl)
def zAi (r:Relation):Wy0 (yE):=.bn (zzo (r.Rows.length+(Int.ofNat r.Rows.length).toNat +Int.toNat 0+0+1000) r.Rows (Int.ofNat r.Rows.length) 0 []) λr3=>.bn (zkY r3) λr2=>.k r2
def zlI (r:Relation):=(zAi r).fin default
def zOb:AL base (Relation×Unit):=zd (zg (zcj 25)) zw
def zxi:=zh zOb λx=>((zlI x.1).1,zOd (zlI x.1).2)
theorem zHr:SdP 39 zxi:=
 sT (cx':=zy9) (zk ⟨zET,zyn,trivial⟩) call39 func39 (lOK (aC zKc aN)) (sg:=⟨[.own 63],[]⟩)
abbrev zkm:=yH×Unit×Unit×yE×Int×Unit
abbrev zdZ:=Relation×yE×Unit
abbrev zxe:=Bool⊕(yH×Relation)
abbrev zpV:=yH×Unit×Unit×yE×Unit
abbrev zfg:=yH×Unit×Unit
abbrev zfi:=Relation×Unit
def zhJ (values:yH) (m:yE) (i:Int) (r:Relation) (l:yE):Wy zkm zdZ zxe:=.i (decide (i<Int.ofNat l.length)) (.i (decide (0<=i)&&decide (i<Int.ofNat l.length)) (.i (decide (0<=i)&&decide (i<Int.ofNat m.length)) (.i (!((l.getD i.toNat default).Table==(m.getD i.toNat default).Table&&((l.getD i.toNat default).Seq==(m.getD i.toNat default).Seq&&true))) (.k (.inl false)) (.h (values,(),(),m,(IntKind.i64.wrap (i+1)),()) (r,l,()))) .d) .d) (.k (.inr (values,r)))
def zpW (x:zkm) (y:zdZ):=zhJ x.1 x.2.2.2.1 x.2.2.2.2.1 y.1 y.2.1
def zw9 (n:Nat) (values:yH) (m:yE) (i:Int) (r:Relation) (l:yE):=zD (zpW) (.inl default) n (values,(),(),m,i,()) (r,l,())
def zHl (r:zxe):LTree ty:=.ite (isL r) (.done .ret [.lit (.bool (getL r))] []) (.done (.exit 0) [.sl 79 (getR r).1,.ptr 200 0] [.box (base.enc 25 (getR r).2) false])
def zI4:LL ty zkm:=za (lSl 79) (za (zde 200 0) (za (zcG 201) (za (lSl 63) (za zj zn))))
def zIJ:BL ty zdZ:=zev (zgF (λx=>(⟨x.1,x.2.1⟩:Relation)) (λx=>(x.Columns,x.Rows,())) (λ_=>rfl) (za (lSl 75) (za (lSl 54) zn))) false (zcV 63 false (zbd))
def zp7 (values:yH) (m:yE) (r:Relation) (l:yE):Wy zpV zdZ (Bool):=.bn (zw9 (values.length+m.length+Int.toNat 0+r.Columns.length+r.Rows.length+l.length+1000) values m 0 r l) λr3=>.i (isL r3) (.k (getL r3)) (.bn (zuu (getR r3).2 (getR r3).1) λr2=>.bn (zAU (getR r3).2 (getR r3).1) λr1=>.bn (zAv r2 r1) λr0=>.k r0)
def zpT (x:zpV) (y:zdZ):=zp7 x.1 x.2.2.2.1 y.1 y.2.1
def zxn (n:Nat) (values:yH) (m:yE) (r:Relation) (l:yE):=zD (zpT) default n (values,(),(),m,()) (r,l,())
def zHt (r:Bool):LTree ty:=.done .ret [.lit (.bool r)] []
def zI9:LL ty zpV:=za (lSl 79) (za (zde 200 0) (za (zcG 201) (za (lSl 63) zn)))
def zpJ (values:yH) (r:Relation):Wy zfg zfi (Bool):=.bn (zlI r) λr10=>.bn (zqB r) λr9=>.i (Int.ofNat r10.length != Int.ofNat r9.length) (.k false) (.bn (zxn 1 values r9 r r10) λr8=>.k r8)
def zpG (x:zfg) (y:zfi):=zpJ x.1 y.1
def zxj (n:Nat) (values:yH) (r:Relation):=zD (zpG) default n (values,(),()) (r,())
def zJx:LL ty zfg:=za (lSl 79) (za (zde 200 0) zn)
def zI1:BL ty zfi:=zev (zgF (λx=>(⟨x.1,x.2.1⟩:Relation)) (λx=>(x.Columns,x.Rows,())) (λ_=>rfl) (za (lSl 75) (za (lSl 54) zn))) false (zbd)
def zpZ (values:yH) (r:Relation):Wy zfg zfi (Bool):=.bn (zzp 8 30 [r]) λr16=>.i (!r16) (.k true) (.bn (zn8 values 20) λr15=>.i (!r15) (.k true) (.bn (zxj 1 values r) λr14=>.k r14))
def zpQ (x:zfg) (y:zfi):=zpZ x.1 y.1
def zxk (n:Nat) (values:yH) (r:Relation):=zD (zpQ) default n (values,(),()) (r,())
def zHK (x:zkm) (y:zdZ):Nat:=(x.1.length+x.2.2.2.1.length+Int.toNat x.2.2.2.2.1+y.1.Columns.length+y.1.Rows.length+y.2.1.length+1000)
def zhx:=z4p zby 50 [(10,zG6),(11,zMM),(18,zyU),(33,zKa),(34,zDL),(39,zxi),(40,zAW),(41,zJ6)] [] [(9,(kpL [1,2,5,6,7])),(3,(kpL [1,2])),(5,(kpL [1,2])),(8,(kpL [1,2,5,6]))] [(9,1,(kpL [1,2])),(9,0,(kpL [4])),(3,0,(kpL [4])),(5,0,(kpL [4])),(8,0,(kpL [4]))] [(9,spW zI4 zIJ (zpW) (.inl default) zHl zHK)] [] [(8,spW zI9 zIJ (zpT) default zHt λx y=>(1)),(5,spW zJx zI1 (zpG) default zHt λx y=>(1)),(3,spW zJx zI1 (zpQ) default zHt λx y=>(1))]
theorem zGN:zM zhx (lp (body f9) 0):=zu (id:=9) (hl:=rfl)
theorem zHo:zMb zhx (jn (body f9) 8):=zWi (id:=8) (hl:=rfl)
theorem zHv:zMb zhx (jn (body f9) 5):=zWi (id:=5) (hl:=rfl)
theorem zHI:zMb zhx (jn (body f9) 3):=zWi (id:=3) (hl:=rfl)
def zxT (r:Relation) (values:yH):Wy0 (Bool):=.bn (zxk 1 values r) λr20=>.k r20
def zho (r:Relation) (values:yH):=(zxT r values).fin default
def zLK:AL zby (Relation×yH×Unit):=zd (zg (zcj 25)) (zd (zg (vSl 79)) zw)
def zn7:=zh zLK λx=>((zho x.1 x.2.1).1,zQZ (zho x.1 x.2.1).2)
theorem zEG:Sound Tryz.prog zby 9 zn7:=
 zYU (cx':=zhx) zrR zPy z8x (z60 ⟨zUu,zXx.nodr,zFC.nodr,zWt.nodr,zQT.nodr,zHr.nodr,zNC.nodr,zWD.nodr,trivial⟩) call9 func9 (c:=body f9) (by kernel_rfl) (z0a (l:=[lp (body f9) 0]) (by kernel_rfl) ⟨zGN,trivial⟩ (js:=[jn (body f9) 3,jn (body f9) 5,jn (body f9) 8]) (by kernel_rfl) ⟨zHI,zHv,zHo,trivial⟩) (sg:=⟨[.pure],[]⟩)
def trV (v:Value):TT:=.l [.i v.Kind,.i v.Int,trB v.Text]
mutual
def zgf:At->TT
 | ⟨k,r,a,f,i,o,b⟩=>.l [.i k,.i r.Table,.i r.Seq,.l (zud a),.i f,.l (zia i),.i o,trV b]
def zoC:Fc->TT
 | ⟨x,e⟩=>.l [zgf x,.i e]
def zb6:yC->List TT
 | []=>[]
 | x::r=>zoC x::zb6 r
def zwt:Term->TT
 | ⟨c,fs⟩=>.l [.l (zb6 fs),.i c]
def zc2:yB->List TT
 | []=>[]
 | x::r=>zwt x::zc2 r
def zud:yA->List TT
 | []=>[]
 | x::r=>.l (zc2 x)::zud r
def zgX:Wd->TT
 | ⟨v,a⟩=>.l [trV v,.l (zc2 a)]
def zia:yD->List TT
 | []=>[]
 | x::r=>zgX x::zia r
end
theorem zuL:∀ l,zb6 l=l.map zoC
 | []=>by rw [zb6]; rfl
 | x::r=>by rw [zb6,zuL r]; rfl
theorem zD7:∀ l,zc2 l=l.map zwt
 | []=>by rw [zc2]; rfl
 | x::r=>by rw [zc2,zD7 r]; rfl
theorem zBh:∀ l,zud l=l.map λx=>.l (zc2 x)
 | []=>by rw [zud]; rfl
 | x::r=>by rw [zud,zBh r]; rfl
theorem zxV:∀ l,zia l=l.map zgX
 | []=>by rw [zia]; rfl
 | x::r=>by rw [zia,zxV r]; rfl
theorem zE7:∀ a b:List UInt8,(a.map λx=>TT.i (x.toNat:Int))=(b.map λx=>TT.i (x.toNat:Int))->a=b
 | [],[]=>λ_=>rfl
 | [],_::_=>λh=>by simp at h
 | _::_,[]=>λh=>by simp at h
 | x::a,y::b=>λh=>by
  simp only [List.map,qj,TT.i.injEq] at h;rw [zE7 a b h.2,UInt8.toNat_inj.1 (Int.ofNat.inj h.1)]
theorem zZB {a b:Value} (h:trV a=trV b):a=b:=by
 obtain ⟨k,n,s⟩:=a; obtain ⟨k',n',s'⟩:=b;simp only [trV,trB,TT.l.injEq,qj,TT.i.injEq,and_true] at h;obtain ⟨rfl,rfl,h⟩:=h;have:=zE7 _ _ h;obtain ⟨⟨l⟩⟩:=s; obtain ⟨⟨l'⟩⟩:=s';simp only at this; subst this; rfl
mutual
theorem zW5:∀ a b:At,zgf a=zgf b->a=b
 | ⟨k,r,a,f,i,o,v⟩,⟨k',r',a',f',i',o',v'⟩=>λh=>by
  simp only [zgf,TT.l.injEq,qj,TT.i.injEq,and_true] at h;obtain ⟨rfl,h1,h2,h3,rfl,h4,rfl,h5⟩:=h;obtain ⟨t,s⟩:=r; obtain ⟨t',s'⟩:=r';simp only at h1 h2; subst h1 h2;rw [zXm a a' h3,zVB i i' h4,zZB h5]
theorem z2A:∀ a b:Fc,zoC a=zoC b->a=b
 | ⟨x,e⟩,⟨x',e'⟩=>λh=>by
  simp only [zoC,TT.l.injEq,qj,TT.i.injEq,and_true] at h;rw [zW5 x x' h.1,h.2]
theorem zEY:∀ a b:yC,zb6 a=zb6 b->a=b
 | [],[]=>λ_=>rfl
 | [],_::_=>λh=>by simp [zb6] at h
 | _::_,[]=>λh=>by simp [zb6] at h
 | x::a,y::b=>λh=>by
  simp only [zb6,qj] at h;rw [z2A x y h.1,zEY a b h.2]
theorem z4T:∀ a b:Term,zwt a=zwt b->a=b
 | ⟨c,l⟩,⟨c',l'⟩=>λh=>by
  simp only [zwt,TT.l.injEq,qj,TT.i.injEq,and_true] at h;rw [zEY l l' h.1,h.2]
theorem zDM:∀ a b:yB,zc2 a=zc2 b->a=b
 | [],[]=>λ_=>rfl
 | [],_::_=>λh=>by simp [zc2] at h
 | _::_,[]=>λh=>by simp [zc2] at h
 | x::a,y::b=>λh=>by
  simp only [zc2,qj] at h;rw [z4T x y h.1,zDM a b h.2]
theorem zXm:∀ a b:yA,zud a=zud b->a=b
 | [],[]=>λ_=>rfl
 | [],_::_=>λh=>by simp [zud] at h
 | _::_,[]=>λh=>by simp [zud] at h
 | x::a,y::b=>λh=>by
  simp only [zud,qj,TT.l.injEq] at h;rw [zDM x y h.1,zXm a b h.2]
theorem z4E:∀ a b:Wd,zgX a=zgX b->a=b
 | ⟨c,l⟩,⟨c',l'⟩=>λh=>by
  simp only [zgX,TT.l.injEq,qj,and_true] at h;rw [zZB h.1,zDM l l' h.2]
theorem zVB:∀ a b:yD,zia a=zia b->a=b
 | [],[]=>λ_=>rfl
 | [],_::_=>λh=>by simp [zia] at h
 | _::_,[]=>λh=>by simp [zia] at h
 | x::a,y::b=>λh=>by
  simp only [zia,qj] at h;rw [z4E x y h.1,zVB a b h.2]
end
def zgK (P:yB->Prop) (x:At):Prop:=
 (x.Ag.length<=1000000/\x.Items.length<=1000000/\x.Bd.Text.size<=1000000000000)/\(∀ a∈x.Ag,P a)/\∀ w∈x.Items,w.Value.Text.size<=1000000000000/\P w.Ann
def zjn (P:yB->Prop) (l:yC):Prop:=l.length<=1000000/\∀ f∈l,zgK P f.At
def zK:Nat->yB->Prop
 | 0,_=>False
 | n+1,a=>a.length<=1000000/\∀ t∈a,zjn (zK n) t.Fs
theorem zgK.imp {P Q:yB->Prop} (h:∀ a,P a->Q a) {x:At} (hx:zgK P x):zgK Q x:=⟨hx.1,λa ha=>h a (hx.2.1 a ha),λw hw=>⟨(hx.2.2 w hw).1,h _ (hx.2.2 w hw).2⟩⟩
theorem zK.succ:∀ (n:Nat) (a:yB),zK n a->zK (n+1) a
 | 0,_,h=>h.elim
 | n+1,a,h=>⟨h.1,λt ht=>⟨(h.2 t ht).1,λf hf=>((h.2 t ht).2 f hf).imp (zK.succ n)⟩⟩
theorem zK.mono {n m:Nat} {a:yB} (h:zK n a) (hm:n<=m):zK m a:=by
 obtain ⟨k,rfl⟩:=Nat.exists_eq_add_of_le hm;clear hm;induction k with
 | zero=>exact h
 | succ k ih=>exact zK.succ _ _ ih
theorem zug:∀ {l:yC},zqS l->∀ x∈l,ztB x
 | [],_,x,hx=>by cases hx
 | y::r,h,x,hx=>by
  unfold zqS at h;rcases qd.1 hx with rfl | hx
  ·exact h.1
  ·exact zug h.2 x hx
theorem zwA:∀ {l:yB},zhr l->∀ x∈l,zxQ x
 | [],_,x,hx=>by cases hx
 | y::r,h,x,hx=>by
  unfold zhr at h;rcases qd.1 hx with rfl | hx
  ·exact h.1
  ·exact zwA h.2 x hx
theorem zn4:∀ {l:yA},zwr l->∀ x∈l,zhr x/\x.length<=zZ
 | [],_,x,hx=>by cases hx
 | y::r,h,x,hx=>by
  unfold zwr at h;rcases qd.1 hx with rfl | hx
  ·exact h.1
  ·exact zn4 h.2 x hx
theorem zuR:∀ {l:yD},zr1 l->∀ x∈l,zLs x.Value/\zhr x.Ann/\x.Ann.length<=zZ
 | [],_,x,hx=>by cases hx
 | y::r,h,x,hx=>by
  unfold zr1 at h;rcases qd.1 hx with rfl | hx
  ·have:=h.1; unfold zDW at this; exact ⟨this.1,this.2.1,this.2.2⟩
  ·exact zuR h.2 x hx
theorem zAO {t:Term} (h:zxQ t):wf2 t.Cf/\zqS t.Fs/\t.Fs.length<=zZ:=by
 unfold zxQ at h; exact ⟨h.1,h.2.1,h.2.2⟩
theorem zv7 {t:Fc} (h:ztB t):ziG t.At/\wf3 t.Exp:=by
 unfold ztB at h; exact h
theorem zGb {x:At} (h:ziG x):(zwr x.Ag/\x.Ag.length<=zZ)/\(zr1 x.Items/\x.Items.length<=zZ)/\zLs x.Bd/\wf3 x.Kind/\zZp x.Row/\wf3 x.Func/\wf3 x.Op:=by
 obtain ⟨k,r,a,f,i,o,b⟩:=x; unfold ziG at h; exact ⟨h.2.2.1,h.2.2.2.2.1,h.2.2.2.2.2.2,h.1,h.2.1,h.2.2.2.1,h.2.2.2.2.2.1⟩
theorem zr8 {z:Int} (h0: -4611686018427387904<=z) (h:z<4611686018427387904):IntKind.i64.wrap z=z:=zTZ (by omega) (by omega)
mutual
def zqg:At->Nat
 | ⟨_,_,a,_,i,_,b⟩=>i.length+a.length+b.Text.size+zeS a+zcN i
def zbR:yC->Nat
 | []=>0
 | ⟨x,_⟩::r=>zqg x+zbR r
def zbq:yB->Nat
 | []=>0
 | ⟨_,fs⟩::r=>1+fs.length+zbR fs+zbq r
def zeS:yA->Nat
 | []=>0
 | a::r=>zbq a+zeS r
def zcN:yD->Nat
 | []=>0
 | ⟨v,a⟩::r=>v.Text.size+zbq a+zcN r
end
theorem zA7 (x:At):zqg x=x.Items.length+x.Ag.length+x.Bd.Text.size+zeS x.Ag+zcN x.Items:=by cases x; rw [zqg]
theorem zJS (f:Fc) (r:yC):zbR (f::r)=zqg f.At+zbR r:=by cases f; rw [zbR]
theorem zKt (t:Term) (r:yB):zbq (t::r)=1+t.Fs.length+zbR t.Fs+zbq r:=by cases t; rw [zbq]
theorem zRy (a:yB) (r:yA):zeS (a::r)=zbq a+zeS r:=by rw [zeS]
theorem zEW (w:Wd) (r:yD):zcN (w::r)=w.Value.Text.size+zbq w.Ann+zcN r:=by cases w; rw [zcN]
theorem z3h:zeS []=0:=by rw [zeS]
theorem z2a:zcN []=0:=by rw [zcN]
theorem zY2:zbR []=0:=by rw [zbR]
theorem z4P:zbq []=0:=by rw [zbq]
section
variable (g:yB->Int->Int->Bool×Int) (a:yB) (limit d:Nat) (hl:limit<=1000) (hd:d<=100) (B:Nat) (hB:B<=1152921504606846976) (P:yB->Prop)
include hl hd hB
theorem w14 (x:At) (i k:Int) (hlen:x.Ag.length<=zZ) (hg:∀ y∈x.Ag,∀ l:Nat,l<=1000->∃ w:Nat,g y l d=(true,(w:Int))/\w<=B/\(w<=l->P y/\zbq y<=w)):
  ∀ (fuel j n:Nat),x.Ag.length<j+fuel->j<=x.Ag.length->n<=2305843009213693952->∃ n':Nat,zwv g fuel a limit (d+1:Nat) n i k j x=(true,(a,(limit:Int),((d+1:Nat):Int),(n':Int),i,k,x))/\n<=n'/\n'<=max n (limit+B)/\(n'<=limit->(∀ y∈x.Ag.drop j,P y)/\n+zeS (x.Ag.drop j)<=n')
 | 0,j,n,h1,h2,h3=>by omega
 | fuel+1,j,n,h1,h2,h3=>by
  show ∃ n':Nat,(zww g a limit (d+1:Nat) n i k j x).ev (λx y=>zwv g fuel x.1 x.2.1 x.2.2.1 x.2.2.2.1 x.2.2.2.2.1 x.2.2.2.2.2.1 x.2.2.2.2.2.2.2.1 y.1) (λr=>(true,r)) (false,default)=_/\_
  unfold zww;have hml:zZ=140737488351232:=rfl;by_cases hj:j<x.Ag.length
  ·by_cases hn:n<=limit
   ·have e1:IntKind.i64.wrap ((limit:Int) - (n:Int))=((limit - n:Nat):Int):=by rw [zr8 (by omega) (by omega)]; omega
    obtain ⟨w,hw,hwB,hwP⟩:=hg _ (zT hj) (limit - n) (by omega)
    have ed:IntKind.i64.wrap (((d+1:Nat):Int) - 1)=(d:Int):=by rw [zr8 (by omega) (by omega)]; omega
    simp only [Wy.ev_i,Wy.ev_k,Wy.ev_h,Wy.ev_bn,Wy.ev_d,tT,hj,zuC,hn,e1,ed,hw];have e3:IntKind.i64.wrap ((n:Int)+(w:Int))=((n+w:Nat):Int):=by rw [zr8 (by omega) (by omega)]; omega
    rw [e3,zbe (by omega)]
    obtain ⟨n',h4,h5,h6,h7⟩:=w14 x i k hlen hg fuel (j+1) (n+w) (by omega) (by omega) (by omega)
    refine ⟨n',h4,by omega,by omega,λhn'=> ?_⟩
    obtain ⟨h8,h9⟩:=h7 hn';obtain ⟨p1,p2⟩:=hwP (by omega)
    rw [z6 hj,zRy];refine ⟨λy hy=> ?_,by omega⟩
    rcases qd.1 hy with rfl | hy
    ·exact p1
    ·exact h8 y hy
   ·simp only [Wy.ev_i,Wy.ev_k,Wy.ev_h,Wy.ev_bn,Wy.ev_d,tT,hj,zuC,hn];exact ⟨n,rfl,Nat.le_refl _,by omega,λh=>absurd h hn⟩
  ·simp only [Wy.ev_i,Wy.ev_k,Wy.ev_h,Wy.ev_bn,Wy.ev_d,tT,hj];exact ⟨n,rfl,Nat.le_refl _,by omega,λ_=>by rw [zc9 hj,z3h]; exact ⟨λy hy=>(by cases hy),Nat.le_refl _⟩⟩
theorem w18 (x:At) (i k:Int) (hlen:x.Items.length<=zZ) (hg:∀ y∈x.Items,y.Value.Text.size<=zZ/\∀ l:Nat,l<=1000->∃ w:Nat,g y.Ann l d=(true,(w:Int))/\w<=B/\(w<=l->P y.Ann/\zbq y.Ann<=w)):
  ∀ (fuel j n:Nat),x.Items.length<j+fuel->j<=x.Items.length->n<=2305843009213693952->∃ n':Nat,zwM g fuel a limit (d+1:Nat) n i k j x=(true,(a,(limit:Int),((d+1:Nat):Int),(n':Int),i,k))/\n<=n'/\n'<=max n (limit+zZ+B)/\(n'<=limit->(∀ y∈x.Items.drop j,y.Value.Text.size<=1000/\P y.Ann)/\n+zcN (x.Items.drop j)<=n')
 | 0,j,n,h1,h2,h3=>by omega
 | fuel+1,j,n,h1,h2,h3=>by
  show ∃ n':Nat,(zwC g a limit (d+1:Nat) n i k j x).ev (λx y=>zwM g fuel x.1 x.2.1 x.2.2.1 x.2.2.2.1 x.2.2.2.2.1 x.2.2.2.2.2.1 x.2.2.2.2.2.2.2.1 y.1) (λr=>(true,r)) (false,default)=_/\_
  unfold zwC;have hml:zZ=140737488351232:=rfl;by_cases hj:j<x.Items.length
  ·by_cases hn:n<=limit
   ·have e1:IntKind.i64.wrap ((limit:Int) - (n:Int))=((limit - n:Nat):Int):=by rw [zr8 (by omega) (by omega)]; omega
    obtain ⟨ht,hgy⟩:=hg _ (zT hj);obtain ⟨w,hw,hwB,hwP⟩:=hgy (limit - n) (by omega)
    have ed:IntKind.i64.wrap (((d+1:Nat):Int) - 1)=(d:Int):=by rw [zr8 (by omega) (by omega)]; omega
    simp only [Wy.ev_i,Wy.ev_k,Wy.ev_h,Wy.ev_bn,Wy.ev_d,tT,hj,zuC,hn,e1,ed,hw];generalize hsz:(x.Items.getD j default).Value.Text.size=sz at *;have e3:IntKind.i64.wrap (IntKind.i64.wrap ((n:Int)+(sz:Int))+(w:Int))=((n+sz+w:Nat):Int):=by rw [zr8 (z:=(n:Int)+(sz:Int)) (by omega) (by omega),zr8 (by omega) (by omega)]; omega
    rw [e3,zbe (by omega)]
    obtain ⟨n',h4,h5,h6,h7⟩:=w18 x i k hlen hg fuel (j+1) (n+sz+w) (by omega) (by omega) (by omega)
    refine ⟨n',h4,by omega,by omega,λhn'=> ?_⟩
    obtain ⟨h8,h9⟩:=h7 hn';obtain ⟨p1,p2⟩:=hwP (by omega)
    rw [z6 hj,zEW];refine ⟨λy hy=> ?_,by omega⟩
    rcases qd.1 hy with rfl | hy
    ·exact ⟨by omega,p1⟩
    ·exact h8 y hy
   ·simp only [Wy.ev_i,Wy.ev_k,Wy.ev_h,Wy.ev_bn,Wy.ev_d,tT,hj,zuC,hn];exact ⟨n,rfl,Nat.le_refl _,by omega,λh=>absurd h hn⟩
  ·simp only [Wy.ev_i,Wy.ev_k,Wy.ev_h,Wy.ev_bn,Wy.ev_d,tT,hj];exact ⟨n,rfl,Nat.le_refl _,by omega,λ_=>by rw [zc9 hj,z2a]; exact ⟨λy hy=>(by cases hy),Nat.le_refl _⟩⟩
theorem w9 (i:Nat) (hi:i<a.length) (hla:(a.getD i default).Fs.length<=zZ) (hg:∀ f∈(a.getD i default).Fs,f.At.Ag.length<=zZ/\f.At.Items.length<=zZ/\f.At.Bd.Text.size<=zZ/\(∀ y∈f.At.Ag,∀ l:Nat,l<=1000->∃ w:Nat,g y l d=(true,(w:Int))/\w<=B/\(w<=l->P y/\zbq y<=w))/\
   ∀ y∈f.At.Items,y.Value.Text.size<=zZ/\∀ l:Nat,l<=1000->∃ w:Nat,g y.Ann l d=(true,(w:Int))/\w<=B/\(w<=l->P y.Ann/\zbq y.Ann<=w)):
  ∀ (fuel k n:Nat),(a.getD i default).Fs.length<k+fuel->k<=(a.getD i default).Fs.length->n<=2305843009213693952->∃ n':Nat,zxM g fuel a limit (d+1:Nat) n i k=(true,(a,(limit:Int),((d+1:Nat):Int),(n':Int),(i:Int)))/\n<=n'/\n'<=max n (limit+4*zZ+B)/\
   (n'<=limit->(∀ f∈(a.getD i default).Fs.drop k,(f.At.Ag.length<=1000/\f.At.Items.length<=1000/\f.At.Bd.Text.size<=1000)/\(∀ y∈f.At.Ag,P y)/\∀ y∈f.At.Items,y.Value.Text.size<=1000/\P y.Ann)/\n+zbR ((a.getD i default).Fs.drop k)<=n')
 | 0,k,n,h1,h2,h3=>by omega
 | fuel+1,k,n,h1,h2,h3=>by
  show ∃ n':Nat,(zxH g a limit (d+1:Nat) n i k).ev (λx y=>zxM g fuel x.1 x.2.1 x.2.2.1 x.2.2.2.1 x.2.2.2.2.1 x.2.2.2.2.2.1) (λr=>(true,r)) (false,default)=_/\_
  unfold zxH;have hml:zZ=140737488351232:=rfl;by_cases hk:k<(a.getD i default).Fs.length
  ·by_cases hn:n<=limit
   ·simp only [Wy.ev_i,Wy.ev_k,Wy.ev_h,Wy.ev_bn,Wy.ev_d,tT,hi,hk,zuC,hn,At.eta];obtain ⟨ha1,ha2,ha3,hgA,hgI⟩:=hg _ (zT hk);generalize hf:((a.getD i default).Fs.getD k default)=f at *
    have e0:IntKind.i64.wrap (IntKind.i64.wrap (IntKind.i64.wrap ((n:Int)+(f.At.Items.length:Int))+(f.At.Ag.length:Int))+(f.At.Bd.Text.size:Int))=((n+f.At.Items.length+f.At.Ag.length+f.At.Bd.Text.size:Nat):Int):=by
     rw [zr8 (z:=(n:Int)+(f.At.Items.length:Int)) (by omega) (by omega),zr8 (z:=(n:Int)+(f.At.Items.length:Int)+(f.At.Ag.length:Int)) (by omega) (by omega),zr8 (by omega) (by omega)]; omega
    rw [e0];obtain ⟨n1,q1,q2,q3,q4⟩:=w14 g a limit d hl hd B hB P f.At i k ha1 hgA (a.length+limit+(d+1)+((n+f.At.Items.length+f.At.Ag.length+f.At.Bd.Text.size:Nat):Int).toNat +i+k+Int.toNat 0+f.At.Ag.length+f.At.Items.length+1) 0 (n+f.At.Items.length+f.At.Ag.length+f.At.Bd.Text.size) (by omega) (by omega) (by omega)
    rw [show ((0:Nat):Int)=(0:Int) from rfl] at q1
    rw [q1];simp only [cond_true,At.eta,Int.toNat_natCast];obtain ⟨n2,r1,r2,r3,r4⟩:=w18 g a limit d hl hd B hB P f.At i k ha2 hgI (a.length+limit+(d+1)+n1+i+k+Int.toNat 0+f.At.Ag.length+f.At.Items.length+1) 0 n1 (by omega) (by omega) (by omega)
    rw [show ((0:Nat):Int)=(0:Int) from rfl] at r1
    rw [r1];simp only [cond_true];rw [zbe (by omega)]
    obtain ⟨n',h4,h5,h6,h7⟩:=w9 i hi hla hg fuel (k+1) n2 (by omega) (by omega) (by omega)
    refine ⟨n',h4,by omega,by omega,λhn'=> ?_⟩
    obtain ⟨h8,h9⟩:=h7 hn';obtain ⟨q5,q6⟩:=q4 (by omega)
    obtain ⟨r5,r6⟩:=r4 (by omega)
    rw [List.drop_zero] at q5 q6 r5 r6;rw [z6 hk,zJS,hf,zA7];refine ⟨λy hy=> ?_,by omega⟩
    rcases qd.1 hy with rfl | hy
    ·exact ⟨⟨by omega,by omega,by omega⟩,q5,r5⟩
    ·exact h8 y hy
   ·simp only [Wy.ev_i,Wy.ev_k,Wy.ev_h,Wy.ev_bn,Wy.ev_d,tT,hi,hk,zuC,hn];exact ⟨n,rfl,Nat.le_refl _,by omega,λh=>absurd h hn⟩
  ·simp only [Wy.ev_i,Wy.ev_k,Wy.ev_h,Wy.ev_bn,Wy.ev_d,tT,hi,hk];exact ⟨n,rfl,Nat.le_refl _,by omega,λ_=>by rw [zc9 hk,zY2]; exact ⟨λy hy=>(by cases hy),Nat.le_refl _⟩⟩
theorem w5 (hla:∀ t∈a,t.Fs.length<=zZ) (hg:∀ t∈a,∀ f∈t.Fs,f.At.Ag.length<=zZ/\f.At.Items.length<=zZ/\f.At.Bd.Text.size<=zZ/\(∀ y∈f.At.Ag,∀ l:Nat,l<=1000->∃ w:Nat,g y l d=(true,(w:Int))/\w<=B/\(w<=l->P y/\zbq y<=w))/\
   ∀ y∈f.At.Items,y.Value.Text.size<=zZ/\∀ l:Nat,l<=1000->∃ w:Nat,g y.Ann l d=(true,(w:Int))/\w<=B/\(w<=l->P y.Ann/\zbq y.Ann<=w)) (hlen:a.length<=zZ):
  ∀ (fuel i n:Nat),a.length<i+fuel->i<=a.length->n<=2305843009213693952->∃ n':Nat,zxA g fuel a limit (d+1:Nat) n i=(true,(n':Int))/\n<=n'/\n'<=max n (limit+6*zZ+B)/\
   (n'<=limit->(n+(a.length - i)<=n'/\n+zbq (a.drop i)<=n')/\∀ t∈a.drop i,t.Fs.length<=1000/\∀ f∈t.Fs,(f.At.Ag.length<=1000/\f.At.Items.length<=1000/\f.At.Bd.Text.size<=1000)/\(∀ y∈f.At.Ag,P y)/\∀ y∈f.At.Items,y.Value.Text.size<=1000/\P y.Ann)
 | 0,i,n,h1,h2,h3=>by omega
 | fuel+1,i,n,h1,h2,h3=>by
  show ∃ n':Nat,(zxE g a limit (d+1:Nat) n i).ev (λx y=>zxA g fuel x.1 x.2.1 x.2.2.1 x.2.2.2.1 x.2.2.2.2.1) (λr=>(true,r)) (false,default)=_/\_
  unfold zxE;have hml:zZ=140737488351232:=rfl;by_cases hi:i<a.length
  ·by_cases hn:n<=limit
   ·simp only [Wy.ev_i,Wy.ev_k,Wy.ev_h,Wy.ev_bn,Wy.ev_d,tT,hi,zuC,hn];have hla':=hla _ (zT hi)
    have e0:IntKind.i64.wrap (IntKind.i64.wrap ((n:Int)+1)+((a.getD i default).Fs.length:Int))=((n+1+(a.getD i default).Fs.length:Nat):Int):=by
     rw [zbe (by omega),zr8 (by omega) (by omega)]; omega
    rw [e0];obtain ⟨n1,q1,q2,q3,q4⟩:=w9 g a limit d hl hd B hB P i hi hla' (hg _ (zT hi)) (a.length+limit+(d+1)+((n+1+(a.getD i default).Fs.length:Nat):Int).toNat +i+Int.toNat 0+1) 0 (n+1+(a.getD i default).Fs.length) (by omega) (by omega) (by omega)
    rw [show ((0:Nat):Int)=(0:Int) from rfl] at q1
    rw [q1];simp only [cond_true];rw [zbe (by omega)]
    obtain ⟨n',h4,h5,h6,h7⟩:=w5 hla hg hlen fuel (i+1) n1 (by omega) (by omega) (by omega)
    refine ⟨n',h4,by omega,by omega,λhn'=> ?_⟩
    obtain ⟨⟨h8,h10⟩,h9⟩:=h7 hn';obtain ⟨q5,q6⟩:=q4 (by omega)
    rw [List.drop_zero] at q5 q6;rw [z6 hi,zKt];refine ⟨⟨by omega,by omega⟩,λy hy=> ?_⟩
    rcases qd.1 hy with rfl | hy
    ·exact ⟨by omega,q5⟩
    ·exact h9 y hy
   ·simp only [Wy.ev_i,Wy.ev_k,Wy.ev_h,Wy.ev_bn,Wy.ev_d,tT,hi,zuC,hn];exact ⟨n,rfl,Nat.le_refl _,by omega,λh=>absurd h hn⟩
  ·simp only [Wy.ev_i,Wy.ev_k,Wy.ev_h,Wy.ev_bn,Wy.ev_d,tT,hi];exact ⟨n,rfl,Nat.le_refl _,by omega,λ_=>by rw [zc9 hi,z4P]; exact ⟨⟨by omega,Nat.le_refl _⟩,λy hy=>(by cases hy)⟩⟩
end
theorem zZM:∀ (d N:Nat),d<N->d<=12->∀ (l:Nat),l<=1000->∀ a,zhr a->a.length<=zZ->∃ w:Nat,zot N a l d=(true,(w:Int))/\w<=(d+1)*4503599627370496/\(w<=l->zK d a/\zbq a<=w)
 | _,0,h,_,_,_,_,_,_=>by omega
 | 0,N+1,_,_,l,hl,a,hw,hlen=>by
  rw [zFA];unfold zsd zyD;refine ⟨l+1, ?_,by omega,λh=>by omega⟩
  simp only [Wy.fin_i,Wy.fin_k];rw [zbe (by omega)]; rfl
 | d+1,N+1,hN,hd,l,hl,a,hw,hlen=>by
  rw [zFA];unfold zsd zyD;have hml:zZ=140737488351232:=rfl;have ih:=λy (h1:zhr y) (h2:y.length<=zZ) l hl=>zZM d N (by omega) (by omega) l hl y h1 h2
  have e0:(((d+1:Nat):Int)==(0:Int))=false:=by
   rw [beq_eq_false_iff_ne]; omega
  obtain ⟨n',h1,h2,h3,h4⟩:=w5 (zot N) a l d hl (by omega) ((d+1)*4503599627370496) (by omega) (zK d) (λt ht=>(zAO (zwA hw t ht)).2.2) (λt ht f hf=>by
   have hx:=zGb (zv7 (zug (zAO (zwA hw t ht)).2.1 f hf)).1;refine ⟨hx.1.2,hx.2.1.2,hx.2.2.1.2.2,λy hy l hl=> ?_,λy hy=> ?_⟩
   ·have:=zn4 hx.1.1 y hy;exact ih y this.1 this.2 l hl
   ·have:=zuR hx.2.1.1 y hy;exact ⟨this.1.2.2,λl hl=>ih y.Ann this.2.1 this.2.2 l hl⟩) hlen (a.length+l+(d+1)+Int.toNat 0+Int.toNat 0+1) 0 0 (by omega) (by omega) (by omega)
  rw [show ((0:Nat):Int)=(0:Int) from rfl] at h1
  refine ⟨n', ?_,by omega,λhn=> ?_⟩
  ·simp only [Wy.fin_i,Wy.fin_k,Wy.fin_bn,e0,cond_false,Int.toNat_natCast,h1,cond_true]
  ·obtain ⟨⟨h5,h12⟩,h6⟩:=h4 hn;rw [List.drop_zero] at h12;refine ⟨⟨by omega,λt ht=> ?_⟩,by omega⟩
   obtain ⟨h7,h8⟩:=h6 t (by simpa using ht)
   refine ⟨by omega,λf hf=> ?_⟩
   obtain ⟨h9,h10,h11⟩:=h8 f hf;exact ⟨⟨by omega,by omega,by omega⟩,h10,λw hw=>⟨by have:=(h11 w hw).1; omega,(h11 w hw).2⟩⟩
theorem z2y (limit:Nat) (hl:limit<=1000) (l:yA) (hll:l.length<=1000) (hw:∀ a∈l,zhr a/\a.length<=zZ):∀ (n i:Nat),l.length<i+n->i<=l.length->∃ r,zHH n limit l i=(true,r)/\((r=.inl false)\/(r=.inr ()/\∀ a∈l.drop i,zK 12 a/\zbq a<=limit))
 | 0,i,h1,h2=>by omega
 | n+1,i,h1,h2=>by
  show ∃ r,(zHF limit l i).ev (λx y=>zHH n x.1 x.2.1 x.2.2.1) (λr=>(true,r)) (false,.inl default)=(true,r)/\_
  unfold zHF;by_cases hi:i<l.length
  ·obtain ⟨w,q1,q2,q3⟩:=zZM 12 1000 (by omega) (by omega) limit hl _ (hw _ (zT hi)).1 (hw _ (zT hi)).2
   have q1':zHE (l.getD i default) (limit:Int) 12=(true,(w:Int)):=q1;simp only [Wy.ev_i,Wy.ev_k,Wy.ev_h,Wy.ev_bn,Wy.ev_d,tT,hi,q1',zyg];by_cases hg:limit<w
   ·simp only [hg,decide_true,cond_true];exact ⟨_,rfl,.inl rfl⟩
   ·simp only [hg,decide_false,cond_false];rw [zbe (by omega)]
    obtain ⟨r,h3,h4⟩:=z2y limit hl l hll hw n (i+1) (by omega) (by omega)
    refine ⟨r,h3, ?_⟩;rcases h4 with h4 | ⟨h4,h5⟩
    ·exact .inl h4
    ·refine .inr ⟨h4,λa ha=> ?_⟩
     rw [z6 hi] at ha;rcases qd.1 ha with rfl | ha
     ·exact ⟨(q3 (by omega)).1,by have:=(q3 (by omega)).2; omega⟩
     ·exact h5 a ha
  ·simp only [Wy.ev_i,Wy.ev_k,Wy.ev_h,Wy.ev_bn,Wy.ev_d,tT,hi];exact ⟨_,rfl,.inr ⟨rfl,λa ha=>by rw [zc9 hi] at ha; cases ha⟩⟩
theorem zbaa (limit:Nat) (hl:limit<=1000) (l:yA) (hll:l.length<=1000) (hw:∀ a∈l,zhr a/\a.length<=zZ):∃ b,zzk limit l=(true,b)/\(b=true->∀ a∈l,zK 12 a/\zbq a<=limit):=by
 unfold zzk zVF;obtain ⟨r,h1,h2⟩:=z2y limit hl l hll hw (limit+l.length+Int.toNat 0+1) 0 (by omega) (by omega)
 rw [show ((0:Nat):Int)=(0:Int) from rfl] at h1
 rw [Wy.fin_bn];simp only [Int.toNat_natCast,h1,cond_true];rcases h2 with rfl | ⟨rfl,h2⟩
 ·exact ⟨false,rfl,λh=>by cases h⟩
 ·exact ⟨true,rfl,λ_ a ha=>h2 a (by simpa using ha)⟩
abbrev zyt:=yB×Int×Int×Int×Unit×Int×Unit
abbrev z0J:=yB×Int×Int×Int×At
abbrev z0c:=yB×Int×Int×Int
abbrev zP8:=yB×Int×Int×Int×Unit
abbrev z0P:=yB×Int×Int
abbrev zQa:=yB×Int×Int×Unit
def zoG (zbF:yB->Bool×Int) (a:yB) (n_:Int) (i:Int) (k:Int) (j:Int) (x_:At):Wy zyt (At×Unit) z0J:=.i (decide (j<Int.ofNat x_.Ag.length)) (.i (decide (0<=j)&&decide (j<Int.ofNat x_.Ag.length)) (.bn (zbF (x_.Ag.getD j.toNat default)) λr0=>.h (a,(IntKind.i64.wrap (n_+r0)),i,k,(),(IntKind.i64.wrap (j+1)),()) (x_,())) .d) (.k (a,n_,i,k,x_))
def zIr (zbF:yB->Bool×Int) (x:zyt) (y:At×Unit):=zoG zbF x.1 x.2.1 x.2.2.1 x.2.2.2.1 x.2.2.2.2.2.1 y.1
def zHX (zbF:yB->Bool×Int) (n:Nat) (a:yB) (n_:Int) (i:Int) (k:Int) (j:Int) (x_:At):=zD (zIr zbF) default n (a,n_,i,k,(),j,()) (x_,())
def zoO (zbF:yB->Bool×Int) (a:yB) (n_:Int) (i:Int) (k:Int) (j:Int) (x_:At):Wy zyt (At×Unit) z0c:=.i (decide (j<Int.ofNat x_.Items.length)) (.i (decide (0<=j)&&decide (j<Int.ofNat x_.Items.length)) (.bn (zbF (x_.Items.getD j.toNat default).Ann) λr2=>.h (a,(IntKind.i64.wrap (IntKind.i64.wrap (n_+1)+r2)),i,k,(),(IntKind.i64.wrap (j+1)),()) (x_,())) .d) (.k (a,n_,i,k))
def zGV (zbF:yB->Bool×Int) (x:zyt) (y:At×Unit):=zoO zbF x.1 x.2.1 x.2.2.1 x.2.2.2.1 x.2.2.2.2.2.1 y.1
def zIf (zbF:yB->Bool×Int) (n:Nat) (a:yB) (n_:Int) (i:Int) (k:Int) (j:Int) (x_:At):=zD (zGV zbF) default n (a,n_,i,k,(),j,()) (x_,())
def zqG (zbF:yB->Bool×Int) (a:yB) (n_:Int) (i:Int) (k:Int):Wy zP8 Unit z0P:=.i (decide (0<=i)&&decide (i<Int.ofNat a.length)) (.i (decide (k<Int.ofNat (a.getD i.toNat default).Fs.length)) (.i (decide (0<=i)&&decide (i<Int.ofNat a.length)) (.i (decide (0<=k)&&decide (k<Int.ofNat (a.getD i.toNat default).Fs.length)) (.bn (zHX zbF ((a.length+(IntKind.i64.wrap (n_+1)).toNat +i.toNat +k.toNat +Int.toNat 0+((a.getD i.toNat default).Fs.getD k.toNat default).At.Ag.length+((a.getD i.toNat default).Fs.getD k.toNat default).At.Items.length+1)+znQ a) a (IntKind.i64.wrap (n_+1)) i k 0 (At.mk ((a.getD i.toNat default).Fs.getD k.toNat default).At.Kind ((a.getD i.toNat default).Fs.getD k.toNat default).At.Row ((a.getD i.toNat default).Fs.getD k.toNat default).At.Ag ((a.getD i.toNat default).Fs.getD k.toNat default).At.Func ((a.getD i.toNat default).Fs.getD k.toNat default).At.Items ((a.getD i.toNat default).Fs.getD k.toNat default).At.Op ((a.getD i.toNat default).Fs.getD k.toNat default).At.Bd)) λr5=>.bn (zIf zbF ((r5.1.length+r5.2.1.toNat +r5.2.2.1.toNat +r5.2.2.2.1.toNat +Int.toNat 0+r5.2.2.2.2.Ag.length+r5.2.2.2.2.Items.length+1)+znQ r5.1) r5.1 r5.2.1 r5.2.2.1 r5.2.2.2.1 0 (At.mk r5.2.2.2.2.Kind r5.2.2.2.2.Row r5.2.2.2.2.Ag r5.2.2.2.2.Func r5.2.2.2.2.Items r5.2.2.2.2.Op r5.2.2.2.2.Bd)) λr4=>.h ((r4.1),(r4.2.1),(r4.2.2.1),(IntKind.i64.wrap (r4.2.2.2+1)),()) ()) .d) .d) (.k (a,n_,i))) .d
def zJI (zbF:yB->Bool×Int) (x:zP8) (y:Unit):=zqG zbF x.1 x.2.1 x.2.2.1 x.2.2.2.1
def zJO (zbF:yB->Bool×Int) (n:Nat) (a:yB) (n_:Int) (i:Int) (k:Int):=zD (zJI zbF) default n (a,n_,i,k,()) ()
def zq1 (zbF:yB->Bool×Int) (a:yB) (n_:Int) (i:Int):Wy zQa Unit (Int):=.i (decide (i<Int.ofNat a.length)) (.bn (zJO zbF ((a.length+(IntKind.i64.wrap (n_+1)).toNat +i.toNat +Int.toNat 0+1)+znQ a) a (IntKind.i64.wrap (n_+1)) i 0) λr8=>.h ((r8.1),(r8.2.1),(IntKind.i64.wrap (r8.2.2+1)),()) ()) (.k n_)
def zJK (zbF:yB->Bool×Int) (x:zQa) (y:Unit):=zq1 zbF x.1 x.2.1 x.2.2.1
def zJ9 (zbF:yB->Bool×Int) (n:Nat) (a:yB) (n_:Int) (i:Int):=zD (zJK zbF) default n (a,n_,i,()) ()
def zLP (zbF:yB->Bool×Int) (a:yB):Wy0 (Int):=.bn (zJ9 zbF ((a.length+Int.toNat 0+Int.toNat 0+1)+znQ a) a 0 0) λr10=>.k r10
def zG0 (zbF:yB->Bool×Int) (a:yB):=(zLP zbF a).fin default
def zZX:Nat->(yB->Bool×Int)
 | 0=>λ_=>(false,default)
 | n+1=>zG0 (zZX n)
def zA3 (n:Nat):yB->Bool×Int:=zZX n
theorem zW0 (n:Nat):zA3 (n+1)=zG0 (zA3 n):=rfl
abbrev ztW:=yB×Int×Int×Int×Unit×Int×Int×Unit
abbrev zV9:=yB×Int×Int×Int×Int×At
abbrev zWA:=yB×Int×Int×Int×Int
abbrev zHk:=yB×Int×Int×Int×Unit
abbrev zWg:=yB×Int×Int
abbrev zIg:=yB×Int×Int×Unit
def zkI (zbb:yB->Bool×Int) (a:yB) (most:Int) (i:Int) (k:Int) (n_:Int) (j:Int) (x_:At):Wy ztW (At×Unit) zV9:=.i (decide (j<Int.ofNat x_.Ag.length)) (.i (decide (0<=j)&&decide (j<Int.ofNat x_.Ag.length)) (.bn (zbb (x_.Ag.getD j.toNat default)) λr0=>.h (a,most,i,k,(),(if IntKind.i64.wrap (1+r0)>n_ then IntKind.i64.wrap (1+r0) else n_),(IntKind.i64.wrap (j+1)),()) (x_,())) .d) (.k (a,most,i,k,n_,x_))
def zBY (zbb:yB->Bool×Int) (x:ztW) (y:At×Unit):=zkI zbb x.1 x.2.1 x.2.2.1 x.2.2.2.1 x.2.2.2.2.2.1 x.2.2.2.2.2.2.1 y.1
def zvi (zbb:yB->Bool×Int) (n:Nat) (a:yB) (most:Int) (i:Int) (k:Int) (n_:Int) (j:Int) (x_:At):=zD (zBY zbb) default n (a,most,i,k,(),n_,j,()) (x_,())
def zkA (zbb:yB->Bool×Int) (a:yB) (most:Int) (i:Int) (k:Int) (n_:Int) (j:Int) (x_:At):Wy ztW (At×Unit) zWA:=.i (decide (j<Int.ofNat x_.Items.length)) (.i (decide (0<=j)&&decide (j<Int.ofNat x_.Items.length)) (.bn (zbb (x_.Items.getD j.toNat default).Ann) λr2=>.h (a,most,i,k,(),(if IntKind.i64.wrap (1+r2)>n_ then IntKind.i64.wrap (1+r2) else n_),(IntKind.i64.wrap (j+1)),()) (x_,())) .d) (.k (a,most,i,k,n_))
def zB5 (zbb:yB->Bool×Int) (x:ztW) (y:At×Unit):=zkA zbb x.1 x.2.1 x.2.2.1 x.2.2.2.1 x.2.2.2.2.2.1 x.2.2.2.2.2.2.1 y.1
def zB6 (zbb:yB->Bool×Int) (n:Nat) (a:yB) (most:Int) (i:Int) (k:Int) (n_:Int) (j:Int) (x_:At):=zD (zB5 zbb) default n (a,most,i,k,(),n_,j,()) (x_,())
def zlU (zbb:yB->Bool×Int) (a:yB) (most:Int) (i:Int) (k:Int):Wy zHk Unit zWg:=.i (decide (0<=i)&&decide (i<Int.ofNat a.length)) (.i (decide (k<Int.ofNat (a.getD i.toNat default).Fs.length)) (.i (decide (0<=i)&&decide (i<Int.ofNat a.length)) (.i (decide (0<=k)&&decide (k<Int.ofNat (a.getD i.toNat default).Fs.length)) (.i (((a.getD i.toNat default).Fs.getD k.toNat default).At.Kind==0) (.h (a,most,i,(IntKind.i64.wrap (k+1)),()) ()) (.bn (zvi zbb ((a.length+most.toNat +i.toNat +k.toNat +Int.toNat 1+Int.toNat 0+((a.getD i.toNat default).Fs.getD k.toNat default).At.Ag.length+((a.getD i.toNat default).Fs.getD k.toNat default).At.Items.length+1)+znQ a) a most i k 1 0 (At.mk ((a.getD i.toNat default).Fs.getD k.toNat default).At.Kind ((a.getD i.toNat default).Fs.getD k.toNat default).At.Row ((a.getD i.toNat default).Fs.getD k.toNat default).At.Ag ((a.getD i.toNat default).Fs.getD k.toNat default).At.Func ((a.getD i.toNat default).Fs.getD k.toNat default).At.Items ((a.getD i.toNat default).Fs.getD k.toNat default).At.Op ((a.getD i.toNat default).Fs.getD k.toNat default).At.Bd)) λr5=>.bn (zB6 zbb ((r5.1.length+r5.2.1.toNat +r5.2.2.1.toNat +r5.2.2.2.1.toNat +r5.2.2.2.2.1.toNat +Int.toNat 0+r5.2.2.2.2.2.Ag.length+r5.2.2.2.2.2.Items.length+1)+znQ r5.1) r5.1 r5.2.1 r5.2.2.1 r5.2.2.2.1 r5.2.2.2.2.1 0 (At.mk r5.2.2.2.2.2.Kind r5.2.2.2.2.2.Row r5.2.2.2.2.2.Ag r5.2.2.2.2.2.Func r5.2.2.2.2.2.Items r5.2.2.2.2.2.Op r5.2.2.2.2.2.Bd)) λr4=>.h ((r4.1),(if r4.2.2.2.2>r4.2.1 then r4.2.2.2.2 else r4.2.1),(r4.2.2.1),(IntKind.i64.wrap (r4.2.2.2.1+1)),()) ())) .d) .d) (.k (a,most,i))) .d
def zEr (zbb:yB->Bool×Int) (x:zHk) (y:Unit):=zlU zbb x.1 x.2.1 x.2.2.1 x.2.2.2.1
def zDF (zbb:yB->Bool×Int) (n:Nat) (a:yB) (most:Int) (i:Int) (k:Int):=zD (zEr zbb) default n (a,most,i,k,()) ()
def zlr (zbb:yB->Bool×Int) (a:yB) (most:Int) (i:Int):Wy zIg Unit (Int):=.i (decide (i<Int.ofNat a.length)) (.bn (zDF zbb ((a.length+most.toNat +i.toNat +Int.toNat 0+1)+znQ a) a most i 0) λr8=>.h ((r8.1),(r8.2.1),(IntKind.i64.wrap (r8.2.2+1)),()) ()) (.k most)
def zDH (zbb:yB->Bool×Int) (x:zIg) (y:Unit):=zlr zbb x.1 x.2.1 x.2.2.1
def zDD (zbb:yB->Bool×Int) (n:Nat) (a:yB) (most:Int) (i:Int):=zD (zDH zbb) default n (a,most,i,()) ()
def zFF (zbb:yB->Bool×Int) (a:yB):Wy0 (Int):=.bn (zDD zbb ((a.length+Int.toNat 0+Int.toNat 0+1)+znQ a) a 0 0) λr10=>.k r10
def zAu (zbb:yB->Bool×Int) (a:yB):=(zFF zbb a).fin default
def zTw:Nat->(yB->Bool×Int)
 | 0=>λ_=>(false,default)
 | n+1=>zAu (zTw n)
def zqM (n:Nat):yB->Bool×Int:=zTw n
theorem zRT (n:Nat):zqM (n+1)=zAu (zqM n):=rfl
mutual
def zj5:At->Nat
 | ⟨_,_,a,_,i,_,_⟩=>zes a+zdb i
def zbS:yC->Nat
 | []=>0
 | ⟨x,_⟩::r=>zj5 x+zbS r
def zW:yB->Nat
 | []=>0
 | ⟨_,fs⟩::r=>1+fs.length+zbS fs+zW r
def zes:yA->Nat
 | []=>0
 | a::r=>zW a+zes r
def zdb:yD->Nat
 | []=>0
 | ⟨_,a⟩::r=>1+zW a+zdb r
end
theorem zli (x:At):zj5 x=zes x.Ag+zdb x.Items:=by cases x; rw [zj5]
theorem zd4 (f:Fc) (r:yC):zbS (f::r)=zj5 f.At+zbS r:=by cases f; rw [zbS]
theorem zla (t:Term) (r:yB):zW (t::r)=1+t.Fs.length+zbS t.Fs+zW r:=by cases t; rw [zW]
theorem zgV (a:yB) (r:yA):zes (a::r)=zW a+zes r:=by rw [zes]
theorem zio (w:Wd) (r:yD):zdb (w::r)=1+zW w.Ann+zdb r:=by cases w; rw [zdb]
theorem zoa:zes []=0:=by rw [zes]
theorem zlX:zdb []=0:=by rw [zdb]
theorem zsB:zbS []=0:=by rw [zbS]
theorem zGn:zW []=0:=by rw [zW]
theorem zYr (l:yA):∀ n:Nat,l.foldl (λs t=>s+zW t) n=n+zes l:=by
 induction l with
 | nil=>intro n; rw [zoa]; rfl
 | cons a r ih=>intro n; rw [List.foldl_cons,ih,zgV]; omega
theorem zVk (l:yD):∀ n:Nat,l.foldl (λs t=>s+1+zW t.Ann) n=n+zdb l:=by
 induction l with
 | nil=>intro n; rw [zlX]; rfl
 | cons a r ih=>intro n; rw [List.foldl_cons,ih,zio]; omega
theorem z0z (l:yC):∀ n:Nat,l.foldl (λs t=>s+zj5 t.At) n=n+zbS l:=by
 induction l with
 | nil=>intro n; rw [zsB]; rfl
 | cons a r ih=>intro n; rw [List.foldl_cons,ih,zd4]; omega
theorem zZ5 (l:yB):∀ n:Nat,l.foldl (λs t=>s+1+t.Fs.length+zbS t.Fs) n=n+zW l:=by
 induction l with
 | nil=>intro n; rw [zGn]; rfl
 | cons a r ih=>intro n; rw [List.foldl_cons,ih,zla]; omega
theorem zrh {n m:Nat} (h:n+m<=4611686018427387904):IntKind.i64.wrap ((n:Int)+(m:Int))=((n+m:Nat):Int):=by
 rw [zTZ (by omega) (by omega)]; omega
theorem zfK {i:Nat} (h:i<4611686018427387904):IntKind.i64.wrap ((i:Int)+1)=((i+1:Nat):Int):=zbe h
section
variable (g:yB->Bool×Int)
theorem z9g (l:yA) (hl:l.length<=1000000) (hg:∀ y∈l,g y=(true,(zW y:Int))) (t12:yB) (t13 t14:Int) (t25:yC) (t26 t27:Int) (f:Fc) (fuel n:Nat) (hf:l.length<fuel) (hn:n+zes l<=4611686018427387904):
  zzL g fuel n t12 t13 t14 t25 t26 t27 l l.length 0 f=(true,(((n+zes l:Nat):Int),t12,t13,t14,t25,t26,t27,f)):=by
 have h:=ze4 (W:=zsE g) (z:=default) (l:=l) (λi (n:Nat)=>((n:Int),(),t12,t13,t14,t25,t26,t27,l,(l.length:Int),(i:Int),())) (λ_ _=>(f,())) (λy n=>.inl (n+zW y)) (λn=>((n:Int),t12,t13,t14,t25,t26,t27,f)) (λi n=>n+zes (l.drop i)<=4611686018427387904)
  (λi n hi hI=>.inl ⟨_,rfl,by rw [z6 hi,zgV] at hI; omega,λH K D=>by
   rw [z6 hi,zgV] at hI;show (ziH g n t12 t13 t14 t25 t26 t27 l l.length i f).ev H K D=_;unfold ziH;simp only [Wy.ev_i,Wy.ev_k,Wy.ev_h,Wy.ev_bn,Wy.ev_d,tT,hi,hg _ (zT hi)];rw [zrh (by omega),zfK (by omega)]⟩)
  (λn hI H K D=>by
   show (ziH g n t12 t13 t14 t25 t26 t27 l l.length l.length f).ev H K D=_;unfold ziH;simp only [Wy.ev_i,Wy.ev_k,tT,Nat.lt_irrefl]) fuel 0 n (by omega) (Nat.zero_le _) (by simpa using hn)
 rw [List.drop_zero,zfa,zYr] at h;exact h
theorem z8H (l:yD) (hl:l.length<=1000000) (hg:∀ y∈l,g y.Ann=(true,(zW y.Ann:Int))) (t12:yB) (t13 t14:Int) (t25:yC) (t26 t27:Int) (fuel n:Nat) (hf:l.length<fuel) (hn:n+zdb l<=4611686018427387904):
  zzn g fuel n t12 t13 t14 t25 t26 t27 l l.length 0=(true,(((n+zdb l:Nat):Int),t12,t13,t14,t25,t26,t27)):=by
 have h:=ze4 (W:=zsw g) (z:=default) (l:=l) (λi (n:Nat)=>((n:Int),t12,t13,t14,t25,t26,t27,l,(l.length:Int),(i:Int),())) (λ_ _=>()) (λy n=>.inl (n+1+zW y.Ann)) (λn=>((n:Int),t12,t13,t14,t25,t26,t27)) (λi n=>n+zdb (l.drop i)<=4611686018427387904)
  (λi n hi hI=>.inl ⟨_,rfl,by rw [z6 hi,zio] at hI; omega,λH K D=>by
   rw [z6 hi,zio] at hI;show (ziW g n t12 t13 t14 t25 t26 t27 l l.length i).ev H K D=_;unfold ziW;simp only [Wy.ev_i,Wy.ev_k,Wy.ev_h,Wy.ev_bn,Wy.ev_d,tT,hi,hg _ (zT hi)];rw [zfK (by omega),show (1:Int)=((1:Nat):Int) from rfl,zrh (by omega),zrh (by omega), <- Nat.add_assoc]⟩)
  (λn hI H K D=>by
   show (ziW g n t12 t13 t14 t25 t26 t27 l l.length l.length).ev H K D=_;unfold ziW;simp only [Wy.ev_i,Wy.ev_k,tT,Nat.lt_irrefl]) fuel 0 n (by omega) (Nat.zero_le _) (by simpa using hn)
 rw [List.drop_zero,zfa,zVk] at h;exact h
theorem z9W (l:yC) (hl:l.length<=1000000) (hg:∀ f∈l,(f.At.Ag.length<=1000000/\f.At.Items.length<=1000000)/\(∀ y∈f.At.Ag,g y=(true,(zW y:Int)))/\∀ y∈f.At.Items,g y.Ann=(true,(zW y.Ann:Int))) (t12:yB) (t13 t14:Int) (fuel n:Nat) (hf:l.length<fuel) (hn:n+zbS l<=4611686018427387904):
  zA9 g fuel n t12 t13 t14 l l.length 0=(true,(((n+zbS l:Nat):Int),t12,t13,t14)):=by
 have h:=ze4 (W:=ztg g) (z:=default) (l:=l) (λi (n:Nat)=>((n:Int),t12,t13,t14,l,(l.length:Int),(i:Int),())) (λ_ _=>()) (λy n=>.inl (n+zj5 y.At)) (λn=>((n:Int),t12,t13,t14)) (λi n=>n+zbS (l.drop i)<=4611686018427387904)
  (λi n hi hI=>.inl ⟨_,rfl,by rw [z6 hi,zd4] at hI; omega,λH K D=>by
   rw [z6 hi,zd4,zli] at hI;obtain ⟨⟨h1,h2⟩,h3,h4⟩:=hg _ (zT hi);show (zjz g n t12 t13 t14 l l.length i).ev H K D=_;unfold zjz;simp only [Wy.ev_i,Wy.ev_k,Wy.ev_h,Wy.ev_bn,Wy.ev_d,tT,hi,At.eta];rw [z9g g _ h1 h3 _ _ _ _ _ _ _ _ _ (by omega) (by omega)]
   simp only [cond_true,Int.toNat_natCast];rw [z8H g _ h2 h4 _ _ _ _ _ _ _ _ (by omega) (by omega)]
   simp only [cond_true];rw [zfK (by omega),zli,Nat.add_assoc]⟩)
  (λn hI H K D=>by
   show (zjz g n t12 t13 t14 l l.length l.length).ev H K D=_;unfold zjz;simp only [Wy.ev_i,Wy.ev_k,tT,Nat.lt_irrefl]) fuel 0 n (by omega) (Nat.zero_le _) (by simpa using hn)
 rw [List.drop_zero,zfa,z0z] at h;exact h
theorem zbau (l:yB) (hl:l.length<=1000000) (hg:∀ t∈l,t.Fs.length<=1000000/\∀ f∈t.Fs,(f.At.Ag.length<=1000000/\f.At.Items.length<=1000000)/\(∀ y∈f.At.Ag,g y=(true,(zW y:Int)))/\∀ y∈f.At.Items,g y.Ann=(true,(zW y.Ann:Int))) (fuel n:Nat) (hf:l.length<fuel) (hn:n+zW l<=4611686018427387904):
  zAP g fuel n l l.length 0=(true,((n+zW l:Nat):Int)):=by
 have h:=ze4 (W:=ztN g) (z:=default) (l:=l) (λi (n:Nat)=>((n:Int),l,(l.length:Int),(i:Int),())) (λ_ _=>()) (λy n=>.inl (n+1+y.Fs.length+zbS y.Fs)) (λn=>(n:Int)) (λi n=>n+zW (l.drop i)<=4611686018427387904)
  (λi n hi hI=>.inl ⟨_,rfl,by rw [z6 hi,zla] at hI; omega,λH K D=>by
   rw [z6 hi,zla] at hI;obtain ⟨h1,h3⟩:=hg _ (zT hi);show (zjJ g n l l.length i).ev H K D=_;unfold zjJ;simp only [Wy.ev_i,Wy.ev_k,Wy.ev_h,Wy.ev_bn,Wy.ev_d,tT,hi,At.eta];rw [show (1:Int)=((1:Nat):Int) from rfl,zrh (n:=1) (by omega),zrh (by omega)]
   rw [z9W g _ h1 h3 _ _ _ _ _ (by omega) (by omega)]
   simp only [cond_true];rw [show ((1:Nat):Int)=(1:Int) from rfl,zfK (by omega),Nat.add_assoc n 1]⟩)
  (λn hI H K D=>by
   show (zjJ g n l l.length l.length).ev H K D=_;unfold zjJ;simp only [Wy.ev_i,Wy.ev_k,tT,Nat.lt_irrefl]) fuel 0 n (by omega) (Nat.zero_le _) (by simpa using hn)
 rw [List.drop_zero,zfa,zZ5] at h;exact h
theorem z7C (x:At) (hl:x.Ag.length<=1000000) (hg:∀ y∈x.Ag,g y=(true,(zW y:Int))) (a:yB) (i k:Int) (fuel n:Nat) (hf:x.Ag.length<fuel) (hn:n+zes x.Ag<=4611686018427387904):
  zHX g fuel a n i k 0 x=(true,(a,((n+zes x.Ag:Nat):Int),i,k,x)):=by
 have h:=ze4 (W:=zIr g) (z:=default) (l:=x.Ag) (λj (n:Nat)=>(a,(n:Int),i,k,(),(j:Int),())) (λ_ _=>(x,())) (λy n=>.inl (n+zW y)) (λn=>(a,(n:Int),i,k,x)) (λi n=>n+zes (x.Ag.drop i)<=4611686018427387904)
  (λj n hi hI=>.inl ⟨_,rfl,by rw [z6 hi,zgV] at hI; omega,λH K D=>by
   rw [z6 hi,zgV] at hI;show (zoG g a n i k j x).ev H K D=_;unfold zoG;simp only [Wy.ev_i,Wy.ev_k,Wy.ev_h,Wy.ev_bn,Wy.ev_d,tT,hi,hg _ (zT hi)];rw [zrh (by omega),zfK (by omega)]⟩)
  (λn hI H K D=>by
   show (zoG g a n i k x.Ag.length x).ev H K D=_;unfold zoG;simp only [Wy.ev_i,Wy.ev_k,tT,Nat.lt_irrefl]) fuel 0 n (by omega) (Nat.zero_le _) (by simpa using hn)
 rw [List.drop_zero,zfa,zYr] at h;exact h
theorem z6U (x:At) (hl:x.Items.length<=1000000) (hg:∀ y∈x.Items,g y.Ann=(true,(zW y.Ann:Int))) (a:yB) (i k:Int) (fuel n:Nat) (hf:x.Items.length<fuel) (hn:n+zdb x.Items<=4611686018427387904):
  zIf g fuel a n i k 0 x=(true,(a,((n+zdb x.Items:Nat):Int),i,k)):=by
 have h:=ze4 (W:=zGV g) (z:=default) (l:=x.Items) (λj (n:Nat)=>(a,(n:Int),i,k,(),(j:Int),())) (λ_ _=>(x,())) (λy n=>.inl (n+1+zW y.Ann)) (λn=>(a,(n:Int),i,k)) (λi n=>n+zdb (x.Items.drop i)<=4611686018427387904)
  (λj n hi hI=>.inl ⟨_,rfl,by rw [z6 hi,zio] at hI; omega,λH K D=>by
   rw [z6 hi,zio] at hI;show (zoO g a n i k j x).ev H K D=_;unfold zoO;simp only [Wy.ev_i,Wy.ev_k,Wy.ev_h,Wy.ev_bn,Wy.ev_d,tT,hi,hg _ (zT hi)];rw [zfK (i:=j) (by omega),zfK (i:=n) (by omega),zrh (by omega)]⟩)
  (λn hI H K D=>by
   show (zoO g a n i k x.Items.length x).ev H K D=_;unfold zoO;simp only [Wy.ev_i,Wy.ev_k,tT,Nat.lt_irrefl]) fuel 0 n (by omega) (Nat.zero_le _) (by simpa using hn)
 rw [List.drop_zero,zfa,zVk] at h;exact h
theorem zPj:∀ (a:yB) (i:Nat),i<a.length->(a.getD i default).Fs.length<=znQ a
 | [],i,h=>by simp at h
 | t::r,0,h=>by
  have:∀ l:yC,l.length<=z5u l:=λl=>by
   induction l with
   | nil=>exact Nat.le_refl _
   | cons f r ih=>simp only [z5u,qf]; omega
  have:=this t.Fs;simp only [znQ,List.getD_cons_zero]; omega
 | t::r,i+1,h=>by
  have:=zPj r i (by simpa using h)
  simp only [znQ,List.getD_cons_succ]; omega
theorem foldl_factors' (l:yC):∀ n:Nat,l.foldl (λs t=>s+1+zj5 t.At) n=n+l.length+zbS l:=by
 induction l with
 | nil=>intro n; rw [zsB]; rfl
 | cons a r ih=>intro n; rw [List.foldl_cons,ih,zd4,qf]; omega
theorem z8V (a:yB) (i:Nat) (hi:i<a.length) (hla:a.length<=1000000) (l:yC) (el:(a.getD i default).Fs=l) (hl:l.length<=1000000) (hg:∀ f∈l,(f.At.Ag.length<=1000000/\f.At.Items.length<=1000000)/\(∀ y∈f.At.Ag,g y=(true,(zW y:Int)))/\∀ y∈f.At.Items,g y.Ann=(true,(zW y.Ann:Int))) (fuel n:Nat) (hf:l.length<fuel) (hn:n+l.length+zbS l<=4611686018427387904):
  zJO g fuel a n i 0=(true,(a,((n+l.length+zbS l:Nat):Int),(i:Int))):=by
 have h:=ze4 (W:=zJI g) (z:=default) (l:=l) (λk (n:Nat)=>(a,(n:Int),(i:Int),(k:Int),())) (λ_ _=>()) (λy n=>.inl (n+1+zj5 y.At)) (λn=>(a,(n:Int),(i:Int))) (λk n=>n+(l.drop k).length+zbS (l.drop k)<=4611686018427387904)
  (λk n hk hI=>.inl ⟨_,rfl,by rw [z6 hk,zd4,qf] at hI; omega,λH K D=>by
   rw [z6 hk,zd4,zli,qf] at hI;obtain ⟨⟨h1,h2⟩,h3,h4⟩:=hg _ (zT hk);show (zqG g a n i k).ev H K D=_;unfold zqG;simp only [Wy.ev_i,Wy.ev_k,Wy.ev_h,Wy.ev_bn,Wy.ev_d,tT,hi,el,hk,At.eta];rw [zfK (i:=n) (by omega)]
   rw [z7C g _ h1 h3 _ _ _ _ _ (by omega) (by omega)]
   simp only [cond_true,Int.toNat_natCast,At.eta];rw [z6U g _ h2 h4 _ _ _ _ _ (by omega) (by omega)]
   simp only [cond_true];rw [zfK (by omega),zli,Nat.add_assoc (n+1)]⟩)
  (λn hI H K D=>by
   show (zqG g a n i l.length).ev H K D=_;unfold zqG;simp only [Wy.ev_i,Wy.ev_k,tT,hi,el,Nat.lt_irrefl]) fuel 0 n (by omega) (Nat.zero_le _) (by simpa using hn)
 rw [List.drop_zero,zfa,foldl_factors'] at h;exact h
theorem z8N (l:yB) (hl:l.length<=1000000) (hg:∀ t∈l,t.Fs.length<=1000000/\∀ f∈t.Fs,(f.At.Ag.length<=1000000/\f.At.Items.length<=1000000)/\(∀ y∈f.At.Ag,g y=(true,(zW y:Int)))/\∀ y∈f.At.Items,g y.Ann=(true,(zW y.Ann:Int))) (fuel n:Nat) (hf:l.length<fuel) (hn:n+zW l<=4611686018427387904):
  zJ9 g fuel l n 0=(true,((n+zW l:Nat):Int)):=by
 have h:=ze4 (W:=zJK g) (z:=default) (l:=l) (λi (n:Nat)=>(l,(n:Int),(i:Int),())) (λ_ _=>()) (λy n=>.inl (n+1+y.Fs.length+zbS y.Fs)) (λn=>(n:Int)) (λi n=>n+zW (l.drop i)<=4611686018427387904)
  (λi n hi hI=>.inl ⟨_,rfl,by rw [z6 hi,zla] at hI; omega,λH K D=>by
   rw [z6 hi,zla] at hI;obtain ⟨h1,h3⟩:=hg _ (zT hi);have hz:=zPj l i hi;show (zq1 g l n i).ev H K D=_;unfold zq1;simp only [Wy.ev_i,Wy.ev_k,Wy.ev_h,Wy.ev_bn,Wy.ev_d,tT,hi,At.eta];rw [zfK (i:=n) (by omega)]
   rw [z8V g l i hi hl _ rfl h1 h3 _ _ (by omega) (by omega)]
   simp only [cond_true];rw [zfK (by omega)]⟩)
  (λn hI H K D=>by
   show (zq1 g l n l.length).ev H K D=_;unfold zq1;simp only [Wy.ev_i,Wy.ev_k,tT,Nat.lt_irrefl]) fuel 0 n (by omega) (Nat.zero_le _) (by simpa using hn)
 rw [List.drop_zero,zfa,zZ5] at h;exact h
end
theorem z28 {l:yA} {y:yB} (h:y∈l):zW y<=zes l:=by
 induction l with
 | nil=>cases h
 | cons a r ih=>
  rw [zgV];rcases qd.1 h with rfl | h
  ·omega
  ·have:=ih h; omega
theorem z1p {l:yD} {y:Wd} (h:y∈l):zW y.Ann<=zdb l:=by
 induction l with
 | nil=>cases h
 | cons a r ih=>
  rw [zio];rcases qd.1 h with rfl | h
  ·omega
  ·have:=ih h; omega
theorem zNk {l:yC} {y:Fc} (h:y∈l):zj5 y.At<=zbS l:=by
 induction l with
 | nil=>cases h
 | cons a r ih=>
  rw [zd4];rcases qd.1 h with rfl | h
  ·omega
  ·have:=ih h; omega
theorem z5k {l:yB} {y:Term} (h:y∈l):zbS y.Fs<=zW l:=by
 induction l with
 | nil=>cases h
 | cons a r ih=>
  rw [zla];rcases qd.1 h with rfl | h
  ·omega
  ·have:=ih h; omega
theorem z3N {a:yB} {t:Term} {f:Fc} (ht:t∈a) (hf:f∈t.Fs):zes f.At.Ag+zdb f.At.Items<=zW a:=by
 have h1:=z5k ht; have h2:=zNk hf; rw [zli] at h2; omega
theorem zLk {d:Nat} {a:yB} (h:zK (d+1) a) {t:Term} (ht:t∈a):t.Fs.length<=1000000/\∀ f∈t.Fs,(f.At.Ag.length<=1000000/\f.At.Items.length<=1000000)/\(∀ y∈f.At.Ag,zK d y)/\∀ y∈f.At.Items,zK d y.Ann:=
 ⟨(h.2 t ht).1,λf hf=>have q:=(h.2 t ht).2 f hf; ⟨⟨q.1.1,q.1.2.1⟩,q.2.1,λy hy=>(q.2.2 y hy).2⟩⟩
theorem z1N:∀ (n d:Nat) (a:yB),zK d a->d<=n->zW a<=4611686018427387904->zj0 n a=(true,(zW a:Int))/\zA3 n a=(true,(zW a:Int))
 | n,0,a,h,hd,hs=>h.elim
 | 0,d+1,a,h,hd,hs=>by omega
 | n+1,d+1,a,h,hd,hs=>by
  have hg:=λy (hy:zK d y) (hs:zW y<=4611686018427387904)=>z1N n d y hy (by omega) hs
  have hsub:∀ t∈a,t.Fs.length<=1000000/\∀ f∈t.Fs,(f.At.Ag.length<=1000000/\f.At.Items.length<=1000000)/\(∀ y∈f.At.Ag,zK d y/\zW y<=4611686018427387904)/\∀ y∈f.At.Items,zK d y.Ann/\zW y.Ann<=4611686018427387904:=λt ht=>by
   obtain ⟨h1,h2⟩:=zLk h ht;refine ⟨h1,λf hf=> ?_⟩
   obtain ⟨h3,h4,h5⟩:=h2 f hf;have h6:=z3N ht hf;exact ⟨h3,λy hy=>⟨h4 y hy,by have:=z28 hy; omega⟩,λy hy=>⟨h5 y hy,by have:=z1p hy; omega⟩⟩
  constructor
  ·rw [zN1];unfold zrV zB3
   have h1:=zbau (zj0 n) a h.1 (λt ht=>⟨(hsub t ht).1,λf hf=>⟨((hsub t ht).2 f hf).1,λy hy=>(hg y (((hsub t ht).2 f hf).2.1 y hy).1 (((hsub t ht).2 f hf).2.1 y hy).2).1,λy hy=>(hg _ (((hsub t ht).2 f hf).2.2 y hy).1 (((hsub t ht).2 f hf).2.2 y hy).2).1⟩⟩)
    (Int.toNat 0+a.length+(Int.ofNat a.length).toNat +Int.toNat 0+1) 0 (by omega) (by omega)
   rw [show ((0:Nat):Int)=(0:Int) from rfl,Nat.zero_add] at h1
   rw [Wy.fin_bn,show Int.ofNat a.length=(a.length:Int) from rfl] at *
   rw [h1]; rfl
  ·rw [zW0];unfold zG0 zLP
   have h1:=z8N (zA3 n) a h.1 (λt ht=>⟨(hsub t ht).1,λf hf=>⟨((hsub t ht).2 f hf).1,λy hy=>(hg y (((hsub t ht).2 f hf).2.1 y hy).1 (((hsub t ht).2 f hf).2.1 y hy).2).2,λy hy=>(hg _ (((hsub t ht).2 f hf).2.2 y hy).1 (((hsub t ht).2 f hf).2.2 y hy).2).2⟩⟩)
    (a.length+Int.toNat 0+Int.toNat 0+1+znQ a) 0 (by omega) (by omega)
   rw [show ((0:Nat):Int)=(0:Int) from rfl,Nat.zero_add] at h1
   rw [Wy.fin_bn,h1]; rfl
mutual
def zmF:At->Nat
 | ⟨k,_,a,_,i,_,_⟩=>if k=0 then 0 else 1+max (zkR a) (zjT i)
def zcQ:yC->Nat
 | []=>0
 | ⟨x,_⟩::r=>max (zmF x) (zcQ r)
def zbD:yB->Nat
 | []=>0
 | ⟨_,fs⟩::r=>max (zcQ fs) (zbD r)
def zkR:yA->Nat
 | []=>0
 | a::r=>max (zbD a) (zkR r)
def zjT:yD->Nat
 | []=>0
 | ⟨_,a⟩::r=>max (zbD a) (zjT r)
end
theorem zA1 (x:At):zmF x=if x.Kind=0 then 0 else 1+max (zkR x.Ag) (zjT x.Items):=by cases x; rw [zmF]
theorem zqH (f:Fc) (r:yC):zcQ (f::r)=max (zmF f.At) (zcQ r):=by cases f; rw [zcQ]
theorem zLc (t:Term) (r:yB):zbD (t::r)=max (zcQ t.Fs) (zbD r):=by cases t; rw [zbD]
theorem zAV (a:yB) (r:yA):zkR (a::r)=max (zbD a) (zkR r):=by rw [zkR]
theorem zyu (w:Wd) (r:yD):zjT (w::r)=max (zbD w.Ann) (zjT r):=by cases w; rw [zjT]
theorem zLb:zkR []=0:=by rw [zkR]
theorem zHC:zjT []=0:=by rw [zjT]
theorem zCz:zcQ []=0:=by rw [zcQ]
theorem zYo:zbD []=0:=by rw [zbD]
theorem z42 (l:yA):∀ n:Nat,l.foldl (λs t=>max s (zbD t)) n=max n (zkR l):=by
 induction l with
 | nil=>intro n; rw [zLb]; exact (Nat.max_zero n).symm
 | cons a r ih=>intro n; rw [List.foldl_cons,ih,zAV]; omega
theorem z27 (l:yD):∀ n:Nat,l.foldl (λs t=>max s (zbD t.Ann)) n=max n (zjT l):=by
 induction l with
 | nil=>intro n; rw [zHC]; exact (Nat.max_zero n).symm
 | cons a r ih=>intro n; rw [List.foldl_cons,ih,zyu]; omega
theorem z2Z (l:yA):∀ n:Nat,l.foldl (λs t=>max s (1+zbD t)) (1+n)=1+max n (zkR l):=by
 induction l with
 | nil=>intro n; rw [zLb]; simp
 | cons a r ih=>intro n; rw [List.foldl_cons,show max (1+n) (1+zbD a)=1+max n (zbD a) by omega,ih,zAV]; omega
theorem z1o (l:yD):∀ n:Nat,l.foldl (λs t=>max s (1+zbD t.Ann)) (1+n)=1+max n (zjT l):=by
 induction l with
 | nil=>intro n; rw [zHC]; simp
 | cons a r ih=>intro n; rw [List.foldl_cons,show max (1+n) (1+zbD a.Ann)=1+max n (zbD a.Ann) by omega,ih,zyu]; omega
theorem zPR (l:yC):∀ n:Nat,l.foldl (λs t=>max s (zmF t.At)) n=max n (zcQ l):=by
 induction l with
 | nil=>intro n; rw [zCz]; exact (Nat.max_zero n).symm
 | cons a r ih=>intro n; rw [List.foldl_cons,ih,zqH]; omega
theorem zZH (l:yB):∀ n:Nat,l.foldl (λs t=>max s (zcQ t.Fs)) n=max n (zbD l):=by
 induction l with
 | nil=>intro n; rw [zYo]; exact (Nat.max_zero n).symm
 | cons a r ih=>intro n; rw [List.foldl_cons,ih,zLc]; omega
theorem zUg (a b:Nat):(if (a:Int)>(b:Int) then (a:Int) else (b:Int))=((max b a:Nat):Int):=by split <;>omega
theorem zW2 {d:Nat}:∀ l:yA,(∀ y∈l,zbD y<=d)->zkR l<=d:=λl=>by
 induction l with
 | nil=>intro _; rw [zLb]; omega
 | cons y r ih=>intro hy; rw [zAV]; have h1:=hy y (by simp); have h2:=ih λz hz=>hy z (by simp [hz]); omega
theorem zVl {d:Nat}:∀ l:yD,(∀ y∈l,zbD y.Ann<=d)->zjT l<=d:=λl=>by
 induction l with
 | nil=>intro _; rw [zHC]; omega
 | cons y r ih=>intro hy; rw [zyu]; have h1:=hy y (by simp); have h2:=ih λz hz=>hy z (by simp [hz]); omega
theorem z0f {d:Nat}:∀ l:yC,(∀ y∈l,zmF y.At<=d)->zcQ l<=d:=λl=>by
 induction l with
 | nil=>intro _; rw [zCz]; omega
 | cons y r ih=>intro hy; rw [zqH]; have h1:=hy y (by simp); have h2:=ih λz hz=>hy z (by simp [hz]); omega
theorem z6j {d:Nat}:∀ l:yB,(∀ y∈l,zcQ y.Fs<=d)->zbD l<=d:=λl=>by
 induction l with
 | nil=>intro _; rw [zYo]; omega
 | cons y r ih=>intro hy; rw [zLc]; have h1:=hy y (by simp); have h2:=ih λz hz=>hy z (by simp [hz]); omega
theorem zOl:∀ (d:Nat) (a:yB),zK d a->zbD a<=d
 | 0,a,h=>h.elim
 | d+1,a,h=>z6j a λt ht=>z0f _ λf hf=>by
  obtain ⟨_,h2⟩:=zLk h ht;obtain ⟨_,h4,h5⟩:=h2 f hf;have q1:=zW2 f.At.Ag λy hy=>zOl d y (h4 y hy)
  have q2:=zVl f.At.Items λy hy=>zOl d y.Ann (h5 y hy)
  rw [zA1]; split <;>omega
section
variable (g:yB->Bool×Int)
theorem z9x (l:yA) (hl:l.length<=1000000) (hg:∀ y∈l,g y=(true,(zbD y:Int))) (nn:Int) (t13:yB) (t14 t15:Int) (t20:yC) (t21 t22:Int) (f:Fc) (fuel n:Nat) (hf:l.length<fuel):
  zwx g fuel nn n t13 t14 t15 t20 t21 t22 l l.length 0 f=(true,(nn,((max n (zkR l):Nat):Int),t13,t14,t15,t20,t21,t22,f)):=by
 have h:=ze4 (W:=zoD g) (z:=default) (l:=l) (λi (n:Nat)=>(nn,(),(n:Int),t13,t14,t15,t20,t21,t22,l,(l.length:Int),(i:Int),())) (λ_ _=>(f,())) (λy n=>.inl (max n (zbD y))) (λn=>(nn,(n:Int),t13,t14,t15,t20,t21,t22,f)) (λi n=>True)
  (λi n hi hI=>.inl ⟨_,rfl,trivial,λH K D=>by
   show (zgS g nn n t13 t14 t15 t20 t21 t22 l l.length i f).ev H K D=_;unfold zgS;simp only [Wy.ev_i,Wy.ev_k,Wy.ev_h,Wy.ev_bn,Wy.ev_d,tT,hi,hg _ (zT hi),zUg];rw [zfK (by omega)]⟩)
  (λn hI H K D=>by
   show (zgS g nn n t13 t14 t15 t20 t21 t22 l l.length l.length f).ev H K D=_;unfold zgS;simp only [Wy.ev_i,Wy.ev_k,tT,Nat.lt_irrefl]) fuel 0 n (by omega) (Nat.zero_le _) trivial
 rw [List.drop_zero,zfa,z42] at h;exact h
theorem z9E (l:yD) (hl:l.length<=1000000) (hg:∀ y∈l,g y.Ann=(true,(zbD y.Ann:Int))) (nn:Int) (t13:yB) (t14 t15:Int) (t20:yC) (t21 t22:Int) (fuel n:Nat) (hf:l.length<fuel):
  zwL g fuel nn n t13 t14 t15 t20 t21 t22 l l.length 0=(true,(nn,((max n (zjT l):Nat):Int),t13,t14,t15,t20,t21,t22)):=by
 have h:=ze4 (W:=zoB g) (z:=default) (l:=l) (λi (n:Nat)=>(nn,(n:Int),t13,t14,t15,t20,t21,t22,l,(l.length:Int),(i:Int),())) (λ_ _=>()) (λy n=>.inl (max n (zbD y.Ann))) (λn=>(nn,(n:Int),t13,t14,t15,t20,t21,t22)) (λi n=>True)
  (λi n hi hI=>.inl ⟨_,rfl,trivial,λH K D=>by
   show (zgI g nn n t13 t14 t15 t20 t21 t22 l l.length i).ev H K D=_;unfold zgI;simp only [Wy.ev_i,Wy.ev_k,Wy.ev_h,Wy.ev_bn,Wy.ev_d,tT,hi,hg _ (zT hi),zUg];rw [zfK (by omega)]⟩)
  (λn hI H K D=>by
   show (zgI g nn n t13 t14 t15 t20 t21 t22 l l.length l.length).ev H K D=_;unfold zgI;simp only [Wy.ev_i,Wy.ev_k,tT,Nat.lt_irrefl]) fuel 0 n (by omega) (Nat.zero_le _) trivial
 rw [List.drop_zero,zfa,z27] at h;exact h
def zN5 (x:At):Prop:=(x.Ag.length<=1000000/\x.Items.length<=1000000)/\(zmF x<=1000/\(∀ y∈x.Ag,zbD y<=1000)/\∀ y∈x.Items,zbD y.Ann<=1000)/\(∀ y∈x.Ag,g y=(true,(zbD y:Int)))/\∀ y∈x.Items,g y.Ann=(true,(zbD y.Ann:Int))
theorem zbaz (l:yC) (hl:l.length<=1000000) (hg:∀ f∈l,zN5 g f.At) (t13:yB) (t14 t15:Int) (fuel n:Nat) (hf:l.length<fuel):
  zxr g fuel n t13 t14 t15 l l.length 0=(true,(((max n (zcQ l):Nat):Int),t13,t14,t15)):=by
 have h:=ze4 (W:=zpX g) (z:=default) (l:=l) (λi (n:Nat)=>((n:Int),t13,t14,t15,l,(l.length:Int),(i:Int),())) (λ_ _=>()) (λy n=>.inl (max n (zmF y.At))) (λn=>((n:Int),t13,t14,t15)) (λi n=>True)
  (λi n hi hI=>.inl ⟨_,rfl,trivial,λH K D=>by
   obtain ⟨⟨h1,h2⟩,⟨h5,_,_⟩,h3,h4⟩:=hg _ (zT hi);show (zhG g n t13 t14 t15 l l.length i).ev H K D=_;unfold zhG;simp only [Wy.ev_i,Wy.ev_k,Wy.ev_h,Wy.ev_bn,Wy.ev_d,tT,hi,At.eta];generalize l.getD i default=f at *;rw [zA1] at h5 ⊢;by_cases hk:f.At.Kind=0
   ·have e:(f.At.Kind==0)=true:=by simp [hk]
    simp only [e,cond_true];rw [if_pos hk,Nat.max_zero,zfK (by omega)]
   ·have e:(f.At.Kind==0)=false:=by simp [hk]
    simp only [e,cond_false];rw [if_neg hk] at h5 ⊢;have q:=λfuel hf=>z9x g _ h1 h3 n t13 t14 t15 l l.length i f fuel 0 hf
    rw [Nat.zero_max,show ((0:Nat):Int)=(0:Int) from rfl] at q
    rw [q _ (by omega)]
    simp only [cond_true,Int.toNat_natCast];rw [z9E g _ h2 h4 n t13 t14 t15 l l.length i _ _ (by omega)]
    simp only [cond_true];rw [zfK (by omega),show (1:Int)=((1:Nat):Int) from rfl,zrh (n:=1) (by omega),zUg]⟩)
  (λn hI H K D=>by
   show (zhG g n t13 t14 t15 l l.length l.length).ev H K D=_;unfold zhG;simp only [Wy.ev_i,Wy.ev_k,tT,Nat.lt_irrefl]) fuel 0 n (by omega) (Nat.zero_le _) trivial
 rw [List.drop_zero,zfa,zPR] at h;exact h
theorem zbaK (l:yB) (hl:l.length<=1000000) (hg:∀ t∈l,t.Fs.length<=1000000/\∀ f∈t.Fs,zN5 g f.At) (fuel n:Nat) (hf:l.length<fuel):
  zxp g fuel n l l.length 0=(true,((max n (zbD l):Nat):Int)):=by
 have h:=ze4 (W:=zpM g) (z:=default) (l:=l) (λi (n:Nat)=>((n:Int),l,(l.length:Int),(i:Int),())) (λ_ _=>()) (λy n=>.inl (max n (zcQ y.Fs))) (λn=>(n:Int)) (λi n=>True)
  (λi n hi hI=>.inl ⟨_,rfl,trivial,λH K D=>by
   obtain ⟨h1,h3⟩:=hg _ (zT hi);show (zhK g n l l.length i).ev H K D=_;unfold zhK;simp only [Wy.ev_i,Wy.ev_k,Wy.ev_h,Wy.ev_bn,Wy.ev_d,tT,hi,At.eta];rw [zbaz g _ h1 h3 _ _ _ _ _ (by omega)]
   simp only [cond_true];rw [zfK (by omega)]⟩)
  (λn hI H K D=>by
   show (zhK g n l l.length l.length).ev H K D=_;unfold zhK;simp only [Wy.ev_i,Wy.ev_k,tT,Nat.lt_irrefl]) fuel 0 n (by omega) (Nat.zero_le _) trivial
 rw [List.drop_zero,zfa,zZH] at h;exact h
theorem z9a (x:At) (hx:zN5 g x) (a:yB) (most i k:Int) (fuel n:Nat) (hf:x.Ag.length<fuel):
  zvi g fuel a most i k ((1+n:Nat):Int) 0 x=(true,(a,most,i,k,((1+max n (zkR x.Ag):Nat):Int),x)):=by
 obtain ⟨⟨h1,h2⟩,⟨h5,h6,h7⟩,h3,h4⟩:=hx
 have h:=ze4 (W:=zBY g) (z:=default) (l:=x.Ag) (λj (n:Nat)=>(a,most,i,k,(),(n:Int),(j:Int),())) (λ_ _=>(x,())) (λy n=>.inl (max n (1+zbD y))) (λn=>(a,most,i,k,(n:Int),x)) (λi n=>True)
  (λj n hi hI=>.inl ⟨_,rfl,trivial,λH K D=>by
   have h8:=h6 _ (zT hi);show (zkI g a most i k n j x).ev H K D=_;unfold zkI;simp only [Wy.ev_i,Wy.ev_k,Wy.ev_h,Wy.ev_bn,Wy.ev_d,tT,hi,h3 _ (zT hi)];rw [zfK (by omega),show (1:Int)=((1:Nat):Int) from rfl,zrh (n:=1) (by omega),zUg]⟩)
  (λn hI H K D=>by
   show (zkI g a most i k n x.Ag.length x).ev H K D=_;unfold zkI;simp only [Wy.ev_i,Wy.ev_k,tT,Nat.lt_irrefl]) fuel 0 (1+n) (by omega) (Nat.zero_le _) trivial
 rw [List.drop_zero,zfa,z2Z] at h;exact h
theorem z8X (x:At) (hx:zN5 g x) (a:yB) (most i k:Int) (fuel n:Nat) (hf:x.Items.length<fuel):
  zB6 g fuel a most i k ((1+n:Nat):Int) 0 x=(true,(a,most,i,k,((1+max n (zjT x.Items):Nat):Int))):=by
 obtain ⟨⟨h1,h2⟩,⟨h5,h6,h7⟩,h3,h4⟩:=hx
 have h:=ze4 (W:=zB5 g) (z:=default) (l:=x.Items) (λj (n:Nat)=>(a,most,i,k,(),(n:Int),(j:Int),())) (λ_ _=>(x,())) (λy n=>.inl (max n (1+zbD y.Ann))) (λn=>(a,most,i,k,(n:Int))) (λi n=>True)
  (λj n hi hI=>.inl ⟨_,rfl,trivial,λH K D=>by
   have h8:=h7 _ (zT hi);show (zkA g a most i k n j x).ev H K D=_;unfold zkA;simp only [Wy.ev_i,Wy.ev_k,Wy.ev_h,Wy.ev_bn,Wy.ev_d,tT,hi,h4 _ (zT hi)];rw [zfK (by omega),show (1:Int)=((1:Nat):Int) from rfl,zrh (n:=1) (by omega),zUg]⟩)
  (λn hI H K D=>by
   show (zkA g a most i k n x.Items.length x).ev H K D=_;unfold zkA;simp only [Wy.ev_i,Wy.ev_k,tT,Nat.lt_irrefl]) fuel 0 (1+n) (by omega) (Nat.zero_le _) trivial
 rw [List.drop_zero,zfa,z1o] at h;exact h
theorem RNes_12' (x:At) (hx:zN5 g x) (a:yB) (most i k:Int) (fuel:Nat) (hf:x.Ag.length<fuel):zvi g fuel a most i k 1 0 x=(true,(a,most,i,k,((1+zkR x.Ag:Nat):Int),x)):=by
 have h:=z9a g x hx a most i k fuel 0 hf;rw [Nat.zero_max] at h; exact h
theorem zbal (a:yB) (i:Nat) (hi:i<a.length) (hla:a.length<=1000000) (l:yC) (el:(a.getD i default).Fs=l) (hl:l.length<=1000000) (hg:∀ f∈l,zN5 g f.At) (fuel n:Nat) (hf:l.length<fuel):
  zDF g fuel a n i 0=(true,(a,((max n (zcQ l):Nat):Int),(i:Int))):=by
 have h:=ze4 (W:=zEr g) (z:=default) (l:=l) (λk (n:Nat)=>(a,(n:Int),(i:Int),(k:Int),())) (λ_ _=>()) (λy n=>.inl (max n (zmF y.At))) (λn=>(a,(n:Int),(i:Int))) (λk n=>True)
  (λk n hk hI=>.inl ⟨_,rfl,trivial,λH K D=>by
   have hx:=hg _ (zT hk);have h5:=hx.2.1.1;show (zlU g a n i k).ev H K D=_;unfold zlU;simp only [Wy.ev_i,Wy.ev_k,Wy.ev_h,Wy.ev_bn,Wy.ev_d,tT,hi,el,hk,At.eta];generalize l.getD k default=f at *;rw [zA1] at h5 ⊢;by_cases hz:f.At.Kind=0
   ·have e:(f.At.Kind==0)=true:=by simp [hz]
    simp only [e,cond_true];rw [if_pos hz,Nat.max_zero,zfK (by omega)]
   ·have e:(f.At.Kind==0)=false:=by simp [hz]
    have hx1:=hx.1;simp only [e,cond_false];rw [if_neg hz] at h5 ⊢;rw [RNes_12' g _ hx _ _ _ _ _ (by omega)]
    simp only [cond_true,Int.toNat_natCast,At.eta];rw [z8X g _ hx _ _ _ _ _ _ (by omega)]
    simp only [cond_true];rw [zfK (by omega),zUg]⟩)
  (λn hI H K D=>by
   show (zlU g a n i l.length).ev H K D=_;unfold zlU;simp only [Wy.ev_i,Wy.ev_k,tT,hi,el,Nat.lt_irrefl]) fuel 0 n (by omega) (Nat.zero_le _) trivial
 rw [List.drop_zero,zfa,zPR] at h;exact h
theorem z91 (l:yB) (hl:l.length<=1000000) (hg:∀ t∈l,t.Fs.length<=1000000/\∀ f∈t.Fs,zN5 g f.At) (fuel n:Nat) (hf:l.length<fuel):
  zDD g fuel l n 0=(true,((max n (zbD l):Nat):Int)):=by
 have h:=ze4 (W:=zDH g) (z:=default) (l:=l) (λi (n:Nat)=>(l,(n:Int),(i:Int),())) (λ_ _=>()) (λy n=>.inl (max n (zcQ y.Fs))) (λn=>(n:Int)) (λi n=>True)
  (λi n hi hI=>.inl ⟨_,rfl,trivial,λH K D=>by
   obtain ⟨h1,h3⟩:=hg _ (zT hi);have hz:=zPj l i hi;show (zlr g l n i).ev H K D=_;unfold zlr;simp only [Wy.ev_i,Wy.ev_k,Wy.ev_h,Wy.ev_bn,Wy.ev_d,tT,hi,At.eta];rw [zbal g l i hi hl _ rfl h1 h3 _ _ (by omega)]
   simp only [cond_true];rw [zfK (by omega)]⟩)
  (λn hI H K D=>by
   show (zlr g l n l.length).ev H K D=_;unfold zlr;simp only [Wy.ev_i,Wy.ev_k,tT,Nat.lt_irrefl]) fuel 0 n (by omega) (Nat.zero_le _) trivial
 rw [List.drop_zero,zfa,zZH] at h;exact h
end
theorem z3K:∀ (n d:Nat) (a:yB),zK d a->d<=n->d<=100->zfn n a=(true,(zbD a:Int))/\zqM n a=(true,(zbD a:Int))
 | n,0,a,h,hd,hs=>h.elim
 | 0,d+1,a,h,hd,hs=>by omega
 | n+1,d+1,a,h,hd,hs=>by
  have hg:=λy (hy:zK d y)=>z3K n d y hy (by omega) (by omega)
  have hsub:∀ t∈a,t.Fs.length<=1000000/\∀ f∈t.Fs,zN5 (zfn n) f.At/\zN5 (zqM n) f.At:=λt ht=>by
   obtain ⟨h1,h2⟩:=zLk h ht;refine ⟨h1,λf hf=> ?_⟩
   obtain ⟨h3,h4,h5⟩:=h2 f hf;have q1:∀ y∈f.At.Ag,zbD y<=d:=λy hy=>zOl d y (h4 y hy)
   have q2:∀ y∈f.At.Items,zbD y.Ann<=d:=λy hy=>zOl d y.Ann (h5 y hy)
   have q3:zmF f.At<=1000:=by
    have r1:=zW2 _ q1; have r2:=zVl _ q2;rw [zA1]; split <;>omega
   have q4:zmF f.At<=1000/\(∀ y∈f.At.Ag,zbD y<=1000)/\∀ y∈f.At.Items,zbD y.Ann<=1000:=⟨q3,λy hy=>by have:=q1 y hy; omega,λy hy=>by have:=q2 y hy; omega⟩
   exact ⟨⟨h3,q4,λy hy=>(hg y (h4 y hy)).1,λy hy=>(hg _ (h5 y hy)).1⟩,⟨h3,q4,λy hy=>(hg y (h4 y hy)).2,λy hy=>(hg _ (h5 y hy)).2⟩⟩
  constructor
  ·rw [zIL];unfold znK zyj;have h1:=zbaK (zfn n) a h.1 (λt ht=>⟨(hsub t ht).1,λf hf=>((hsub t ht).2 f hf).1⟩) (Int.toNat 0+a.length+(Int.ofNat a.length).toNat +Int.toNat 0+1) 0 (by omega)
   rw [show ((0:Nat):Int)=(0:Int) from rfl,Nat.zero_max] at h1
   rw [Wy.fin_bn,show Int.ofNat a.length=(a.length:Int) from rfl] at *
   rw [h1]; rfl
  ·rw [zRT];unfold zAu zFF;have h1:=z91 (zqM n) a h.1 (λt ht=>⟨(hsub t ht).1,λf hf=>((hsub t ht).2 f hf).2⟩) (a.length+Int.toNat 0+Int.toNat 0+1+znQ a) 0 (by omega)
   rw [show ((0:Nat):Int)=(0:Int) from rfl,Nat.zero_max] at h1
   rw [Wy.fin_bn,h1]; rfl
end Go.Proofs.YtoknknbmfmddbaaGreatDoor
end
