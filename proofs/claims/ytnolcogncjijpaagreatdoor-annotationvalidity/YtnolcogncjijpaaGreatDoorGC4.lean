/- Texts of this claim, joined (the program, its functions in plain words, and what they compute). -/
import Derived.WalkKit
import Derived.WalkSpells
import Derived.Test.YtnolcogncjijpaaGreatDoorGC3
set_option autoImplicit false
set_option linter.unusedVariables false
set_option linter.unusedSectionVars false
set_option linter.unusedSimpArgs false
set_option maxRecDepth 1000000
set_option maxHeartbeats 0
noncomputable section
namespace Go.Proofs.YtnolcogncjijpaaGreatDoor
open Go Go.Ab
open Go.Proofs.Tryz
def zh3 (zh:yB->yE->Bool×yE) (t12:yB) (t13:Int) (t14:Int) (t19:yC) (t20:Int) (t21:Int) (t31:yA) (t32:Int) (t33:Int) (f:Fc) (b2:yE):Wy ((Unit×Unit)×Unit×yB×Int×Int×yC×Int×Int×yA×Int×Int×Unit) ((Unit×Unit)×Fc×yE×Unit) (yB×Int×Int×yC×Int×Int×Fc×yE):=.i (decide (t33<t32)) (.i (decide ((0:Int)<=t33)&&decide (t33<Int.ofNat t31.length)) (.bn (zh (t31.getD t33.toNat default) b2) λr0=>.h (((),()),(),t12,t13,t14,t19,t20,t21,t31,t32,(IntKind.i64.wrap (t33+(1:Int))),()) (((),()),f,(r0),())) .d) (.k (t12,t13,t14,t19,t20,t21,f,b2))
def zkZ (zh:yB->yE->Bool×yE) (x:(Unit×Unit)×Unit×yB×Int×Int×yC×Int×Int×yA×Int×Int×Unit) (y:(Unit×Unit)×Fc×yE×Unit):Wy ((Unit×Unit)×Unit×yB×Int×Int×yC×Int×Int×yA×Int×Int×Unit) ((Unit×Unit)×Fc×yE×Unit) (yB×Int×Int×yC×Int×Int×Fc×yE):=zh3 zh x.2.2.1 x.2.2.2.1 x.2.2.2.2.1 x.2.2.2.2.2.1 x.2.2.2.2.2.2.1 x.2.2.2.2.2.2.2.1 x.2.2.2.2.2.2.2.2.1 x.2.2.2.2.2.2.2.2.2.1 x.2.2.2.2.2.2.2.2.2.2.1 y.2.1 y.2.2.1
def zvZ (zh:yB->yE->Bool×yE) (n:Nat) (t12:yB) (t13:Int) (t14:Int) (t19:yC) (t20:Int) (t21:Int) (t31:yA) (t32:Int) (t33:Int) (f:Fc) (b2:yE):Bool×(yB×Int×Int×yC×Int×Int×Fc×yE):=zN (zkZ zh) default n (((),()),(),t12,t13,t14,t19,t20,t21,t31,t32,t33,()) (((),()),f,b2,())
def zuR (r:yB×Int×Int×yC×Int×Int×Fc×yE):LTree ty:=.done (.exit 4) [.fn 98 ([.ptr 224 0]),.ptr 225 0,.sl 42 r.1,.lit (.int .i64 r.2.1),.lit (.int .i64 r.2.2.1),.sl 50 r.2.2.2.1,.lit (.int .i64 r.2.2.2.2.1),.lit (.int .i64 r.2.2.2.2.2.1)] [.box ([.own 226]) false,.box (base.enc 50 r.2.2.2.2.2.2.1) false,.arr 25 r.2.2.2.2.2.2.2 false]
def zvV:LL ty ((Unit×Unit)×Unit×yB×Int×Int×yC×Int×Int×yA×Int×Int×Unit):=za (lFn 98 (za (zeB 224 0) zr)) (za (zeB 225 0) (za (lSl 42) (za (zA .i64) (za (zA .i64) (za (lSl 50) (za (zA .i64) (za (zA .i64) (za (lSl 23) (za (zA .i64) (za (zA .i64) zr))))))))))
def zvN:BL ty ((Unit×Unit)×Fc×yE×Unit):=zhD (za (zhT 226) zr) false (zhD (zhu (λx=>(⟨⟨x.1,⟨x.2.1,x.2.2.1⟩,x.2.2.2.1,x.2.2.2.2.1,x.2.2.2.2.2.1,x.2.2.2.2.2.2.1,⟨x.2.2.2.2.2.2.2.1,x.2.2.2.2.2.2.2.2.1,x.2.2.2.2.2.2.2.2.2.1⟩⟩,x.2.2.2.2.2.2.2.2.2.2.1⟩:Fc)) (λx=>(x.At.Kind,x.At.Row.Table,x.At.Row.Seq,x.At.Ag,x.At.Func,x.At.Items,x.At.Op,x.At.Bd.Kind,x.At.Bd.Int,x.At.Bd.Text,x.Exp,())) (λ_=>rfl) (za (zA .i64) (za (zA .i64) (za (zA .i64) (za (lSl 23) (za (zA .i64) (za (lSl 52) (za (zA .i64) (za (zA .i64) (za (zA .i64) (za zmf (za (zA .i64) zr)))))))))))) false (zhU 25 false (zbv)))
def zhC (zh:yB->yE->Bool×yE) (t12:yB) (t13:Int) (t14:Int) (t19:yC) (t20:Int) (t21:Int) (t43:yD) (t44:Int) (t45:Int) (b1:yE):Wy ((Unit×Unit)×yB×Int×Int×yC×Int×Int×yD×Int×Int×Unit) ((Unit×Unit)×yE×Unit) (yB×Int×Int×yC×Int×Int×yE):=.i (decide (t45<t44)) (.i (decide ((0:Int)<=t45)&&decide (t45<Int.ofNat t43.length)) (.bn (zh (t43.getD t45.toNat default).Ann b1) λr2=>.h (((),()),t12,t13,t14,t19,t20,t21,t43,t44,(IntKind.i64.wrap (t45+(1:Int))),()) (((),()),(r2),())) .d) (.k (t12,t13,t14,t19,t20,t21,b1))
def zjV (zh:yB->yE->Bool×yE) (x:(Unit×Unit)×yB×Int×Int×yC×Int×Int×yD×Int×Int×Unit) (y:(Unit×Unit)×yE×Unit):Wy ((Unit×Unit)×yB×Int×Int×yC×Int×Int×yD×Int×Int×Unit) ((Unit×Unit)×yE×Unit) (yB×Int×Int×yC×Int×Int×yE):=zhC zh x.2.1 x.2.2.1 x.2.2.2.1 x.2.2.2.2.1 x.2.2.2.2.2.1 x.2.2.2.2.2.2.1 x.2.2.2.2.2.2.2.1 x.2.2.2.2.2.2.2.2.1 x.2.2.2.2.2.2.2.2.2.1 y.2.1
def zuM (zh:yB->yE->Bool×yE) (n:Nat) (t12:yB) (t13:Int) (t14:Int) (t19:yC) (t20:Int) (t21:Int) (t43:yD) (t44:Int) (t45:Int) (b1:yE):Bool×(yB×Int×Int×yC×Int×Int×yE):=zN (zjV zh) default n (((),()),t12,t13,t14,t19,t20,t21,t43,t44,t45,()) (((),()),b1,())
def zum (r:yB×Int×Int×yC×Int×Int×yE):LTree ty:=.done (.exit 6) [.fn 98 ([.ptr 224 0]),.sl 42 r.1,.lit (.int .i64 r.2.1),.lit (.int .i64 r.2.2.1),.sl 50 r.2.2.2.1,.lit (.int .i64 r.2.2.2.2.1),.lit (.int .i64 r.2.2.2.2.2.1)] [.box ([.own 225]) false,.arr 25 r.2.2.2.2.2.2 false]
def zuQ:LL ty ((Unit×Unit)×yB×Int×Int×yC×Int×Int×yD×Int×Int×Unit):=za (lFn 98 (za (zeB 224 0) zr)) (za (lSl 42) (za (zA .i64) (za (zA .i64) (za (lSl 50) (za (zA .i64) (za (zA .i64) (za (lSl 52) (za (zA .i64) (za (zA .i64) zr)))))))))
def zu6:BL ty ((Unit×Unit)×yE×Unit):=zhD (za (zhT 225) zr) false (zhU 25 false (zbv))
def zh8 (zh:yB->yE->Bool×yE) (t12:yB) (t13:Int) (t14:Int) (t19:yC) (t20:Int) (t21:Int) (b1:yE):Wy ((Unit×Unit)×yB×Int×Int×yC×Int×Int×Unit) ((Unit×Unit)×yE×Unit) (yB×Int×Int×yE):=.i (decide (t21<t20)) (.i (decide ((0:Int)<=t21)&&decide (t21<Int.ofNat t19.length)) (.bn (zg7 (At.mk (t19.getD t21.toNat default).At.Kind (t19.getD t21.toNat default).At.Row (t19.getD t21.toNat default).At.Ag (t19.getD t21.toNat default).At.Func (t19.getD t21.toNat default).At.Items (t19.getD t21.toNat default).At.Op (t19.getD t21.toNat default).At.Bd) b1) λr6=>.bn (zvZ zh (t12.length+t13.toNat +t14.toNat +t19.length+t20.toNat +t21.toNat +(t19.getD t21.toNat default).At.Ag.length+(Int.ofNat (t19.getD t21.toNat default).At.Ag.length).toNat +Int.toNat (0:Int)+(t19.getD t21.toNat default).At.Ag.length+(t19.getD t21.toNat default).At.Items.length+r6.length+(1000:Nat)) t12 t13 t14 t19 t20 t21 (t19.getD t21.toNat default).At.Ag (Int.ofNat (t19.getD t21.toNat default).At.Ag.length) (0:Int) (FO.mk (At.mk (t19.getD t21.toNat default).At.Kind (t19.getD t21.toNat default).At.Row (t19.getD t21.toNat default).At.Ag (t19.getD t21.toNat default).At.Func (t19.getD t21.toNat default).At.Items (t19.getD t21.toNat default).At.Op (t19.getD t21.toNat default).At.Bd) (t19.getD t21.toNat default).Exp) r6) λr5=>.bn (zuM zh (r5.fst.length+r5.snd.fst.toNat +r5.snd.snd.fst.toNat +r5.snd.snd.snd.fst.length+r5.snd.snd.snd.snd.fst.toNat +r5.snd.snd.snd.snd.snd.fst.toNat +r5.snd.snd.snd.snd.snd.snd.fst.At.Items.length+(Int.ofNat r5.snd.snd.snd.snd.snd.snd.fst.At.Items.length).toNat +Int.toNat (0:Int)+r5.snd.snd.snd.snd.snd.snd.snd.length+(1000:Nat)) r5.fst r5.snd.fst r5.snd.snd.fst r5.snd.snd.snd.fst r5.snd.snd.snd.snd.fst r5.snd.snd.snd.snd.snd.fst r5.snd.snd.snd.snd.snd.snd.fst.At.Items (Int.ofNat r5.snd.snd.snd.snd.snd.snd.fst.At.Items.length) (0:Int) r5.snd.snd.snd.snd.snd.snd.snd) λr4=>.h (((),()),(r4.fst),(r4.snd.fst),(r4.snd.snd.fst),(r4.snd.snd.snd.fst),(r4.snd.snd.snd.snd.fst),(IntKind.i64.wrap (r4.snd.snd.snd.snd.snd.fst+(1:Int))),()) (((),()),(r4.snd.snd.snd.snd.snd.snd),())) .d) (.k (t12,t13,t14,b1))
def zkV (zh:yB->yE->Bool×yE) (x:(Unit×Unit)×yB×Int×Int×yC×Int×Int×Unit) (y:(Unit×Unit)×yE×Unit):Wy ((Unit×Unit)×yB×Int×Int×yC×Int×Int×Unit) ((Unit×Unit)×yE×Unit) (yB×Int×Int×yE):=zh8 zh x.2.1 x.2.2.1 x.2.2.2.1 x.2.2.2.2.1 x.2.2.2.2.2.1 x.2.2.2.2.2.2.1 y.2.1
def zvQ (zh:yB->yE->Bool×yE) (n:Nat) (t12:yB) (t13:Int) (t14:Int) (t19:yC) (t20:Int) (t21:Int) (b1:yE):Bool×(yB×Int×Int×yE):=zN (zkV zh) default n (((),()),t12,t13,t14,t19,t20,t21,()) (((),()),b1,())
def zuG (r:yB×Int×Int×yE):LTree ty:=.done (.exit 2) [.fn 98 ([.ptr 224 0]),.sl 42 r.1,.lit (.int .i64 r.2.1),.lit (.int .i64 r.2.2.1)] [.box ([.own 225]) false,.arr 25 r.2.2.2 false]
def zwd:LL ty ((Unit×Unit)×yB×Int×Int×yC×Int×Int×Unit):=za (lFn 98 (za (zeB 224 0) zr)) (za (lSl 42) (za (zA .i64) (za (zA .i64) (za (lSl 50) (za (zA .i64) (za (zA .i64) zr))))))
def zid (zh:yB->yE->Bool×yE) (t12:yB) (t13:Int) (t14:Int) (b1:yE):Wy ((Unit×Unit)×yB×Int×Int×Unit) ((Unit×Unit)×yE×Unit) (yE):=.i (decide (t14<t13)) (.i (decide ((0:Int)<=t14)&&decide (t14<Int.ofNat t12.length)) (.bn (zvQ zh (t12.length+t13.toNat +t14.toNat +(t12.getD t14.toNat default).Fs.length+(Int.ofNat (t12.getD t14.toNat default).Fs.length).toNat +Int.toNat (0:Int)+b1.length+(1000:Nat)) t12 t13 t14 (t12.getD t14.toNat default).Fs (Int.ofNat (t12.getD t14.toNat default).Fs.length) (0:Int) b1) λr10=>.h (((),()),(r10.fst),(r10.snd.fst),(IntKind.i64.wrap (r10.snd.snd.fst+(1:Int))),()) (((),()),(r10.snd.snd.snd),())) .d) (.k b1)
def zkX (zh:yB->yE->Bool×yE) (x:(Unit×Unit)×yB×Int×Int×Unit) (y:(Unit×Unit)×yE×Unit):Wy ((Unit×Unit)×yB×Int×Int×Unit) ((Unit×Unit)×yE×Unit) (yE):=zid zh x.2.1 x.2.2.1 x.2.2.2.1 y.2.1
def zvD (zh:yB->yE->Bool×yE) (n:Nat) (t12:yB) (t13:Int) (t14:Int) (b1:yE):Bool×yE:=zN (zkX zh) default n (((),()),t12,t13,t14,()) (((),()),b1,())
def zuZ (r:yE):LTree ty:=.done (.exit 0) [.fn 98 ([.ptr 224 0])] [.box ([.own 225]) false,.arr 25 r false]
def zvJ:LL ty ((Unit×Unit)×yB×Int×Int×Unit):=za (lFn 98 (za (zeB 224 0) zr)) (za (lSl 42) (za (zA .i64) (za (zA .i64) zr)))
def zol (zh:yB->yE->Bool×yE):Cx ty:=zTL base [(97,(zh5 zh)),(98,zjQ)]
theorem zAm (zh:yB->yE->Bool×yE) (zq6:SoundC Tryz.prog base 97 (zh5 zh)):CxOK Tryz.prog (zol zh):=zUZ zeA ⟨zq6,zps,trivial⟩
def zh0 (zh:yB->yE->Bool×yE):Cx ty:=zcC (zol zh) 56 [] [] [(1,[(1,.keep),(12,.keep),(13,.keep),(14,.keep)]),(4,[(1,.keep),(12,.keep),(13,.keep),(14,.keep),(19,.keep),(20,.keep),(21,.keep)]),(8,[(1,.keep),(7,.keep),(12,.keep),(13,.keep),(14,.keep),(19,.keep),(20,.keep),(21,.keep),(31,.keep),(32,.keep),(33,.keep)]),(13,[(1,.keep),(12,.keep),(13,.keep),(14,.keep),(19,.keep),(20,.keep),(21,.keep),(43,.keep),(44,.keep),(45,.keep)])] [(1,1,[(1,.keep)]),(4,3,[(1,.keep),(12,.keep),(13,.keep),(14,.keep)]),(8,5,[(1,.keep),(7,.keep),(12,.keep),(13,.keep),(14,.keep),(19,.keep),(20,.keep),(21,.keep)]),(13,7,[(1,.keep),(12,.keep),(13,.keep),(14,.keep),(19,.keep),(20,.keep),(21,.keep)])] [(8,spW zvV zvN (zkZ zh) default zuR λx y=>(x.2.2.1.length+Int.toNat x.2.2.2.1+Int.toNat x.2.2.2.2.1+x.2.2.2.2.2.1.length+Int.toNat x.2.2.2.2.2.2.1+Int.toNat x.2.2.2.2.2.2.2.1+x.2.2.2.2.2.2.2.2.1.length+Int.toNat x.2.2.2.2.2.2.2.2.2.1+Int.toNat x.2.2.2.2.2.2.2.2.2.2.1+y.2.1.At.Ag.length+y.2.1.At.Items.length+y.2.2.1.length+1000)),(13,spW zuQ zu6 (zjV zh) default zum λx y=>(x.2.1.length+Int.toNat x.2.2.1+Int.toNat x.2.2.2.1+x.2.2.2.2.1.length+Int.toNat x.2.2.2.2.2.1+Int.toNat x.2.2.2.2.2.2.1+x.2.2.2.2.2.2.2.1.length+Int.toNat x.2.2.2.2.2.2.2.2.1+Int.toNat x.2.2.2.2.2.2.2.2.2.1+y.2.1.length+1000)),(4,spW zwd zu6 (zkV zh) default zuG λx y=>(x.2.1.length+Int.toNat x.2.2.1+Int.toNat x.2.2.2.1+x.2.2.2.2.1.length+Int.toNat x.2.2.2.2.2.1+Int.toNat x.2.2.2.2.2.2.1+y.2.1.length+1000)),(1,spW zvJ zu6 (zkX zh) default zuZ λx y=>(x.2.1.length+Int.toNat x.2.2.1+Int.toNat x.2.2.2.1+y.2.1.length+1000))] []
theorem zFV (zh:yB->yE->Bool×yE):zR (zh0 zh) (lp (body f97) 2):=zD (id:=8) (V:=zvV) (B:=zvN) (W:=zkZ zh) (z:=default) (tr:=zuR) (m:=λx y=>(x.2.2.1.length+Int.toNat x.2.2.2.1+Int.toNat x.2.2.2.2.1+x.2.2.2.2.2.1.length+Int.toNat x.2.2.2.2.2.2.1+Int.toNat x.2.2.2.2.2.2.2.1+x.2.2.2.2.2.2.2.2.1.length+Int.toNat x.2.2.2.2.2.2.2.2.2.1+Int.toNat x.2.2.2.2.2.2.2.2.2.2.1+y.2.1.At.Ag.length+y.2.1.At.Items.length+y.2.2.1.length+1000)) (by kernel_rfl) (by kernel_rfl) λR H K x y=>by kernel_rfl
theorem zEI (zh:yB->yE->Bool×yE):zR (zh0 zh) (lp (body f97) 3):=zD (id:=13) (V:=zuQ) (B:=zu6) (W:=zjV zh) (z:=default) (tr:=zum) (m:=λx y=>(x.2.1.length+Int.toNat x.2.2.1+Int.toNat x.2.2.2.1+x.2.2.2.2.1.length+Int.toNat x.2.2.2.2.2.1+Int.toNat x.2.2.2.2.2.2.1+x.2.2.2.2.2.2.2.1.length+Int.toNat x.2.2.2.2.2.2.2.2.1+Int.toNat x.2.2.2.2.2.2.2.2.2.1+y.2.1.length+1000)) (by kernel_rfl) (by kernel_rfl) λR H K x y=>by kernel_rfl
theorem zFI (zh:yB->yE->Bool×yE):zR (zh0 zh) (lp (body f97) 1):=zD (id:=4) (V:=zwd) (B:=zu6) (W:=zkV zh) (z:=default) (tr:=zuG) (m:=λx y=>(x.2.1.length+Int.toNat x.2.2.1+Int.toNat x.2.2.2.1+x.2.2.2.2.1.length+Int.toNat x.2.2.2.2.2.1+Int.toNat x.2.2.2.2.2.2.1+y.2.1.length+1000)) (by kernel_rfl) (by kernel_rfl) λR H K x y=>by kernel_rfl
theorem zFF (zh:yB->yE->Bool×yE):zR (zh0 zh) (lp (body f97) 0):=zD (id:=1) (V:=zvJ) (B:=zu6) (W:=zkX zh) (z:=default) (tr:=zuZ) (m:=λx y=>(x.2.1.length+Int.toNat x.2.2.1+Int.toNat x.2.2.2.1+y.2.1.length+1000)) (by kernel_rfl) (by kernel_rfl) λR H K x y=>by kernel_rfl
def zq7 (zh:yB->yE->Bool×yE) (a:yB) (out_:yE):Wy0 (yE):=.bn (zvD zh (a.length+(Int.ofNat a.length).toNat +Int.toNat (0:Int)+out_.length+(1000:Nat)) a (Int.ofNat a.length) (0:Int) out_) λr12=>.k r12
def zkd (zh:yB->yE->Bool×yE) (a:yB) (out_:yE):Bool×yE:=(zq7 zh a out_).fin default
theorem zDQ (zh:yB->yE->Bool×yE) (zq6:SoundC Tryz.prog base 97 (zh5 zh)):SoundC Tryz.prog base 97 (zh5 (zkd zh)):=
 SoundC.cg zuW.symm (λe=>e) (SoundC.recode (A':=zy5) (λ_=>rfl) (zUU (cx:=(zol zh)) (cx':=(zh0 zh)) ztY (zAm zh zq6) zG5 (zn trivial) call97 func97 (c:=body f97) (by kernel_rfl) (zoE (l:=[lp (body f97) 0,lp (body f97) 1,lp (body f97) 2,lp (body f97) 3]) (by kernel_rfl) ⟨zFF zh,zFI zh,zFV zh,zEI zh,trivial⟩) (g0:=(some 98)) (A:=zpI (vSl 42) zcQ) (T:=25) (W:=λx l=>zq7 zh x.1 l) (z:=default) (λx l=>by kernel_rfl) (λ_=>by kernel_rfl) (by kernel_rfl)))
def zie:Nat->yB->yE->Bool×yE
 | 0=>λ_ _=>(false,default)
 | n+1=>zkd (zie n)
theorem zGK (n:Nat):zie (n+1)=zkd (zie n):=rfl
theorem zt4:∀ n,SoundC Tryz.prog base 97 (zh5 (zie n))
 | 0=>zUk call97 (λ_ _=>rfl)
 | n+1=>zDQ _ (zt4 n)
def zvy:yB->yE->Bool×yE:=zie 1000
def zv3:CSpec ty:=zh5 zvy
theorem zGi:SoundC Tryz.prog base 97 zv3:=zt4 1000
def zNV:=zbR base 17 [(88,ziH),(125,ziZ)]
def zDr (a:RowID) (b:RowID):Wy0 (Int):=.bn (zc5 a.Table b.Table) λr2=>.bn (zc5 a.Seq b.Seq) λr1=>.bn (zjX [r2,r1]) λr0=>.k r0
def zet (a:RowID) (b:RowID):=(zDr a b).fin default
def zsE:=zi zNe λx=>((zet x.1 x.2.1).1,zRK (zet x.1 x.2.1).2)
theorem zw8:SdP 144 zsE:=
 sT (cx':=zNV) (zn ⟨zjO,zkO,trivial⟩) call144 func144 (lOK aN)
def zdP:Cx ty:={ base with nt:=8 }
def zdr (s:yE):Bool×yE:=(decide (s.length*16<=zbO),s)
def zjF:Ab.Spec ty:=zi (cx:=base) (zf (zg (vSl 25)) zF) λx=>((zdr x.1).1,⟨[.own 25 (zdr x.1).2],[]⟩)
theorem zs1:ze0 zdP f142 (body f142) ⟨[.own 25],[]⟩ [.pure (.lit (.slice none 0 0))]=some ⟨[.own 25 []],[]⟩:=by kernel_rfl
theorem zrW (p:Addr) (c:Nat):ze0 zdP f142 (body f142) ⟨[.own 25],[]⟩ [.pure (.lit (.slice (some p) 0 c))]=some ⟨[.own 25 []],[]⟩:=by kernel_rfl
theorem zsq (l:yE):ze0 zdP f142 (body f142) ⟨[.own 25],[]⟩ [.pure (.sl 25 l)]=bif !l.isEmpty then bif decide ((([]:List (ty 25)).length+l.length)*16<=zbO) then some ⟨[.own 25 l],[]⟩ else none else none:=by kernel_rfl
theorem zr1:SdP 142 zjF:=
 zyT (cx':=zdP) (bytes:=16) ztY zeA ⟨⟨rfl,rfl,rfl,rfl,rfl,rfl⟩,rfl⟩ (λg s h=>by cases h) call142 func142 (c:=body f142) (by kernel_rfl) (zoE (l:=[]) (by kernel_rfl) trivial) zs1 zrW zsq (by kernel_rfl)
abbrev zei:=Unit×Int×(Nat×Nat)×Int×Unit
abbrev zbP:=yE×Unit
abbrev zlD:=Int×yE
abbrev zhl:=Unit×Int×Unit
abbrev zlz:=(Nat×yE)⊕yE
def zfD (k:Int) (s2_0:Nat) (s2_1:Nat) (k2:Int) (s:yE):Wy zei zbP zlD:=.i (decide (k2<Int.ofNat s2_1)) (.i (decide (0<=k2)&&decide (k2<Int.ofNat s2_1)) (.i (decide (0<=IntKind.i64.wrap (k2 - 1))&&decide (IntKind.i64.wrap (k2 - 1)<Int.ofNat s2_1)) (.i (!((s.getD (s2_0+k2.toNat) default).Table==(s.getD (s2_0+(IntKind.i64.wrap (k2 - 1)).toNat) default).Table&&((s.getD (s2_0+k2.toNat) default).Seq==(s.getD (s2_0+(IntKind.i64.wrap (k2 - 1)).toNat) default).Seq&&true))) (.i (decide (0<=k2)&&decide (k2<Int.ofNat s2_1)) (.i (decide (0<=k)&&decide (k<Int.ofNat s.length)) (.i (decide (k.toNat<s.length)) (.h ((),(IntKind.i64.wrap (k+1)),(s2_0,s2_1),(IntKind.i64.wrap (k2+1)),()) ((s.set k.toNat (s.getD (s2_0+k2.toNat) default)),())) .d) .d) .d) (.h ((),k,(s2_0,s2_1),(IntKind.i64.wrap (k2+1)),()) (s,()))) .d) .d) (.k (k,s))
def zjJ (x:zei) (y:zbP):=zfD x.2.1 x.2.2.1.1 x.2.2.1.2 x.2.2.2.1 y.1
def zdy (n:Nat) (k:Int) (s2_0:Nat) (s2_1:Nat) (k2:Int) (s:yE):=zN (zjJ) default n ((),k,(s2_0,s2_1),k2,()) (s,())
def zrM (r:zlD):LTree ty:=.done (.exit 2) [.own 244,.lit (.int .i64 r.1)] [.arr 25 r.2 false]
def zst:LL ty zei:=za (zhT 244) (za zm (za (z1j 244) (za zm zr)))
def zsn:BL ty zbP:=zhU 25 false (zbv)
def zfA (k:Int) (s:yE):Wy zhl zbP zlz:=.i (decide (k<Int.ofNat s.length)) (.i (decide (0<=k)&&decide (k<Int.ofNat s.length)) (.i (decide (0<=IntKind.i64.wrap (k - 1))&&decide (IntKind.i64.wrap (k - 1)<Int.ofNat s.length)) (.i ((s.getD k.toNat default).Table==(s.getD (IntKind.i64.wrap (k - 1)).toNat default).Table&&((s.getD k.toNat default).Seq==(s.getD (IntKind.i64.wrap (k - 1)).toNat default).Seq&&true)) (.i (decide (0<=k)&&decide (k<=Int.ofNat s.length)&&decide (Int.ofNat s.length<=Int.ofNat s.length)) (.bn (zdy (k.toNat +k.toNat +((Int.ofNat s.length).toNat - k.toNat)+Int.toNat 1+s.length+1000) k k.toNat ((Int.ofNat s.length).toNat - k.toNat) 1 s) λr0=>.i (decide (0<=r0.1)&&decide (r0.1<=Int.ofNat r0.2.length)&&decide (Int.ofNat r0.2.length<=Int.ofNat r0.2.length)) (.i (decide (r0.1.toNat +((Int.ofNat r0.2.length).toNat - r0.1.toNat)<=r0.2.length)) (.i (decide ((0:Int)<=(0:Int))&&decide (0<=r0.1)&&decide (r0.1<=Int.ofNat (List.take r0.1.toNat r0.2++List.replicate ((Int.ofNat r0.2.length).toNat - r0.1.toNat) (RowID.mk 0 0)++List.drop (r0.1.toNat +((Int.ofNat r0.2.length).toNat - r0.1.toNat)) r0.2).length)) (.k (.inl (r0.1.toNat - Int.toNat 0,List.take r0.1.toNat r0.2++List.replicate ((Int.ofNat r0.2.length).toNat - r0.1.toNat) (RowID.mk 0 0)++List.drop (r0.1.toNat +((Int.ofNat r0.2.length).toNat - r0.1.toNat)) r0.2))) .d) .d) .d) .d) (.h ((),(IntKind.i64.wrap (k+1)),()) (s,()))) .d) .d) (.k (.inr s))
def zjx (x:zhl) (y:zbP):=zfA x.2.1 y.1
def zcJ (n:Nat) (k:Int) (s:yE):=zN (zjx) (.inl default) n ((),k,()) (s,())
def zrU (r:zlz):LTree ty:=.ite (isL r) (.done .ret [.sub 244 0 ((getL r).1)] [.arr 25 ((getL r).2) false]) (.done (.exit 0) [.own 244] [.arr 25 (getR r) false])
def zsv:LL ty zhl:=za (zhT 244) (za zm zr)
def zr6 (x:zei) (y:zbP):Nat:=(Int.toNat x.2.1+x.2.2.1.1+x.2.2.1.2+Int.toNat x.2.2.2.1+y.1.length+1000)
def zfz:=zcC base 61 [] [] [(4,(kpL [0,3])),(9,(kpL [0,3,4,5]))] [(4,1,(kpL [0])),(4,0,(kpL [2])),(9,3,(kpL [0,3]))] [(9,spW zst zsn (zjJ) default zrM zr6),(4,spW zsv zsn (zjx) (.inl default) zrU λx y=>(Int.toNat x.2.1+y.1.length+1000))] []
theorem zrZ:zR zfz (lp (body f145) 1):=zD (id:=9) (hl:=rfl)
theorem zrN:zR zfz (lp (body f145) 0):=zD (id:=4) (hl:=rfl)
def zsZ (s:yE):Wy0 (yE):=.i (decide (Int.ofNat s.length<2)) (.k s) (.bn (zcJ (Int.toNat 1+s.length+1000) 1 s) λr2=>.i (isL r2) (.k (List.take (getL r2).1 (getL r2).2)) (.k (getR r2)))
def zcv (s:yE):=(zsZ s).fin default
def zrQ (r:yE):ARes ty:=⟨[.own 25 r],[none]⟩
def zs4:AL base zbP:=zf (znZ 25) zF
def ziD:=zi zs4 λx=>((zcv x.1).1,zrQ (zcv x.1).2)
theorem zqw:SdP 145 ziD:=
 sT (cx':=zfz) (zn trivial) call145 func145 (lOK (aC zrN (aC zrZ aN))) (sg:=⟨[.own 25],[false]⟩)
def zco (x:yE):Bool×yE:=zDV (λa b=>zet a b) x
def zix:Ab.Spec ty:=zi (cx:=base) (zf (znZ 25) (zf (zg (vFn 144 (zcQ))) zF)) λx=>((zco x.1).1,⟨[],[some ⟨25,(zco x.1).2⟩]⟩)
theorem zrn (c:Unit) (x y:RowID) (h:(zet x y).1=true):zsE ((AV.agg (base.enc 25 x)::AV.agg (base.enc 25 y)::(zcQ:VL base (Unit)).enc c).map Arg.pure)=some (true,⟨[.pure (.lit (.int .i64 (zet x y).2))],[]⟩):=by
 rw [<- h]; kernel_rfl
theorem zp3:SdP 143 zix:=by
 letI:DecidableEq (ty 25):=inferInstanceAs (DecidableEq RowID)
 exact zVv (T:=25) zeA rfl Go.Proofs.Tryz.sortRow Tryz.isAgg25 (by unfold zl; exact Tryz.sizeOf25) call143 zw8 (zcQ) (λc=>λa b=>zet a b) zrn
def zKF:=zcC base 10 [(142,zjF),(143,zix),(144,zsE),(145,ziD)] [(143,[true,false]),(145,[true])] [] [] [] []
def zL2 (l:yE):Wy0 (yE):=.bn (zdr l) λr2=>.bn (zco r2) λr1=>.bn (zcv r1) λr0=>.k r0
def znd (l:yE):=(zL2 l).fin default
def zJN (r:yE):ARes ty:=⟨[.own 25 r],[]⟩
def zMc:AL base (yE×Unit):=zf (zg (vSl 25)) zF
def zv6:=zi zMc λx=>((znd x.1).1,zJN (znd x.1).2)
theorem zFP:SdP 99 zv6:=
 sT (cx':=zKF) (zn ⟨zr1,zp3,zw8,zqw,trivial⟩) call99 func99 (lOK aN) (sg:=⟨[.own 25],[]⟩)
def zil:Cx ty:=zTL base [(97,zv3),(98,zjQ)]
theorem zxW:CxOK Tryz.prog zil:=zUZ zeA ⟨zGi,zps,trivial⟩
def zEq:=zbR zil 9 [(99,zv6)]
def zu2 (a:yB):Wy0 (yE):=.bn (zvy a []) λr1=>.bn (znd r1) λr0=>.k r0
def ziL (a:yB):=(zu2 a).fin default
def zFW:AL zil (yB×Unit):=zf (zg (vSl 42)) zF
def zlT:=zi zFW λx=>((ziL x.1).1,zJN (ziL x.1).2)
theorem zy1:Sound Tryz.prog zil 44 zlT:=
 sW (cx':=zEq) ztY zxW zG5 (zn ⟨(Sound.cg0 zuW (λe=>e) (zFP)),trivial⟩) call44 func44 (c:=body f44) (lOK aN) (sg:=⟨[.own 25],[]⟩)
theorem zAP:SdP 44 zlT:=Sound.cg0 zuW.symm (λe=>e) zy1
def zB2 (k:Go.Value) (l:List (Go.Value×Int)):Option Int:=zJy (ty:=ty) (V:=3) k l
def z08 (k:Go.Value) (l:List (Go.Value×Int)):Bool:=zBc (ty:=ty) (V:=3) k l
def z1a (k:Go.Value) (x:Int) (l:List (Go.Value×Int)):List (Go.Value×Int):=zyf (ty:=ty) (V:=3) k x l
def zLm (r:ByteArray):ARes ty:=⟨[.pure (.lit (.string r))],[]⟩
def zNX:AL zbK (yB×Unit):=zf (zg (vSl 42)) zF
def zlp (F:yB->Bool×ByteArray):Ab.Spec ty:=zi zNX λx=>((F x.1).1,zLm (F x.1).2)
def zEa:AL zbK (At×Unit):=zf (zg (zdh 48)) zF
def zjp (F:At->Bool×ByteArray):Ab.Spec ty:=zi zEa λx=>((F x.1).1,zLm (F x.1).2)
def zAo:AL zbK (yC×Unit):=zf (zg (vSl 50)) zF
def ze7 (F:yC->Bool×ByteArray):Ab.Spec ty:=zi zAo λx=>((F x.1).1,zLm (F x.1).2)
def zEf:=zbR base 2 []
def zFu:Wy0 (List ByteArray):=.k [ByteArray.mk #[(67:UInt8),(79:UInt8),(85:UInt8),(78:UInt8),(84:UInt8)],ByteArray.mk #[(83:UInt8),(85:UInt8),(77:UInt8)],ByteArray.mk #[(77:UInt8),(73:UInt8),(78:UInt8)],ByteArray.mk #[(77:UInt8),(65:UInt8),(88:UInt8)]]
def zch:Bool×List ByteArray:=(zFu).fin default
def zCZ (r:List ByteArray):ARes ty:=⟨[.own 9 r],[]⟩
def zGA:AL base (Unit):=zF
def zsJ:=zi zGA λx=>((zch ).1,zCZ (zch ).2)
theorem zAU:SdP 174 zsJ:=
 sT (cx':=zEf) (zn trivial) call174 func174 (lOK aN) (sg:=⟨[.own 9],[]⟩)
def zDX:=zbR base 2 []
def zGB:Wy0 (List ByteArray):=.k [ByteArray.mk #[(61:UInt8)],ByteArray.mk #[(60:UInt8),(62:UInt8)],ByteArray.mk #[(60:UInt8)],ByteArray.mk #[(60:UInt8),(61:UInt8)],ByteArray.mk #[(62:UInt8)],ByteArray.mk #[(62:UInt8),(61:UInt8)]]
def zdV:Bool×List ByteArray:=(zGB).fin default
def zsX:=zi zGA λx=>((zdV ).1,zCZ (zdV ).2)
theorem zAS:SdP 175 zsX:=
 sT (cx':=zDX) (zn trivial) call175 func175 (lOK aN) (sg:=⟨[.own 9],[]⟩)
def strings_Join (l:List ByteArray) (sep:ByteArray):Bool×ByteArray:=zTQ l sep
def zpB:Ab.Spec ty:=zi (cx:=zbK) (zf (zg (vSl 9)) (zf (zg zss) zF)) λx=>((strings_Join x.1 x.2.1).1,⟨[.pure (.lit (.string (strings_Join x.1 x.2.1).2))],[]⟩)
theorem ztw:Sound Tryz.prog zbK 152 zpB:=zWp (T:=9) zJw rfl Go.Proofs.Tryz.lays156 Go.Proofs.Tryz.Builder_Extra_156 call152 (λs:ByteArray=>s) (λ_=>rfl) strings_Join (λl sep=>congrArg (λl=>zTQ l sep) (List.map_id' (α:=ByteArray) l).symm)
def strconv_Itoa (x:Int):Bool×ByteArray:=zNN x
def zuE:Ab.Spec ty:=zi (cx:=base) (zf (zg (zgr .i64)) zF) λx=>((strconv_Itoa x.1).1,⟨[.pure (.lit (.string (strconv_Itoa x.1).2))],[]⟩)
theorem zy6:SdP 154 zuE:=zWy zeA Go.Proofs.Tryz.laysM171 call154 (λ_ h=>h.1)
def zP3:=zbR base 15 [(69,zpE),(154,zuE)]
def zRc (id:RowID):Wy0 (ByteArray):=.bn (znh id) λr2=>.i (!r2) (.k (ByteArray.mk #[])) (.bn (strconv_Itoa id.Table) λr1=>.i (decide ((ByteArray.mk #[(116:UInt8)]).size+r1.size<=9223372036854775807)) (.i (decide ((ByteArray.mk #[(116:UInt8)]++r1).size+(ByteArray.mk #[(46:UInt8)]).size<=9223372036854775807)) (.bn (strconv_Itoa id.Seq) λr0=>.i (decide ((ByteArray.mk #[(116:UInt8)]++r1++ByteArray.mk #[(46:UInt8)]).size+r0.size<=9223372036854775807)) (.k (ByteArray.mk #[(116:UInt8)]++r1++ByteArray.mk #[(46:UInt8)]++r0)) .d) .d) .d)
def zAn (id:RowID):=(zRc id).fin default
def zzM:=zi zRN λx=>((zAn x.1).1,zLm (zAn x.1).2)
theorem zKA:SdP 172 zzM:=
 sT (cx':=zP3) (zn ⟨ztr,zy6,trivial⟩) call172 func172 (lOK aN)
def zlt (m b:Int):Bool×ByteArray:=ztT m b
def zpn:Ab.Spec ty:=zi (cx:=base) (zf (zg (zgr .i64)) (zf (zg (zgr .i64)) zF)) λx=>((zlt x.1 x.2.1).1,⟨[.pure (.lit (.string (zlt x.1 x.2.1).2))],[]⟩)
theorem zt3:SdP 151 zpn:=zQ6 zeA Go.Proofs.Tryz.laysM173 call151 (λ_ h=>h.1)
def strings_ReplaceAll (s p q:ByteArray):Bool×ByteArray:=zse s p q
def zt1:Ab.Spec ty:=zi (cx:=zbK) (zf (zg zss) (zf (zg zss) (zf (zg zss) zF))) λx=>((strings_ReplaceAll x.1 x.2.1 x.2.2.1).1,⟨[.pure (.lit (.string (strings_ReplaceAll x.1 x.2.1 x.2.2.1).2))],[]⟩)
theorem zCG:Sound Tryz.prog zbK 203 zt1:=zPC zJw rfl Go.Proofs.Tryz.lays155 Go.Proofs.Tryz.Builder_Extra_155 call203 (λ_ h=>h.2)
def zQL:=zbR zbK 27 [(133,zrB),(151,zpn),(203,zt1)]
def zRP (v:Value):Wy0 (ByteArray):=.bn (zpo v) λr2=>.i (!r2) (.k (ByteArray.mk #[])) (.i (v.Kind==0) (.bn (zlt v.Int 10) λr0=>.k r0) (.i (v.Kind==1) (.bn (strings_ReplaceAll v.Text (ByteArray.mk #[(39:UInt8)]) (ByteArray.mk #[(39:UInt8),(39:UInt8)])) λr1=>.i (decide ((ByteArray.mk #[(39:UInt8)]).size+r1.size<=9223372036854775807)) (.i (decide ((ByteArray.mk #[(39:UInt8)]++r1).size+(ByteArray.mk #[(39:UInt8)]).size<=9223372036854775807)) (.k (ByteArray.mk #[(39:UInt8)]++r1++ByteArray.mk #[(39:UInt8)])) .d) .d) (.i (v.Int==1) (.k (ByteArray.mk #[(84:UInt8),(82:UInt8),(85:UInt8),(69:UInt8)])) (.k (ByteArray.mk #[(70:UInt8),(65:UInt8),(76:UInt8),(83:UInt8),(69:UInt8)])))))
def zwq (v:Value):=(zRP v).fin default
def zSw:AL zbK (Value×Unit):=zf (zg (zdh 46)) zF
def zBo:=zi zSw λx=>((zwq x.1).1,zLm (zwq x.1).2)
theorem zMw:Sound Tryz.prog zbK 173 zBo:=
 sU (cx':=zQL) (zn ⟨zuz.nodr,zt3.nodr,zCG,trivial⟩) call173 func173 (lOK aN)
abbrev zi4:=Unit×Unit×yD×Int×Int×Unit
abbrev ziQ:=At×List ByteArray×Unit
abbrev ztA:=At×List ByteArray
def zzU (zbh:yB->Bool×ByteArray) (t48:yD) (t49:Int) (t50:Int) (x_:At) (items:List ByteArray):Wy zi4 ziQ ztA:=.i (decide (t50<t49)) (.i (decide (0<=t50)&&decide (t50<Int.ofNat t48.length)) (.bn (zwq (t48.getD t50.toNat default).Value) λr1=>.i (decide (r1.size+(ByteArray.mk #[(58:UInt8),(32:UInt8)]).size<=9223372036854775807)) (.bn (zbh (t48.getD t50.toNat default).Ann) λr0=>.i (decide ((r1++ByteArray.mk #[(58:UInt8),(32:UInt8)]).size+r0.size<=9223372036854775807)) (.i (decide ((items.length+[r1++ByteArray.mk #[(58:UInt8),(32:UInt8)]++r0].length)*16<=zbO)) (.h ((),(),t48,t49,(IntKind.i64.wrap (t50+1)),()) (x_,(items++[r1++ByteArray.mk #[(58:UInt8),(32:UInt8)]++r0]),())) .d) .d) .d) .d) (.k (x_,items))
def zqN (zbh:yB->Bool×ByteArray) (x:zi4) (y:ziQ):=zzU zbh x.2.2.1 x.2.2.2.1 x.2.2.2.2.1 y.1 y.2.1
def zzT (zbh:yB->Bool×ByteArray) (n:Nat) (t48:yD) (t49:Int) (t50:Int) (x_:At) (items:List ByteArray):=zN (zqN zbh) default n ((),(),t48,t49,t50,()) (x_,items,())
def zyG (r:ztA):LTree ty:=.done (.exit 1) [.ptr 360 0,.own 361] [.box (base.enc 48 r.1) false,.arr 9 r.2 false]
def zzS:LL ty zi4:=za (zeB 360 0) (za (zhT 361) (za (lSl 52) (za zm (za zm zr))))
def zzP:BL ty ziQ:=zhD (zhu (λx=>(⟨x.1,⟨x.2.1,x.2.2.1⟩,x.2.2.2.1,x.2.2.2.2.1,x.2.2.2.2.2.1,x.2.2.2.2.2.2.1,⟨x.2.2.2.2.2.2.2.1,x.2.2.2.2.2.2.2.2.1,x.2.2.2.2.2.2.2.2.2.1⟩⟩:At)) (λx=>(x.Kind,x.Row.Table,x.Row.Seq,x.Ag,x.Func,x.Items,x.Op,x.Bd.Kind,x.Bd.Int,x.Bd.Text,())) (λ_=>rfl) (za (zA .i64) (za (zA .i64) (za (zA .i64) (za (lSl 23) (za (zA .i64) (za (lSl 52) (za (zA .i64) (za (zA .i64) (za (zA .i64) (za zmf zr))))))))))) false (zhU 9 false (zbv))
def zyE (x:zi4) (y:ziQ):Nat:=(x.2.2.1.length+Int.toNat x.2.2.2.1+Int.toNat x.2.2.2.2.1+y.1.Ag.length+y.1.Items.length+y.2.1.length+1)
def zrD (zbh:yB->Bool×ByteArray):=zcC zbK 90 [(109,(zlp zbh)),(152,zpB),(172,zzM),(173,zBo),(174,zsJ),(175,zsX)] [] [(12,[(1,.keep),(3,.own 9),(48,.keep),(49,.keep),(50,.keep)])] [(12,2,(kpL [1,3]))] [(12,spW zzS zzP (zqN zbh) default zyG zyE)] []
theorem zx4 (zbh:yB->Bool×ByteArray):zR (zrD zbh) (lp (body f153) 0):=zD (id:=12) (hl:=rfl)
def zBZ (zbh:yB->Bool×ByteArray) (x_:At):Wy0 (ByteArray):=.i (x_.Kind==0) (.bn (zAn x_.Row) λr4=>.k r4) (.i (x_.Kind==1) (.i (decide ((0:Int)<=(0:Int))&&decide (0<Int.ofNat x_.Ag.length)) (.bn (zbh (x_.Ag.getD (Int.toNat 0) default)) λr6=>.i (decide ((ByteArray.mk #[(109:UInt8),(111:UInt8),(110:UInt8),(117:UInt8),(115:UInt8),(91:UInt8)]).size+r6.size<=9223372036854775807)) (.i (decide ((ByteArray.mk #[(109:UInt8),(111:UInt8),(110:UInt8),(117:UInt8),(115:UInt8),(91:UInt8)]++r6).size+(ByteArray.mk #[(44:UInt8),(32:UInt8)]).size<=9223372036854775807)) (.i (decide ((0:Int)<=(1:Int))&&decide (1<Int.ofNat x_.Ag.length)) (.bn (zbh (x_.Ag.getD (Int.toNat 1) default)) λr5=>.i (decide ((ByteArray.mk #[(109:UInt8),(111:UInt8),(110:UInt8),(117:UInt8),(115:UInt8),(91:UInt8)]++r6++ByteArray.mk #[(44:UInt8),(32:UInt8)]).size+r5.size<=9223372036854775807)) (.i (decide ((ByteArray.mk #[(109:UInt8),(111:UInt8),(110:UInt8),(117:UInt8),(115:UInt8),(91:UInt8)]++r6++ByteArray.mk #[(44:UInt8),(32:UInt8)]++r5).size+(ByteArray.mk #[(93:UInt8)]).size<=9223372036854775807)) (.k (ByteArray.mk #[(109:UInt8),(111:UInt8),(110:UInt8),(117:UInt8),(115:UInt8),(91:UInt8)]++r6++ByteArray.mk #[(44:UInt8),(32:UInt8)]++r5++ByteArray.mk #[(93:UInt8)])) .d) .d) .d) .d) .d) .d) (.i (x_.Kind==2) (.i (decide ((0:Int)<=(0:Int))&&decide (0<Int.ofNat x_.Ag.length)) (.bn (zbh (x_.Ag.getD (Int.toNat 0) default)) λr7=>.i (decide ((ByteArray.mk #[(100:UInt8),(101:UInt8),(108:UInt8),(116:UInt8),(97:UInt8),(91:UInt8)]).size+r7.size<=9223372036854775807)) (.i (decide ((ByteArray.mk #[(100:UInt8),(101:UInt8),(108:UInt8),(116:UInt8),(97:UInt8),(91:UInt8)]++r7).size+(ByteArray.mk #[(93:UInt8)]).size<=9223372036854775807)) (.k (ByteArray.mk #[(100:UInt8),(101:UInt8),(108:UInt8),(116:UInt8),(97:UInt8),(91:UInt8)]++r7++ByteArray.mk #[(93:UInt8)])) .d) .d) .d) (.i (x_.Kind==3) (.i (decide ((0:Int)<=(0:Int))&&decide (0<Int.ofNat x_.Ag.length)) (.bn (zbh (x_.Ag.getD (Int.toNat 0) default)) λr8=>.i (decide ((ByteArray.mk #[(97:UInt8),(98:UInt8),(115:UInt8),(101:UInt8),(110:UInt8),(116:UInt8),(91:UInt8)]).size+r8.size<=9223372036854775807)) (.i (decide ((ByteArray.mk #[(97:UInt8),(98:UInt8),(115:UInt8),(101:UInt8),(110:UInt8),(116:UInt8),(91:UInt8)]++r8).size+(ByteArray.mk #[(93:UInt8)]).size<=9223372036854775807)) (.k (ByteArray.mk #[(97:UInt8),(98:UInt8),(115:UInt8),(101:UInt8),(110:UInt8),(116:UInt8),(91:UInt8)]++r8++ByteArray.mk #[(93:UInt8)])) .d) .d) .d) (.bn (zzT zbh (x_.Items.length+(Int.ofNat x_.Items.length).toNat +Int.toNat 0+x_.Ag.length+x_.Items.length+0+1) x_.Items (Int.ofNat x_.Items.length) 0 (At.mk x_.Kind x_.Row x_.Ag x_.Func x_.Items x_.Op x_.Bd) []) λr11=>.i (decide (0<=r11.1.Func)&&decide (r11.1.Func<Int.ofNat zch.2.length)) (.i (decide ((ByteArray.mk #[(116:UInt8),(101:UInt8),(115:UInt8),(116:UInt8),(91:UInt8)]).size+ByteArray.size (zch.2.getD r11.1.Func.toNat default)<=9223372036854775807)) (.i (decide ((ByteArray.mk #[(116:UInt8),(101:UInt8),(115:UInt8),(116:UInt8),(91:UInt8)]++zch.2.getD r11.1.Func.toNat default).size+(ByteArray.mk #[(123:UInt8)]).size<=9223372036854775807)) (.bn (strings_Join r11.2 (ByteArray.mk #[(59:UInt8),(32:UInt8)])) λr10=>.i (decide ((ByteArray.mk #[(116:UInt8),(101:UInt8),(115:UInt8),(116:UInt8),(91:UInt8)]++zch.2.getD r11.1.Func.toNat default++ByteArray.mk #[(123:UInt8)]).size+r10.size<=9223372036854775807)) (.i (decide ((ByteArray.mk #[(116:UInt8),(101:UInt8),(115:UInt8),(116:UInt8),(91:UInt8)]++zch.2.getD r11.1.Func.toNat default++ByteArray.mk #[(123:UInt8)]++r10).size+(ByteArray.mk #[(125:UInt8),(32:UInt8)]).size<=9223372036854775807)) (.i (decide (0<=IntKind.i64.wrap (r11.1.Op - 5))&&decide (IntKind.i64.wrap (r11.1.Op - 5)<Int.ofNat zdV.2.length)) (.i (decide ((ByteArray.mk #[(116:UInt8),(101:UInt8),(115:UInt8),(116:UInt8),(91:UInt8)]++zch.2.getD r11.1.Func.toNat default++ByteArray.mk #[(123:UInt8)]++r10++ByteArray.mk #[(125:UInt8),(32:UInt8)]).size+ByteArray.size (zdV.2.getD (IntKind.i64.wrap (r11.1.Op - 5)).toNat default)<=9223372036854775807)) (.i (decide ((ByteArray.mk #[(116:UInt8),(101:UInt8),(115:UInt8),(116:UInt8),(91:UInt8)]++zch.2.getD r11.1.Func.toNat default++ByteArray.mk #[(123:UInt8)]++r10++ByteArray.mk #[(125:UInt8),(32:UInt8)]++zdV.2.getD (IntKind.i64.wrap (r11.1.Op - 5)).toNat default).size+(ByteArray.mk #[(32:UInt8)]).size<=9223372036854775807)) (.bn (zwq r11.1.Bd) λr9=>.i (decide ((ByteArray.mk #[(116:UInt8),(101:UInt8),(115:UInt8),(116:UInt8),(91:UInt8)]++zch.2.getD r11.1.Func.toNat default++ByteArray.mk #[(123:UInt8)]++r10++ByteArray.mk #[(125:UInt8),(32:UInt8)]++zdV.2.getD (IntKind.i64.wrap (r11.1.Op - 5)).toNat default++ByteArray.mk #[(32:UInt8)]).size+r9.size<=9223372036854775807)) (.i (decide ((ByteArray.mk #[(116:UInt8),(101:UInt8),(115:UInt8),(116:UInt8),(91:UInt8)]++zch.2.getD r11.1.Func.toNat default++ByteArray.mk #[(123:UInt8)]++r10++ByteArray.mk #[(125:UInt8),(32:UInt8)]++zdV.2.getD (IntKind.i64.wrap (r11.1.Op - 5)).toNat default++ByteArray.mk #[(32:UInt8)]++r9).size+(ByteArray.mk #[(93:UInt8)]).size<=9223372036854775807)) (.k (ByteArray.mk #[(116:UInt8),(101:UInt8),(115:UInt8),(116:UInt8),(91:UInt8)]++zch.2.getD r11.1.Func.toNat default++ByteArray.mk #[(123:UInt8)]++r10++ByteArray.mk #[(125:UInt8),(32:UInt8)]++zdV.2.getD (IntKind.i64.wrap (r11.1.Op - 5)).toNat default++ByteArray.mk #[(32:UInt8)]++r9++ByteArray.mk #[(93:UInt8)])) .d) .d) .d) .d) .d) .d) .d) .d) .d) .d))))
def zue (zbh:yB->Bool×ByteArray) (x_:At):=(zBZ zbh x_).fin default
theorem zxv (zbh:yB->Bool×ByteArray) (zKS:Sound Tryz.prog zbK 109 (zlp zbh)):Sound Tryz.prog zbK 153 (zjp (zue zbh)):=
 sU (cx':=(zrD zbh)) (zn ⟨zKS,ztw,zKA.nodr,zMw,zAU.nodr,zAS.nodr,trivial⟩) call153 func153 (lOK (aC (zx4 zbh) aN))
abbrev zho:=Unit×yC×Int×Int×Unit
abbrev zhA:=List ByteArray×Unit
def zxm (z7:At->Bool×ByteArray) (t7:yC) (t8:Int) (t9:Int) (out_:List ByteArray):Wy zho zhA (List ByteArray):=.i (decide (t9<t8)) (.i (decide (0<=t9)&&decide (t9<Int.ofNat t7.length)) (.bn (z7 (At.mk (t7.getD t9.toNat default).At.Kind (t7.getD t9.toNat default).At.Row (t7.getD t9.toNat default).At.Ag (t7.getD t9.toNat default).At.Func (t7.getD t9.toNat default).At.Items (t7.getD t9.toNat default).At.Op (t7.getD t9.toNat default).At.Bd)) λr1=>.i ((t7.getD t9.toNat default).Exp != 1) (.bn (strconv_Itoa (t7.getD t9.toNat default).Exp) λr0=>.i (decide ((ByteArray.mk #[(94:UInt8)]).size+r0.size<=9223372036854775807)) (.i (decide (r1.size+(ByteArray.mk #[(94:UInt8)]++r0).size<=9223372036854775807)) (.i (decide ((out_.length+[r1++(ByteArray.mk #[(94:UInt8)]++r0)].length)*16<=zbO)) (.h ((),t7,t8,(IntKind.i64.wrap (t9+1)),()) ((out_++[r1++(ByteArray.mk #[(94:UInt8)]++r0)]),())) .d) .d) .d) (.i (decide ((out_.length+[r1].length)*16<=zbO)) (.h ((),t7,t8,(IntKind.i64.wrap (t9+1)),()) ((out_++[r1]),())) .d)) .d) (.k out_)
def zpx (z7:At->Bool×ByteArray) (x:zho) (y:zhA):=zxm z7 x.2.1 x.2.2.1 x.2.2.2.1 y.1
def zxt (z7:At->Bool×ByteArray) (n:Nat) (t7:yC) (t8:Int) (t9:Int) (out_:List ByteArray):=zN (zpx z7) default n ((),t7,t8,t9,()) (out_,())
def zwn (r:List ByteArray):LTree ty:=.done (.exit 0) [.own 128] [.arr 9 r false]
def zxo:LL ty zho:=za (zhT 128) (za (lSl 50) (za zm (za zm zr)))
def zxu:BL ty zhA:=zhU 9 false (zbv)
def zw3 (x:zho) (y:zhA):Nat:=(x.2.1.length+Int.toNat x.2.2.1+Int.toNat x.2.2.2.1+y.1.length+1)
def zpu (z7:At->Bool×ByteArray):=zcC zbK 32 [(152,zpB),(153,(zjp z7)),(154,zuE)] [] [(3,[(3,.own 9),(7,.keep),(8,.keep),(9,.keep)])] [(3,1,(kpL [3]))] [(3,spW zxo zxu (zpx z7) default zwn zw3)] []
theorem zwC (z7:At->Bool×ByteArray):zR (zpu z7) (lp (body f110) 0):=zD (id:=3) (hl:=rfl)
def zxT (z7:At->Bool×ByteArray) (l:yC):Wy0 (ByteArray):=.bn (zxt z7 (l.length+(Int.ofNat l.length).toNat +Int.toNat 0+0+1) l (Int.ofNat l.length) 0 []) λr5=>.bn (strings_Join r5 (ByteArray.mk #[(42:UInt8)])) λr4=>.k r4
def zrG (z7:At->Bool×ByteArray) (l:yC):=(zxT z7 l).fin default
theorem zvu (z7:At->Bool×ByteArray) (zCm:Sound Tryz.prog zbK 153 (zjp z7)):Sound Tryz.prog zbK 110 (ze7 (zrG z7)):=
 sU (cx':=(zpu z7)) (zn ⟨ztw,zCm,zy6.nodr,trivial⟩) call110 func110 (lOK (aC (zwC z7) aN))
abbrev zoH:=Unit×yB×Int×Int×Unit
abbrev zox:=List ByteArray×Unit
def zIA (zT:yC->Bool×ByteArray) (t9:yB) (t10:Int) (t11:Int) (out_:List ByteArray):Wy zoH zox (List ByteArray):=.i (decide (t11<t10)) (.i (decide (0<=t11)&&decide (t11<Int.ofNat t9.length)) (.i (Int.ofNat (t9.getD t11.toNat default).Fs.length==0) (.bn (zlt (t9.getD t11.toNat default).Cf 10) λr0=>.i (decide ((out_.length+[r0].length)*16<=zbO)) (.h ((),t9,t10,(IntKind.i64.wrap (t11+1)),()) ((out_++[r0]),())) .d) (.i ((t9.getD t11.toNat default).Cf==1) (.bn (zT (t9.getD t11.toNat default).Fs) λr1=>.i (decide ((out_.length+[r1].length)*16<=zbO)) (.h ((),t9,t10,(IntKind.i64.wrap (t11+1)),()) ((out_++[r1]),())) .d) (.bn (zlt (t9.getD t11.toNat default).Cf 10) λr3=>.i (decide (r3.size+(ByteArray.mk #[(42:UInt8)]).size<=9223372036854775807)) (.bn (zT (t9.getD t11.toNat default).Fs) λr2=>.i (decide ((r3++ByteArray.mk #[(42:UInt8)]).size+r2.size<=9223372036854775807)) (.i (decide ((out_.length+[r3++ByteArray.mk #[(42:UInt8)]++r2].length)*16<=zbO)) (.h ((),t9,t10,(IntKind.i64.wrap (t11+1)),()) ((out_++[r3++ByteArray.mk #[(42:UInt8)]++r2]),())) .d) .d) .d))) .d) (.k out_)
def zwK (zT:yC->Bool×ByteArray) (x:zoH) (y:zox):=zIA zT x.2.1 x.2.2.1 x.2.2.2.1 y.1
def zIR (zT:yC->Bool×ByteArray) (n:Nat) (t9:yB) (t10:Int) (t11:Int) (out_:List ByteArray):=zN (zwK zT) default n ((),t9,t10,t11,()) (out_,())
def zHG (r:List ByteArray):LTree ty:=.done (.exit 0) [.own 200] [.arr 9 r false]
def zJm:LL ty zoH:=za (zhT 200) (za (lSl 42) (za zm (za zm zr)))
def zJk:BL ty zox:=zhU 9 false (zbv)
def zHV (x:zoH) (y:zox):Nat:=(x.2.1.length+Int.toNat x.2.2.1+Int.toNat x.2.2.2.1+y.1.length+1)
def zxh (zT:yC->Bool×ByteArray):=zcC zbK 50 [(110,(ze7 zT)),(151,zpn),(152,zpB)] [] [(5,[(3,.own 9),(9,.keep),(10,.keep),(11,.keep)])] [(5,1,(kpL [3]))] [(5,spW zJm zJk (zwK zT) default zHG zHV)] []
theorem zHH (zT:yC->Bool×ByteArray):zR (zxh zT) (lp (body f109) 0):=zD (id:=5) (hl:=rfl)
def zKq (zT:yC->Bool×ByteArray) (a:yB):Wy0 (ByteArray):=.i (Int.ofNat a.length==0) (.k (ByteArray.mk #[(48:UInt8)])) (.bn (zIR zT (a.length+(Int.ofNat a.length).toNat +Int.toNat 0+0+1) a (Int.ofNat a.length) 0 []) λr9=>.bn (strings_Join r9 (ByteArray.mk #[(32:UInt8),(43:UInt8),(32:UInt8)])) λr8=>.k r8)
def zBv (zT:yC->Bool×ByteArray) (a:yB):=(zKq zT a).fin default
theorem zD9 (zT:yC->Bool×ByteArray) (zyj:Sound Tryz.prog zbK 110 (ze7 zT)):Sound Tryz.prog zbK 109 (zlp (zBv zT)):=
 sU (cx':=(zxh zT)) (zn ⟨zyj,zt3.nodr,ztw,trivial⟩) call109 func109 (lOK (aC (zHH zT) aN))
def zyu:Nat->(yB->Bool×ByteArray)×(At->Bool×ByteArray)×(yC->Bool×ByteArray)
 | 0=>(λ_=>(false,default),λ_=>(false,default),λ_=>(false,default))
 | n+1=>(zBv ((zyu n).2.2),zue ((zyu n).1),zrG ((zyu n).2.1))
def zBn (n:Nat):yB->Bool×ByteArray:=(zyu n).1
def zEg (n:Nat):At->Bool×ByteArray:=(zyu n).2.1
def zrH (n:Nat):yC->Bool×ByteArray:=(zyu n).2.2
theorem zJn:∀ n,Sound Tryz.prog zbK 109 (zlp (zBn n))/\Sound Tryz.prog zbK 153 (zjp (zEg n))/\Sound Tryz.prog zbK 110 (ze7 (zrH n))
 | 0=>⟨zbd call109 (λ_=>rfl),zbd call153 (λ_=>rfl),zbd call110 (λ_=>rfl)⟩
 | n+1=>by
  have ih:=zJn n;exact ⟨zD9 _ (ih.2.2),zxv _ (ih.1),zvu _ (ih.2.1)⟩
def zEP:yB->Bool×ByteArray:=zBn 1000
def zww:Ab.Spec ty:=zlp zEP
theorem zGO:Sound Tryz.prog zbK 109 zww:=(zJn 1000).1
def ztc:yC->Bool×ByteArray:=zrH 1000
def zpt:Ab.Spec ty:=ze7 ztc
theorem zwp:Sound Tryz.prog zbK 110 zpt:=(zJn 1000).2.2
def ziI (x:yB) (a b lim:Int):Bool×yB:=zSo zb1 x a b lim
def zt0:Ab.Spec ty:=zi (cx:=base) (zf (znZ 42) (zf (zg (zgr .i64)) (zf (zg (zgr .i64)) (zf (zg (zgr .i64)) (zf (zg (vFn 71 zcQ)) zF))))) λx=>((ziI x.1 x.2.1 x.2.2.1 x.2.2.2.1).1,⟨[],[some ⟨42,(ziI x.1 x.2.1 x.2.2.1 x.2.2.2.1).2⟩]⟩)
theorem zuD (c:Unit) (x y:Term) (h:(zb1 x y).1=true):zgJ ((AV.agg (base.enc 42 x)::AV.agg (base.enc 42 y)::(zcQ:VL base Unit).enc c).map Arg.pure)=some (true,⟨[.pure (.lit (.int .i64 (zb1 x y).2))],[]⟩):=by
 rw [<- h]; kernel_rfl
theorem zth:SdP 155 zt0:=by
 letI:DecidableEq (ty 42):=inferInstanceAs (DecidableEq Term)
 exact zWO (T:=42) zeA rfl Go.Proofs.Tryz.pdqTerm Tryz.isAgg42 (by unfold zl; exact Tryz.sizeOf42) call155 zjk zcQ (λc=>zb1) zuD
open Go.Proofs Go.RowKit
def zbN (x:yB):Bool×yB:=zDV zb1 x
def zd1:Ab.Spec ty:=zi (cx:=base) (zf (znZ 42) (zf (zg (vFn 71 zcQ)) zF)) λx=>((zbN x.1).1,⟨[],[some ⟨42,(zbN x.1).2⟩]⟩)
set_option maxHeartbeats 1000000 in
theorem zo2:SdP 111 zd1 where
 enters:=call111
 calls:=λavs r hsp w F vs hF ha hsep=>by
  unfold zd1 zi at hsp;split at hsp
  ·rename_i x hx;simp only [qa,qb] at hsp;obtain ⟨hpre,rfl⟩:=hsp;have hk:=(zf (znZ 42) (zf (zg (vFn 71 zcQ)) zF):AL base _).kind vs avs x hx;have ha':=(zf (znZ 42) (zf (zg (vFn 71 zcQ)) zF):AL base _).ok Tryz.prog zeA F w vs avs x hx ha;rw [hk] at hsep ⊢;clear hk hx ha;obtain ⟨l0,c,u0⟩:=x;obtain ⟨l,rfl⟩:∃ l:yB,l=l0:=⟨l0,rfl⟩;obtain ⟨v,vs',rfl,hv,hv'⟩:=ha'.inv;obtain ⟨fv,vs'',rfl,hfv,h0⟩:=hv'.inv;obtain rfl:=h0.nil_left.1
   have hsl:∃ p cap,v=.slice p l.length cap:=by
    obtain ⟨⟨xs,hown,_⟩,_⟩:=(show zcn base F w v 42 l/\∀ b,zS v=some b->¬ F b from hv)
    rcases hown.2 with ⟨h1,h2⟩ | ⟨g0,cap,cur,h1,_⟩
    ·exact ⟨none,0,by rw [h1,show l.length=0 from h2]⟩
    ·exact ⟨_,cap,h1⟩
   have hok:SortOK (α:=Term) zb1 l:=of_decide_eq_true (p:=SortOK (α:=Term) zb1 l) hpre;have hlen:l.length<4611686018427387904:=hok.size;have hbl:Lib.bitLen l.length<4611686018427387904:=Nat.lt_of_le_of_lt (Lib.bitLen_le l.length 62 (by omega) (by omega)) (by omega)
   have hpp:(ziI l 0 (l.length:Int) ((Lib.bitLen l.length:Nat):Int)).1=true:=by
    show (decide (SortOK (α:=Term) zb1 l)&&(decide ((0:Int)=0)&&(decide ((l.length:Int)=l.length)&&(decide ((0:Int)<=((Lib.bitLen l.length:Nat):Int))&&decide (((Lib.bitLen l.length:Nat):Int)<4611686018427387904)))))=true;simp only [qc,qe];exact ⟨hok,trivial,trivial,by omega,by omega⟩
   have hp:=(zth).calls [.own 42 l,.pure (.lit (.int .i64 0)),.pure (.lit (.int .i64 (l.length:Int))),.pure (.lit (.int .i64 ((Lib.bitLen l.length:Nat):Int))),.pure (.fn 71 [])] ⟨[],[some ⟨42,(zbN l).2⟩]⟩
    (by rw [<- hpp]; kernel_rfl) w F [v,.int .i64 0,.int .i64 (l.length:Int),.int .i64 ((Lib.bitLen l.length:Nat):Int),fv] hF (.cons hv (.cons (Rep.lit _) (.cons (Rep.lit _) (.cons (Rep.lit _) (.cons hfv .nil))))) hsep
   replace hp:Calls Tryz.prog 155 #[v,.int .i64 0,.int .i64 (l.length:Int),.int .i64 ((Lib.bitLen l.length:Nat):Int),fv] w λe w'=>∃ u,e=.returned u/\Post base F w [v] ⟨[],[some ⟨42,(zbN l).2⟩]⟩ u w':=hp
   show Calls Tryz.prog 111 #[v,fv] w λe w'=>∃ u,e=.returned u/\Post base F w [v] ⟨[],[some ⟨42,(zbN l).2⟩]⟩ u w'
   have hb:Calls Tryz.prog 156 #[.int .u64 (l.length:Int)] w λe w'=>e=.returned (.int .i64 ((Lib.bitLen l.length:Nat):Int))/\w'=w:=by
    have h:=Any.bits_Len Go.Proofs.Tryz.lays125 (l.length:Int) w (by omega) (by omega)
    rwa [Int.toNat_natCast] at h
   have wr:IntKind.u64.wrap (l.length:Int)=l.length:=by simp [IntKind.wrap,IntKind.bits,IntKind.signed]; omega
   generalize (zbN l).2=res at hp ⊢;generalize hn:l.length=m at *;generalize Lib.bitLen m=bl at *;clear hpp hv hfv hsep hok hpre hF;obtain ⟨p,cap,rfl⟩:=hsl;clear hn
   go_enter func111,ntmps111
   go_wp2_with (first | (go_at_call 156; refine hb.mono ?_; rintro e w' ⟨rfl,rfl⟩) | (go_at_call 155; refine hp.mono ?_; rintro e w' ⟨u,rfl,hpost⟩; obtain rfl:=hpost.unit))
   go_end0
   exact ⟨_,rfl,hpost⟩
  ·cases hsp
end Go.Proofs.YtnolcogncjijpaaGreatDoor
namespace Go.Proofs.YtnolcogncjijpaaGreatDoor
open Go Go.Ab
open Go.Proofs.Tryz
abbrev zk2:=Unit×Unit×yB×Int×Int×Unit
abbrev zkW:=(List (_root_.Go.Value×Int))×yB×Unit
def zHa (t11:yB) (t12:Int) (t13:Int) (at_:List (_root_.Go.Value×Int)) (out_:yB):Wy zk2 zkW (yB):=.i (decide (t13<t12)) (.i (decide (0<=t13)&&decide (t13<Int.ofNat t11.length)) (.bn (ztc (t11.getD t13.toNat default).Fs) λr0=>.i (z08 (Value.string r0) at_) (.i (decide (0<=(zB2 (Value.string r0) at_).getD 0)&&decide ((zB2 (Value.string r0) at_).getD 0<Int.ofNat out_.length)) (.i (decide (0<=(zB2 (Value.string r0) at_).getD 0)&&decide ((zB2 (Value.string r0) at_).getD 0<Int.ofNat out_.length)) (.i (decide (Int.toNat ((zB2 (Value.string r0) at_).getD 0)<out_.length)) (.h ((),(),t11,t12,(IntKind.i64.wrap (t13+1)),()) (at_,(out_.set (Int.toNat ((zB2 (Value.string r0) at_).getD 0)) (TO.mk (if 1152921504606846976<IntKind.i64.wrap ((out_.getD (Int.toNat ((zB2 (Value.string r0) at_).getD 0)) default).Cf+(t11.getD t13.toNat default).Cf) then 1152921504606846976 else IntKind.i64.wrap ((out_.getD (Int.toNat ((zB2 (Value.string r0) at_).getD 0)) default).Cf+(t11.getD t13.toNat default).Cf)) (out_.getD (Int.toNat ((zB2 (Value.string r0) at_).getD 0)) default).Fs)),())) .d) .d) .d) (.i (decide ((out_.length+[t11.getD t13.toNat default].length)*32<=zbO)) (.h ((),(),t11,t12,(IntKind.i64.wrap (t13+1)),()) ((z1a (Value.string r0) (Int.ofNat out_.length) at_),(out_++[t11.getD t13.toNat default]),())) .d)) .d) (.k out_)
def zvB (x:zk2) (y:zkW):=zHa x.2.2.1 x.2.2.2.1 x.2.2.2.2.1 y.1 y.2.1
def zHl (n:Nat) (t11:yB) (t12:Int) (t13:Int) (at_:List (_root_.Go.Value×Int)) (out_:yB):=zN (zvB) default n ((),(),t11,t12,t13,()) (at_,out_,())
def zGq (r:yB):LTree ty:=.done (.exit 0) [.own 208] [.arr 42 r false]
def zHN:LL ty zk2:=za (lMp 208) (za (zhT 209) (za (lSl 42) (za zm (za zm zr))))
def zG4:BL ty zkW:=bMp 9 3 false (zhU 42 false (zbv))
def zFU (x:zk2) (y:zkW):Nat:=(x.2.2.1.length+Int.toNat x.2.2.2.1+Int.toNat x.2.2.2.2.1+y.1.length+y.2.1.length+1)
def zvE:=zcC zbK 52 [(71,zgJ),(110,zpt),(111,zd1)] [(111,[true,false])] [(4,[(3,.keep),(4,.own 42),(11,.keep),(12,.keep),(13,.keep)])] [(4,1,(kpL [4]))] [(4,spW zHN zG4 (zvB) default zGq zFU)] []
theorem zFy:zR zvE (lp (body f54) 0):=zD (id:=4) (hl:=rfl)
def zId (terms:yB):Wy0 (yB):=.bn (zHl (terms.length+(Int.ofNat terms.length).toNat +Int.toNat 0+0+0+1) terms (Int.ofNat terms.length) 0 [] []) λr3=>.bn (zbN r3) λr2=>.k r2
def zo0 (terms:yB):=(zId terms).fin default
def zF9 (r:yB):ARes ty:=⟨[.own 42 r],[]⟩
def zoc:=zi zNX λx=>((zo0 x.1).1,zF9 (zo0 x.1).2)
theorem ztf:Sound Tryz.prog zbK 54 zoc:=
 sU (cx':=zvE) (zn ⟨zjk.nodr,zwp,zo2.nodr,trivial⟩) call54 func54 (lOK (aC zFy aN)) (sg:=⟨[.own 42],[]⟩)
def zjE (F:yB->Bool×yB):Ab.Spec ty:=zi zT8 λx=>((F x.1).1,zF9 (F x.1).2)
def zBI (r:At):ARes ty:=⟨[.pure (.agg (base.enc 48 r))],[]⟩
def zjt (F:At->Bool×At):Ab.Spec ty:=zi zOs λx=>((F x.1).1,zBI (F x.1).2)
def zdz:Cx ty:={ base with nt:=8 }
def zgT (s:yC):Bool×yC:=(decide (s.length*128<=zbO),s)
def ziS:Ab.Spec ty:=zi (cx:=base) (zf (zg (vSl 50)) zF) λx=>((zgT x.1).1,⟨[.own 50 (zgT x.1).2],[]⟩)
theorem zsb:ze0 zdz f117 (body f117) ⟨[.own 50],[]⟩ [.pure (.lit (.slice none 0 0))]=some ⟨[.own 50 []],[]⟩:=by kernel_rfl
theorem zqy (p:Addr) (c:Nat):ze0 zdz f117 (body f117) ⟨[.own 50],[]⟩ [.pure (.lit (.slice (some p) 0 c))]=some ⟨[.own 50 []],[]⟩:=by kernel_rfl
theorem zrb (l:yC):ze0 zdz f117 (body f117) ⟨[.own 50],[]⟩ [.pure (.sl 50 l)]=bif !l.isEmpty then bif decide ((([]:List (ty 50)).length+l.length)*128<=zbO) then some ⟨[.own 50 l],[]⟩ else none else none:=by kernel_rfl
theorem zqH:SdP 117 ziS:=
 zyT (cx':=zdz) (bytes:=128) ztY zeA ⟨⟨rfl,rfl,rfl,rfl,rfl,rfl⟩,rfl⟩ (λg s h=>by cases h) call117 func117 (c:=body f117) (by kernel_rfl) (zoE (l:=[]) (by kernel_rfl) trivial) zsb zqy zrb (by kernel_rfl)
abbrev zlM:=Unit×Unit×Unit×yB×Int×Int×Int×Int×Unit
abbrev zmc:=yB×Term×yC×Unit
abbrev zwQ:=yB×Int×Int×yB×Term×yC
abbrev zl2:=Unit×yB×Int×Int×Unit
abbrev zmi:=yB×Unit
def zFK (zG:At->Bool×At) (t8:yB) (t9:Int) (t10:Int) (t18:Int) (t19:Int) (out_:yB) (t:Term) (factors:yC):Wy zlM zmc zwQ:=.i (decide (t19<t18)) (.i (decide (0<=t19)&&decide (t19<Int.ofNat factors.length)) (.bn (zG (At.mk (factors.getD t19.toNat default).At.Kind (factors.getD t19.toNat default).At.Row (factors.getD t19.toNat default).At.Ag (factors.getD t19.toNat default).At.Func (factors.getD t19.toNat default).At.Items (factors.getD t19.toNat default).At.Op (factors.getD t19.toNat default).At.Bd)) λr2=>.i (decide (0<=t19)&&decide (t19<Int.ofNat factors.length)) (.i (decide (t19.toNat<factors.length)) (.h ((),(),(),t8,t9,t10,t18,(IntKind.i64.wrap (t19+1)),()) (out_,t,(factors.set t19.toNat (FO.mk (At.mk r2.Kind r2.Row r2.Ag r2.Func r2.Items r2.Op r2.Bd) (factors.getD t19.toNat default).Exp)),())) .d) .d) .d) (.k (t8,t9,t10,out_,t,factors))
def zuK (zG:At->Bool×At) (x:zlM) (y:zmc):=zFK zG x.2.2.2.1 x.2.2.2.2.1 x.2.2.2.2.2.1 x.2.2.2.2.2.2.1 x.2.2.2.2.2.2.2.1 y.1 y.2.1 y.2.2.1
def zGD (zG:At->Bool×At) (n:Nat) (t8:yB) (t9:Int) (t10:Int) (t18:Int) (t19:Int) (out_:yB) (t:Term) (factors:yC):=zN (zuK zG) default n ((),(),(),t8,t9,t10,t18,t19,()) (out_,t,factors,())
def zDZ (r:zwQ):LTree ty:=.done (.exit 2) [.own 168,.ptr 169 0,.own 170,.sl 42 r.1,.lit (.int .i64 r.2.1),.lit (.int .i64 r.2.2.1)] [.arr 42 r.2.2.2.1 false,.box (base.enc 42 r.2.2.2.2.1) false,.arr 50 r.2.2.2.2.2 false]
def zGo:LL ty zlM:=za (zhT 168) (za (zeB 169 0) (za (zhT 170) (za (lSl 42) (za zm (za zm (za zm (za zm zr)))))))
def zFp:BL ty zmc:=zhU 42 false (zhD (zhu (λx=>(⟨x.1,x.2.1⟩:Term)) (λx=>(x.Cf,x.Fs,())) (λ_=>rfl) (za (zA .i64) (za (lSl 50) zr))) false (zhU 50 false (zbv)))
def zF3 (zG:At->Bool×At) (t8:yB) (t9:Int) (t10:Int) (out_:yB):Wy zl2 zmi (yB):=.i (decide (t10<t9)) (.i (decide (0<=t10)&&decide (t10<Int.ofNat t8.length)) (.bn (zgT (t8.getD t10.toNat default).Fs) λr5=>.bn (zGD zG (t8.length+t9.toNat +t10.toNat +(Int.ofNat r5.length).toNat +Int.toNat 0+out_.length+(t8.getD t10.toNat default).Fs.length+r5.length+1) t8 t9 t10 (Int.ofNat r5.length) 0 out_ (t8.getD t10.toNat default) r5) λr4=>.i (decide ((r4.2.2.2.1.length+[TO.mk r4.2.2.2.2.1.Cf r4.2.2.2.2.2].length)*32<=zbO)) (.h ((),(r4.1),(r4.2.1),(IntKind.i64.wrap (r4.2.2.1+1)),()) ((r4.2.2.2.1++[TO.mk r4.2.2.2.2.1.Cf r4.2.2.2.2.2]),())) .d) .d) (.k out_)
def zuN (zG:At->Bool×At) (x:zl2) (y:zmi):=zF3 zG x.2.1 x.2.2.1 x.2.2.2.1 y.1
def zFH (zG:At->Bool×At) (n:Nat) (t8:yB) (t9:Int) (t10:Int) (out_:yB):=zN (zuN zG) default n ((),t8,t9,t10,()) (out_,())
def zEp (r:yB):LTree ty:=.done (.exit 0) [.own 168] [.arr 42 r false]
def zF8:LL ty zl2:=za (zhT 168) (za (lSl 42) (za zm (za zm zr)))
def zGg:BL ty zmi:=zhU 42 false (zbv)
def zEx (x:zlM) (y:zmc):Nat:=(x.2.2.2.1.length+Int.toNat x.2.2.2.2.1+Int.toNat x.2.2.2.2.2.1+Int.toNat x.2.2.2.2.2.2.1+Int.toNat x.2.2.2.2.2.2.2.1+y.1.length+y.2.1.Fs.length+y.2.2.1.length+1)
def zD7 (x:zl2) (y:zmi):Nat:=(x.2.1.length+Int.toNat x.2.2.1+Int.toNat x.2.2.2.1+y.1.length+1)
def zpq (zG:At->Bool×At):=zcC base 42 [(117,ziS),(118,(zjt zG))] [] [(3,[(3,.own 42),(8,.keep),(9,.keep),(10,.keep)]),(7,(kpL [3,5,6,8,9,10,18,19]))] [(3,1,(kpL [3])),(7,3,(kpL [3,5,6,8,9,10]))] [(7,spW zGo zFp (zuK zG) default zDZ zEx),(3,spW zF8 zGg (zuN zG) default zEp zD7)] []
theorem zEE (zG:At->Bool×At):zR (zpq zG) (lp (body f61) 1):=zD (id:=7) (hl:=rfl)
theorem zD3 (zG:At->Bool×At):zR (zpq zG) (lp (body f61) 0):=zD (id:=3) (hl:=rfl)
def zH5 (zG:At->Bool×At) (a:yB):Wy0 (yB):=.bn (zFH zG (a.length+(Int.ofNat a.length).toNat +Int.toNat 0+0+1) a (Int.ofNat a.length) 0 []) λr8=>.k r8
def zxD (zG:At->Bool×At) (a:yB):=(zH5 zG a).fin default
theorem zBO (zG:At->Bool×At) (zB6:SdP 118 (zjt zG)):SdP 61 (zjE (zxD zG)):=
 sT (cx':=(zpq zG)) (zn ⟨zqH,zB6,trivial⟩) call61 func61 (lOK (aC (zD3 zG) (aC (zEE zG) aN))) (sg:=⟨[.own 42],[]⟩)
def zcG:Cx ty:={ base with nt:=8 }
def zed (s:yA):Bool×yA:=(decide (s.length*24<=zbO),s)
def zgo:Ab.Spec ty:=zi (cx:=base) (zf (zg (vSl 23)) zF) λx=>((zed x.1).1,⟨[.own 23 (zed x.1).2],[]⟩)
theorem znG:ze0 zcG f159 (body f159) ⟨[.own 23],[]⟩ [.pure (.lit (.slice none 0 0))]=some ⟨[.own 23 []],[]⟩:=by kernel_rfl
theorem zmL (p:Addr) (c:Nat):ze0 zcG f159 (body f159) ⟨[.own 23],[]⟩ [.pure (.lit (.slice (some p) 0 c))]=some ⟨[.own 23 []],[]⟩:=by kernel_rfl
theorem zm4 (l:yA):ze0 zcG f159 (body f159) ⟨[.own 23],[]⟩ [.pure (.sl 23 l)]=bif !l.isEmpty then bif decide ((([]:List (ty 23)).length+l.length)*24<=zbO) then some ⟨[.own 23 l],[]⟩ else none else none:=by kernel_rfl
theorem zmH:SdP 159 zgo:=
 zyT (cx':=zcG) (bytes:=24) ztY zeA ⟨⟨rfl,rfl,rfl,rfl,rfl,rfl⟩,rfl⟩ (λg s h=>by cases h) call159 func159 (c:=body f159) (by kernel_rfl) (zoE (l:=[]) (by kernel_rfl) trivial) znG zmL zm4 (by kernel_rfl)
def zc7:Cx ty:={ base with nt:=8 }
def ze6 (s:yD):Bool×yD:=(decide (s.length*56<=zbO),s)
def zhN:Ab.Spec ty:=zi (cx:=base) (zf (zg (vSl 52)) zF) λx=>((ze6 x.1).1,⟨[.own 52 (ze6 x.1).2],[]⟩)
theorem zpy:ze0 zc7 f160 (body f160) ⟨[.own 52],[]⟩ [.pure (.lit (.slice none 0 0))]=some ⟨[.own 52 []],[]⟩:=by kernel_rfl
theorem zoS (p:Addr) (c:Nat):ze0 zc7 f160 (body f160) ⟨[.own 52],[]⟩ [.pure (.lit (.slice (some p) 0 c))]=some ⟨[.own 52 []],[]⟩:=by kernel_rfl
theorem zpj (l:yD):ze0 zc7 f160 (body f160) ⟨[.own 52],[]⟩ [.pure (.sl 52 l)]=bif !l.isEmpty then bif decide ((([]:List (ty 52)).length+l.length)*56<=zbO) then some ⟨[.own 52 l],[]⟩ else none else none:=by kernel_rfl
theorem zoD:SdP 160 zhN:=
 zyT (cx':=zc7) (bytes:=56) ztY zeA ⟨⟨rfl,rfl,rfl,rfl,rfl,rfl⟩,rfl⟩ (λg s h=>by cases h) call160 func160 (c:=body f160) (by kernel_rfl) (zoE (l:=[]) (by kernel_rfl) trivial) zpy zoS zpj (by kernel_rfl)
abbrev zcV:=Unit×Unit×Int×Int×Unit
abbrev ziF:=(Int×Int×Int×Unit×Int×yD×Int×Int×Int×ByteArray×Unit)×(Int×Int×Int×Unit×Int×Unit×Int×Int×Int×ByteArray×Unit)×yA×Unit
abbrev ztx:=Int×Int×Int×Int×yD×Int×Int×Int×ByteArray×Int×Int×Int×Int×Int×Int×Int×ByteArray×yA
abbrev ziY:=(Int×Int×Int×Unit×Int×Unit×Int×Int×Int×ByteArray×Unit)×(Int×Int×Int×Unit×Int×Unit×Int×Int×Int×ByteArray×Unit)×yA×yD×Unit
abbrev ztD:=Int×Int×Int×Int×Int×Int×Int×ByteArray×Int×Int×Int×Int×Int×Int×Int×ByteArray×yA×yD
def zBf (zQ:yB->Bool×yB) (t11:Int) (t12:Int) (x_0:Int) (x_1:Int) (x_2:Int) (x_3:Int) (x_4:yD) (x_5:Int) (x_6:Int) (x_7:Int) (x_8:ByteArray) (t2_0:Int) (t2_1:Int) (t2_2:Int) (t2_3:Int) (t2_4:Int) (t2_5:Int) (t2_6:Int) (t2_7:ByteArray) (b2:yA):Wy zcV ziF ztx:=.i (decide (t12<t11)) (.i (decide (0<=t12)&&decide (t12<Int.ofNat b2.length)) (.bn (zQ (b2.getD t12.toNat default)) λr0=>.i (decide (0<=t12)&&decide (t12<Int.ofNat b2.length)) (.i (decide (t12.toNat<b2.length)) (.h ((),(),t11,(IntKind.i64.wrap (t12+1)),()) ((x_0,x_1,x_2,(),x_3,x_4,x_5,x_6,x_7,x_8,()),(t2_0,t2_1,t2_2,(),t2_3,(),t2_4,t2_5,t2_6,t2_7,()),(b2.set t12.toNat r0),())) .d) .d) .d) (.k (x_0,x_1,x_2,x_3,x_4,x_5,x_6,x_7,x_8,t2_0,t2_1,t2_2,t2_3,t2_4,t2_5,t2_6,t2_7,b2))
def zrR (zQ:yB->Bool×yB) (x:zcV) (y:ziF):=zBf zQ x.2.2.1 x.2.2.2.1 y.1.1 y.1.2.1 y.1.2.2.1 y.1.2.2.2.2.1 y.1.2.2.2.2.2.1 y.1.2.2.2.2.2.2.1 y.1.2.2.2.2.2.2.2.1 y.1.2.2.2.2.2.2.2.2.1 y.1.2.2.2.2.2.2.2.2.2.1 y.2.1.1 y.2.1.2.1 y.2.1.2.2.1 y.2.1.2.2.2.2.1 y.2.1.2.2.2.2.2.2.1 y.2.1.2.2.2.2.2.2.2.1 y.2.1.2.2.2.2.2.2.2.2.1 y.2.1.2.2.2.2.2.2.2.2.2.1 y.2.2.1
def zAG (zQ:yB->Bool×yB) (n:Nat) (t11:Int) (t12:Int) (x_0:Int) (x_1:Int) (x_2:Int) (x_3:Int) (x_4:yD) (x_5:Int) (x_6:Int) (x_7:Int) (x_8:ByteArray) (t2_0:Int) (t2_1:Int) (t2_2:Int) (t2_3:Int) (t2_4:Int) (t2_5:Int) (t2_6:Int) (t2_7:ByteArray) (b2:yA):=zN (zrR zQ) default n ((),(),t11,t12,()) ((x_0,x_1,x_2,(),x_3,x_4,x_5,x_6,x_7,x_8,()),(t2_0,t2_1,t2_2,(),t2_3,(),t2_4,t2_5,t2_6,t2_7,()),b2,())
def zy9 (r:ztx):LTree ty:=.done (.exit 0) [.ptr 200 0,.ptr 201 0] [.box ([.lit (.int .i64 r.1),.lit (.int .i64 r.2.1),.lit (.int .i64 r.2.2.1),.own 202,.lit (.int .i64 r.2.2.2.1),.sl 52 r.2.2.2.2.1,.lit (.int .i64 r.2.2.2.2.2.1),.lit (.int .i64 r.2.2.2.2.2.2.1),.lit (.int .i64 r.2.2.2.2.2.2.2.1),.lit (.string r.2.2.2.2.2.2.2.2.1)]) false,.box ([.lit (.int .i64 r.2.2.2.2.2.2.2.2.2.1),.lit (.int .i64 r.2.2.2.2.2.2.2.2.2.2.1),.lit (.int .i64 r.2.2.2.2.2.2.2.2.2.2.2.1),.lit (.slice none 0 0),.lit (.int .i64 r.2.2.2.2.2.2.2.2.2.2.2.2.1),.lit (.slice none 0 0),.lit (.int .i64 r.2.2.2.2.2.2.2.2.2.2.2.2.2.1),.lit (.int .i64 r.2.2.2.2.2.2.2.2.2.2.2.2.2.2.1),.lit (.int .i64 r.2.2.2.2.2.2.2.2.2.2.2.2.2.2.2.1),.lit (.string r.2.2.2.2.2.2.2.2.2.2.2.2.2.2.2.2.1)]) false,.arr 23 r.2.2.2.2.2.2.2.2.2.2.2.2.2.2.2.2.2 false]
def zA2:LL ty zcV:=za (zeB 200 0) (za (zeB 201 0) (za zm (za zm zr)))
def zAq:BL ty ziF:=zhD (za (zA .i64) (za (zA .i64) (za (zA .i64) (za (zhT 202) (za (zA .i64) (za (lSl 52) (za (zA .i64) (za (zA .i64) (za (zA .i64) (za zmf zr)))))))))) false (zhD (za (zA .i64) (za (zA .i64) (za (zA .i64) (za zWL (za (zA .i64) (za zWL (za (zA .i64) (za (zA .i64) (za (zA .i64) (za zmf zr)))))))))) false (zhU 23 false (zbv)))
def zBa (zQ:yB->Bool×yB) (t32:Int) (t33:Int) (x_0:Int) (x_1:Int) (x_2:Int) (x_3:Int) (x_4:Int) (x_5:Int) (x_6:Int) (x_7:ByteArray) (t2_0:Int) (t2_1:Int) (t2_2:Int) (t2_3:Int) (t2_4:Int) (t2_5:Int) (t2_6:Int) (t2_7:ByteArray) (b2:yA) (b3:yD):Wy zcV ziY ztD:=.i (decide (t33<t32)) (.i (decide (0<=t33)&&decide (t33<Int.ofNat b3.length)) (.bn (zQ (b3.getD t33.toNat default).Ann) λr2=>.i (decide (0<=t33)&&decide (t33<Int.ofNat b3.length)) (.i (decide (t33.toNat<b3.length)) (.h ((),(),t32,(IntKind.i64.wrap (t33+1)),()) ((x_0,x_1,x_2,(),x_3,(),x_4,x_5,x_6,x_7,()),(t2_0,t2_1,t2_2,(),t2_3,(),t2_4,t2_5,t2_6,t2_7,()),b2,(b3.set t33.toNat (WO.mk (b3.getD t33.toNat default).Value r2)),())) .d) .d) .d) (.k (x_0,x_1,x_2,x_3,x_4,x_5,x_6,x_7,t2_0,t2_1,t2_2,t2_3,t2_4,t2_5,t2_6,t2_7,b2,b3))
def zsa (zQ:yB->Bool×yB) (x:zcV) (y:ziY):=zBa zQ x.2.2.1 x.2.2.2.1 y.1.1 y.1.2.1 y.1.2.2.1 y.1.2.2.2.2.1 y.1.2.2.2.2.2.2.1 y.1.2.2.2.2.2.2.2.1 y.1.2.2.2.2.2.2.2.2.1 y.1.2.2.2.2.2.2.2.2.2.1 y.2.1.1 y.2.1.2.1 y.2.1.2.2.1 y.2.1.2.2.2.2.1 y.2.1.2.2.2.2.2.2.1 y.2.1.2.2.2.2.2.2.2.1 y.2.1.2.2.2.2.2.2.2.2.1 y.2.1.2.2.2.2.2.2.2.2.2.1 y.2.2.1 y.2.2.2.1
def zAs (zQ:yB->Bool×yB) (n:Nat) (t32:Int) (t33:Int) (x_0:Int) (x_1:Int) (x_2:Int) (x_3:Int) (x_4:Int) (x_5:Int) (x_6:Int) (x_7:ByteArray) (t2_0:Int) (t2_1:Int) (t2_2:Int) (t2_3:Int) (t2_4:Int) (t2_5:Int) (t2_6:Int) (t2_7:ByteArray) (b2:yA) (b3:yD):=zN (zsa zQ) default n ((),(),t32,t33,()) ((x_0,x_1,x_2,(),x_3,(),x_4,x_5,x_6,x_7,()),(t2_0,t2_1,t2_2,(),t2_3,(),t2_4,t2_5,t2_6,t2_7,()),b2,b3,())
def zy8 (r:ztD):LTree ty:=.done (.exit 2) [.ptr 200 0,.ptr 201 0] [.box ([.lit (.int .i64 r.1),.lit (.int .i64 r.2.1),.lit (.int .i64 r.2.2.1),.own 202,.lit (.int .i64 r.2.2.2.1),.own 203,.lit (.int .i64 r.2.2.2.2.1),.lit (.int .i64 r.2.2.2.2.2.1),.lit (.int .i64 r.2.2.2.2.2.2.1),.lit (.string r.2.2.2.2.2.2.2.1)]) false,.box ([.lit (.int .i64 r.2.2.2.2.2.2.2.2.1),.lit (.int .i64 r.2.2.2.2.2.2.2.2.2.1),.lit (.int .i64 r.2.2.2.2.2.2.2.2.2.2.1),.lit (.slice none 0 0),.lit (.int .i64 r.2.2.2.2.2.2.2.2.2.2.2.1),.lit (.slice none 0 0),.lit (.int .i64 r.2.2.2.2.2.2.2.2.2.2.2.2.1),.lit (.int .i64 r.2.2.2.2.2.2.2.2.2.2.2.2.2.1),.lit (.int .i64 r.2.2.2.2.2.2.2.2.2.2.2.2.2.2.1),.lit (.string r.2.2.2.2.2.2.2.2.2.2.2.2.2.2.2.1)]) false,.arr 23 r.2.2.2.2.2.2.2.2.2.2.2.2.2.2.2.2.1 false,.arr 52 r.2.2.2.2.2.2.2.2.2.2.2.2.2.2.2.2.2 false]
def zAA:BL ty ziY:=zhD (za (zA .i64) (za (zA .i64) (za (zA .i64) (za (zhT 202) (za (zA .i64) (za (zhT 203) (za (zA .i64) (za (zA .i64) (za (zA .i64) (za zmf zr)))))))))) false (zhD (za (zA .i64) (za (zA .i64) (za (zA .i64) (za zWL (za (zA .i64) (za zWL (za (zA .i64) (za (zA .i64) (za (zA .i64) (za zmf zr)))))))))) false (zhU 23 false (zhU 52 false (zbv))))
def zzR (x:zcV) (y:ziF):Nat:=(Int.toNat x.2.2.1+Int.toNat x.2.2.2.1+Int.toNat y.1.1+Int.toNat y.1.2.1+Int.toNat y.1.2.2.1+Int.toNat y.1.2.2.2.2.1+y.1.2.2.2.2.2.1.length+Int.toNat y.1.2.2.2.2.2.2.1+Int.toNat y.1.2.2.2.2.2.2.2.1+Int.toNat y.1.2.2.2.2.2.2.2.2.1+y.1.2.2.2.2.2.2.2.2.2.1.size+Int.toNat y.2.1.1+Int.toNat y.2.1.2.1+Int.toNat y.2.1.2.2.1+Int.toNat y.2.1.2.2.2.2.1+Int.toNat y.2.1.2.2.2.2.2.2.1+Int.toNat y.2.1.2.2.2.2.2.2.2.1+Int.toNat y.2.1.2.2.2.2.2.2.2.2.1+y.2.1.2.2.2.2.2.2.2.2.2.1.size+y.2.2.1.length+1)
def zzj (x:zcV) (y:ziY):Nat:=(Int.toNat x.2.2.1+Int.toNat x.2.2.2.1+Int.toNat y.1.1+Int.toNat y.1.2.1+Int.toNat y.1.2.2.1+Int.toNat y.1.2.2.2.2.1+Int.toNat y.1.2.2.2.2.2.2.1+Int.toNat y.1.2.2.2.2.2.2.2.1+Int.toNat y.1.2.2.2.2.2.2.2.2.1+y.1.2.2.2.2.2.2.2.2.2.1.size+Int.toNat y.2.1.1+Int.toNat y.2.1.2.1+Int.toNat y.2.1.2.2.1+Int.toNat y.2.1.2.2.2.2.1+Int.toNat y.2.1.2.2.2.2.2.2.1+Int.toNat y.2.1.2.2.2.2.2.2.2.1+Int.toNat y.2.1.2.2.2.2.2.2.2.2.1+y.2.1.2.2.2.2.2.2.2.2.2.1.size+y.2.2.1.length+y.2.2.2.1.length+1)
def zle (zQ:yB->Bool×yB):=zcC base 50 [(61,(zjE zQ)),(159,zgo),(160,zhN)] [] [(3,(kpL [1,2,11,12])),(9,(kpL [1,2,32,33]))] [(3,1,(kpL [1,2])),(9,3,(kpL [1,2]))] [(3,spW zA2 zAq (zrR zQ) default zy9 zzR),(9,spW zA2 zAA (zsa zQ) default zy8 zzj)] []
theorem zzO (zQ:yB->Bool×yB):zR (zle zQ) (lp (body f118) 0):=zD (id:=3) (hl:=rfl)
theorem zy7 (zQ:yB->Bool×yB):zR (zle zQ) (lp (body f118) 1):=zD (id:=9) (hl:=rfl)
def zBT (zQ:yB->Bool×yB) (x_:At):Wy0 (At):=.bn (zed x_.Ag) λr7=>.bn (zAG zQ ((Int.ofNat r7.length).toNat +Int.toNat 0+x_.Kind.toNat +x_.Row.Table.toNat +x_.Row.Seq.toNat +x_.Func.toNat +x_.Items.length+x_.Op.toNat +x_.Bd.Kind.toNat +x_.Bd.Int.toNat +x_.Bd.Text.size+Int.toNat 0+Int.toNat 0+Int.toNat 0+Int.toNat 0+Int.toNat 0+Int.toNat 0+Int.toNat 0+(ByteArray.mk #[]).size+r7.length+1) (Int.ofNat r7.length) 0 x_.Kind x_.Row.Table x_.Row.Seq x_.Func x_.Items x_.Op x_.Bd.Kind x_.Bd.Int x_.Bd.Text 0 0 0 0 0 0 0 (ByteArray.mk #[]) r7) λr6=>.bn (ze6 r6.2.2.2.2.1) λr5=>.bn (zAs zQ ((Int.ofNat r5.length).toNat +Int.toNat 0+r6.1.toNat +r6.2.1.toNat +r6.2.2.1.toNat +r6.2.2.2.1.toNat +r6.2.2.2.2.2.1.toNat +r6.2.2.2.2.2.2.1.toNat +r6.2.2.2.2.2.2.2.1.toNat +r6.2.2.2.2.2.2.2.2.1.size+r6.2.2.2.2.2.2.2.2.2.1.toNat +r6.2.2.2.2.2.2.2.2.2.2.1.toNat +r6.2.2.2.2.2.2.2.2.2.2.2.1.toNat +r6.2.2.2.2.2.2.2.2.2.2.2.2.1.toNat +r6.2.2.2.2.2.2.2.2.2.2.2.2.2.1.toNat +r6.2.2.2.2.2.2.2.2.2.2.2.2.2.2.1.toNat +r6.2.2.2.2.2.2.2.2.2.2.2.2.2.2.2.1.toNat +r6.2.2.2.2.2.2.2.2.2.2.2.2.2.2.2.2.1.size+r6.2.2.2.2.2.2.2.2.2.2.2.2.2.2.2.2.2.length+r5.length+1) (Int.ofNat r5.length) 0 r6.1 r6.2.1 r6.2.2.1 r6.2.2.2.1 r6.2.2.2.2.2.1 r6.2.2.2.2.2.2.1 r6.2.2.2.2.2.2.2.1 r6.2.2.2.2.2.2.2.2.1 r6.2.2.2.2.2.2.2.2.2.1 r6.2.2.2.2.2.2.2.2.2.2.1 r6.2.2.2.2.2.2.2.2.2.2.2.1 r6.2.2.2.2.2.2.2.2.2.2.2.2.1 r6.2.2.2.2.2.2.2.2.2.2.2.2.2.1 r6.2.2.2.2.2.2.2.2.2.2.2.2.2.2.1 r6.2.2.2.2.2.2.2.2.2.2.2.2.2.2.2.1 r6.2.2.2.2.2.2.2.2.2.2.2.2.2.2.2.2.1 r6.2.2.2.2.2.2.2.2.2.2.2.2.2.2.2.2.2 r5) λr4=>.k (⟨r4.1,(⟨r4.2.1,r4.2.2.1⟩:RowID),r4.2.2.2.2.2.2.2.2.2.2.2.2.2.2.2.2.1,r4.2.2.2.1,r4.2.2.2.2.2.2.2.2.2.2.2.2.2.2.2.2.2,r4.2.2.2.2.1,(⟨r4.2.2.2.2.2.1,r4.2.2.2.2.2.2.1,r4.2.2.2.2.2.2.2.1⟩:Value)⟩:At)
def zuj (zQ:yB->Bool×yB) (x_:At):=(zBT zQ x_).fin default
theorem zxn (zQ:yB->Bool×yB) (zH6:SdP 61 (zjE zQ)):SdP 118 (zjt (zuj zQ)):=
 sT (cx':=(zle zQ)) (zn ⟨zH6,zmH,zoD,trivial⟩) call118 func118 (lOK (aC (zzO zQ) (aC (zy7 zQ) aN)))
def zCk:Nat->(yB->Bool×yB)×(At->Bool×At)
 | 0=>(λ_=>(false,default),λ_=>(false,default))
 | n+1=>(zxD ((zCk n).2),zuj ((zCk n).1))
def zxB (n:Nat):yB->Bool×yB:=(zCk n).1
def zD5 (n:Nat):At->Bool×At:=(zCk n).2
theorem zNt:∀ n,SdP 61 (zjE (zxB n))/\SdP 118 (zjt (zD5 n))
 | 0=>⟨zbd call61 (λ_=>rfl),zbd call118 (λ_=>rfl)⟩
 | n+1=>by
  have ih:=zNt n;exact ⟨zBO _ (ih.2),zxn _ (ih.1)⟩
def zhk:yB->Bool×yB:=zxB 1000
def zfi:Ab.Spec ty:=zjE zhk
theorem zg5:SdP 61 zfi:=(zNt 1000).1
def zHK:=zbR base 9 [(61,zfi),(70,zpi)]
def zIT (a:yB):Wy0 (yB×Int):=.bn (zi8 a) λr1=>.i (!r1) (.k ([],6)) (.bn (zhk a) λr0=>.k (r0,0))
def zeM (a:yB):=(zIT a).fin default
def zGx (r:yB×Int):ARes ty:=⟨[.own 42 r.1,.pure (.lit (.int .i64 r.2))],[]⟩
def zdL:=zi zT8 λx=>((zeM x.1).1,zGx (zeM x.1).2)
theorem zew:SdP 53 zdL:=
 sT (cx':=zHK) (zn ⟨zg5,zt7,trivial⟩) call53 func53 (lOK aN) (sg:=⟨[.own 42,.pure],[]⟩)
def zsC:=zbR base 27 []
def zs0 (n_:Int):Wy0 (yB):=.i (decide (n_<0)) .d (.i (decide (IntKind.i64.wrap (n_ - IntKind.i64.wrap (0 - 0))>0)) (.i (decide (0<IntKind.i64.wrap (n_ - IntKind.i64.wrap (0 - 0)))&&(decide (IntKind.i64.wrap (n_ - IntKind.i64.wrap (0 - 0))*Int.ofNat 32<=Int.ofNat zbO)&&(decide (IntKind.i64.wrap (n_ - IntKind.i64.wrap (0 - 0))<=Int.ofNat zbO)&& !Nat.beq 2 0))) (.k (List.take (Int.toNat 0 - Int.toNat 0) (List.replicate (IntKind.i64.wrap (n_ - IntKind.i64.wrap (0 - 0))).toNat (TO.mk 0 [])))) .d) (.k []))
def zgR (n_:Int):=(zs0 n_).fin default
def zs2:AL base (Unit×Int×Unit):=zf (zg zZl) (zf (zg zlk) zF)
def ziN:=zi zs2 λx=>((zgR x.2.1).1,zF9 (zgR x.2.1).2)
theorem zqx:SdP 112 ziN:=
 sT (cx':=zsC) (zn trivial) call112 func112 (lOK aN) (sg:=⟨[.own 42],[]⟩)
abbrev zdO:=yA×Int×yA×Int×Int×Unit
abbrev zkw:=yA×Int
abbrev zdS:=Unit×yA×Int×Int×Unit
abbrev zdQ:=yB×Unit
def zrl (slices:yA) (size:Int) (t9:yA) (t10:Int) (t11:Int):Wy zdO Unit zkw:=.i (decide (t11<t10)) (.i (decide (0<=t11)&&decide (t11<Int.ofNat t9.length)) (.i (decide (IntKind.i64.wrap (size+Int.ofNat (List.length (t9.getD t11.toNat default)))<0)) .d (.h (slices,(IntKind.i64.wrap (size+Int.ofNat (List.length (t9.getD t11.toNat default)))),t9,t10,(IntKind.i64.wrap (t11+1)),()) ())) .d) (.k (slices,size))
def ziG (x:zdO) (y:Unit):=zrl x.1 x.2.1 x.2.2.1 x.2.2.2.1 x.2.2.2.2.1
def zry (n:Nat) (slices:yA) (size:Int) (t9:yA) (t10:Int) (t11:Int):=zN (ziG) default n (slices,size,t9,t10,t11,()) ()
def zqI (r:zkw):LTree ty:=.done (.exit 0) [.sl 23 r.1,.lit (.int .i64 r.2)] []
def zrm:LL ty zdO:=za (lSl 23) (za zm (za (lSl 23) (za zm (za zm zr))))
def zqG (t25:yA) (t26:Int) (t27:Int) (newslice:yB):Wy zdS zdQ (yB):=.i (decide (t27<t26)) (.i (decide (0<=t27)&&decide (t27<Int.ofNat t25.length)) (.i (decide ((newslice.length+List.length (t25.getD t27.toNat default))*32<=zbO)) (.h ((),t25,t26,(IntKind.i64.wrap (t27+1)),()) ((newslice++t25.getD t27.toNat default),())) .d) .d) (.k newslice)
def ziw (x:zdS) (y:zdQ):=zqG x.2.1 x.2.2.1 x.2.2.2.1 y.1
def zqE (n:Nat) (t25:yA) (t26:Int) (t27:Int) (newslice:yB):=zN (ziw) default n ((),t25,t26,t27,()) (newslice,())
def zpL (r:yB):LTree ty:=.done (.exit 2) [.own 144] [.arr 42 r false]
def zqF:LL ty zdS:=za (zhT 144) (za (lSl 23) (za zm (za zm zr)))
def zqz:BL ty zdQ:=zhU 42 false (zbv)
def zqA (x:zdO) (y:Unit):Nat:=(x.1.length+Int.toNat x.2.1+x.2.2.1.length+Int.toNat x.2.2.2.1+Int.toNat x.2.2.2.2.1+1)
def zqg (x:zdS) (y:zdQ):Nat:=(x.2.1.length+Int.toNat x.2.2.1+Int.toNat x.2.2.2.1+y.1.length+1)
def ze2:=zcC base 36 [(112,ziN)] [] [(3,(kpL [0,3,9,10,11])),(11,(kpL [6,25,26,27]))] [(3,1,(kpL [0,3])),(11,3,(kpL [6]))] [(3,spW zrm zQf (ziG) default zqI zqA),(11,spW zqF zqz (ziw) default zpL zqg)] [112]
theorem zqB:zR ze2 (lp (body f55) 0):=zD (id:=3) (hl:=rfl)
theorem zqc:zR ze2 (lp (body f55) 1):=zD (id:=11) (hl:=rfl)
def zr5 (slices:yA):Wy0 (yB):=.bn (zry (slices.length+Int.toNat 0+slices.length+(Int.ofNat slices.length).toNat +Int.toNat 0+1) slices 0 slices (Int.ofNat slices.length) 0) λr2=>.bn (zgR r2.2) λr1=>.bn (zqE (r2.1.length+(Int.ofNat r2.1.length).toNat +Int.toNat 0+r1.length+1) r2.1 (Int.ofNat r2.1.length) 0 r1) λr0=>.k r0
def zfR (slices:yA):=(zr5 slices).fin default
def zrY:AL base (yA×Unit):=zf (zg (vSl 23)) zF
def zh1:=zi zrY λx=>((zfR x.1).1,zF9 (zfR x.1).2)
theorem zpz:SdP 55 zh1:=
 sT (cx':=ze2) (zn ⟨zqx,trivial⟩) call55 func55 (lOK (aC zqB (aC zqc aN))) (sg:=⟨[.own 42],[]⟩)
def zNZ:=zbR zbK 22 [(31,zcp),(53,zdL),(54,zoc),(55,zh1)]
def zQc (a:yB) (b:yB):Wy0 (yB×Int):=.bn (zb8 a) λr4=>.i (!r4) (.k ([],1)) (.bn (zb8 b) λr3=>.i (!r3) (.k ([],1)) (.bn (zfR [a,b]) λr2=>.bn (zo0 r2) λr1=>.bn (zeM r1) λr0=>.k (r0.1,r0.2)))
def zya (a:yB) (b:yB):=(zQc a b).fin default
def zPr:AL zbK (yB×yB×Unit):=zf (zg (vSl 42)) (zf (zg (vSl 42)) zF)
def zsD:=zi zPr λx=>((zya x.1 x.2.1).1,zGx (zya x.1 x.2.1).2)
theorem zwF:Sound Tryz.prog zbK 13 zsD:=
 sU (cx':=zNZ) (zn ⟨zcw.nodr,zew.nodr,ztf,zpz.nodr,trivial⟩) call13 func13 (lOK aN) (sg:=⟨[.own 42,.pure],[]⟩)
def zKv:=zbR base 9 []
def zNn (n_:Int):Wy0 (yB):=.i (decide (n_<1)) (.k []) (.k [TO.mk (if 1152921504606846976<n_ then 1152921504606846976 else n_) []])
def zvv (n_:Int):=(zNn n_).fin default
def zqh:=zi zOn λx=>((zvv x.1).1,zF9 (zvv x.1).2)
theorem zuH:SdP 25 zqh:=
 sT (cx':=zKv) (zn trivial) call25 func25 (lOK aN) (sg:=⟨[.own 42],[]⟩)
def zOk:=zbR base 3 []
def zPt:Wy0 (yB):=.k [TO.mk 1 []]
def zp2:Bool×yB:=(zPt).fin default
def zno:=zi zGA λx=>((zp2 ).1,zF9 (zp2 ).2)
theorem zrg:SdP 29 zno:=
 sT (cx':=zOk) (zn trivial) call29 func29 (lOK aN) (sg:=⟨[.own 42],[]⟩)
def zIn:=zbR base 8 []
def zLl (x_:At):Wy0 (yB):=.k [TO.mk 1 [FO.mk (At.mk x_.Kind x_.Row x_.Ag x_.Func x_.Items x_.Op x_.Bd) 1]]
def zhe (x_:At):=(zLl x_).fin default
def zfk:=zi zOs λx=>((zhe x.1).1,zF9 (zhe x.1).2)
theorem zg3:SdP 62 zfk:=
 sT (cx':=zIn) (zn trivial) call62 func62 (lOK aN) (sg:=⟨[.own 42],[]⟩)
def zKT:=zbR base 29 [(29,zno),(31,zcp),(53,zdL),(61,zfi),(62,zfk),(64,zpd),(65,zlf)]
def zLO (a:yB):Wy0 (yB×Int):=.bn (zb8 a) λr5=>.i (!r5) (.k ([],1)) (.i (Int.ofNat a.length==0) (.bn (zhk a) λr0=>.k (r0,0)) (.bn (zjb a) λr4=>.i (r4) (.bn (zhk a) λr1=>.k (r1,0)) (.bn (zfU a) λr3=>.i (r3) (.k (zp2.2,0)) (.bn (zeM (zhe (At.mk 2 (RowID.mk 0 0) [a] 0 [] 0 (Value.mk 0 0 (ByteArray.mk #[])))).2) λr2=>.k (r2.1,r2.2)))))
def zvr (a:yB):=(zLO a).fin default
def zqk:=zi zT8 λx=>((zvr x.1).1,zGx (zvr x.1).2)
theorem zuU:SdP 20 zqk:=
 sT (cx':=zKT) (zn ⟨zrg,zcw,zew,zg5,zg3,zua,zqX,trivial⟩) call20 func20 (lOK aN) (sg:=⟨[.own 42,.pure],[]⟩)
def zJz:=zbR zbK 8 [(31,zcp),(109,zww)]
def zK3 (a:yB):Wy0 (ByteArray):=.bn (zb8 a) λr1=>.i (!r1) (.k (ByteArray.mk #[])) (.bn (zEP a) λr0=>.k r0)
def zBm (a:yB):=(zK3 a).fin default
def zu7:=zi zNX λx=>((zBm x.1).1,zLm (zBm x.1).2)
theorem zEw:Sound Tryz.prog zbK 51 zu7:=
 sU (cx':=zJz) (zn ⟨zcw.nodr,zGO,trivial⟩) call51 func51 (lOK aN)
def zLu:=zbR base 38 [(31,zcp),(32,zpN),(53,zdL),(61,zfi),(62,zfk)]
def zL1 (a:yB) (b:yB):Wy0 (yB×Int):=.bn (zb8 a) λr4=>.i (!r4) (.k ([],1)) (.bn (zb8 b) λr3=>.i (!r3) (.k ([],1)) (.i (Int.ofNat b.length==0) (.bn (zhk a) λr0=>.k (r0,0)) (.i (Int.ofNat a.length==0) (.k ([],0)) (.bn (zhW a b) λr2=>.i (r2) (.k ([],0)) (.bn (zeM (zhe (At.mk 1 (RowID.mk 0 0) [a,b] 0 [] 0 (Value.mk 0 0 (ByteArray.mk #[])))).2) λr1=>.k (r1.1,r1.2))))))
def zvw (a:yB) (b:yB):=(zL1 a b).fin default
def zpP:=zi zQF λx=>((zvw x.1 x.2.1).1,zGx (zvw x.1 x.2.1).2)
theorem zu1:SdP 18 zpP:=
 sT (cx':=zLu) (zn ⟨zcw,zuI,zew,zg5,zg3,trivial⟩) call18 func18 (lOK aN) (sg:=⟨[.own 42,.pure],[]⟩)
def zs3:=zbR base 27 []
def zs7 (n_:Int):Wy0 (yC):=.i (decide (n_<0)) .d (.i (decide (IntKind.i64.wrap (n_ - IntKind.i64.wrap (0 - 0))>0)) (.i (decide (0<IntKind.i64.wrap (n_ - IntKind.i64.wrap (0 - 0)))&&(decide (IntKind.i64.wrap (n_ - IntKind.i64.wrap (0 - 0))*Int.ofNat 128<=Int.ofNat zbO)&&(decide (IntKind.i64.wrap (n_ - IntKind.i64.wrap (0 - 0))<=Int.ofNat zbO)&& !Nat.beq 11 0))) (.k (List.take (Int.toNat 0 - Int.toNat 0) (List.replicate (IntKind.i64.wrap (n_ - IntKind.i64.wrap (0 - 0))).toNat (FO.mk (At.mk 0 (RowID.mk 0 0) [] 0 [] 0 (Value.mk 0 0 (ByteArray.mk #[]))) 0)))) .d) (.k []))
def zhi (n_:Int):=(zs7 n_).fin default
def zsj (r:yC):ARes ty:=⟨[.own 50 r],[]⟩
def zjg:=zi zs2 λx=>((zhi x.2.1).1,zsj (zhi x.2.1).2)
theorem zrv:SdP 158 zjg:=
 sT (cx':=zs3) (zn trivial) call158 func158 (lOK aN) (sg:=⟨[.own 50],[]⟩)
abbrev zd8:=List (yC)×Int×List (yC)×Int×Int×Unit
abbrev zk0:=List (yC)×Int
abbrev zd9:=Unit×List (yC)×Int×Int×Unit
abbrev zd7:=yC×Unit
def zrJ (slices:List (yC)) (size:Int) (t9:List (yC)) (t10:Int) (t11:Int):Wy zd8 Unit zk0:=.i (decide (t11<t10)) (.i (decide (0<=t11)&&decide (t11<Int.ofNat t9.length)) (.i (decide (IntKind.i64.wrap (size+Int.ofNat (List.length (t9.getD t11.toNat default)))<0)) .d (.h (slices,(IntKind.i64.wrap (size+Int.ofNat (List.length (t9.getD t11.toNat default)))),t9,t10,(IntKind.i64.wrap (t11+1)),()) ())) .d) (.k (slices,size))
def zjc (x:zd8) (y:Unit):=zrJ x.1 x.2.1 x.2.2.1 x.2.2.2.1 x.2.2.2.2.1
def zrS (n:Nat) (slices:List (yC)) (size:Int) (t9:List (yC)) (t10:Int) (t11:Int):=zN (zjc) default n (slices,size,t9,t10,t11,()) ()
def zrp (r:zk0):LTree ty:=.done (.exit 0) [.sl 40 r.1,.lit (.int .i64 r.2)] []
def zrX:LL ty zd8:=za (lSl 40) (za zm (za (lSl 40) (za zm (za zm zr))))
def zrh (t25:List (yC)) (t26:Int) (t27:Int) (newslice:yC):Wy zd9 zd7 (yC):=.i (decide (t27<t26)) (.i (decide (0<=t27)&&decide (t27<Int.ofNat t25.length)) (.i (decide ((newslice.length+List.length (t25.getD t27.toNat default))*128<=zbO)) (.h ((),t25,t26,(IntKind.i64.wrap (t27+1)),()) ((newslice++t25.getD t27.toNat default),())) .d) .d) (.k newslice)
def zi0 (x:zd9) (y:zd7):=zrh x.2.1 x.2.2.1 x.2.2.2.1 y.1
def zrq (n:Nat) (t25:List (yC)) (t26:Int) (t27:Int) (newslice:yC):=zN (zi0) default n ((),t25,t26,t27,()) (newslice,())
def zqD (r:yC):LTree ty:=.done (.exit 2) [.own 144] [.arr 50 r false]
def zrt:LL ty zd9:=za (zhT 144) (za (lSl 40) (za zm (za zm zr)))
def zrC:BL ty zd7:=zhU 50 false (zbv)
def zq4 (x:zd8) (y:Unit):Nat:=(x.1.length+Int.toNat x.2.1+x.2.2.1.length+Int.toNat x.2.2.2.1+Int.toNat x.2.2.2.2.1+1)
def zqC (x:zd9) (y:zd7):Nat:=(x.2.1.length+Int.toNat x.2.2.1+Int.toNat x.2.2.2.1+y.1.length+1)
def zfa:=zcC base 36 [(158,zjg)] [] [(3,(kpL [0,3,9,10,11])),(11,(kpL [6,25,26,27]))] [(3,1,(kpL [0,3])),(11,3,(kpL [6]))] [(3,spW zrX zQf (zjc) default zrp zq4),(11,spW zrt zrC (zi0) default zqD zqC)] [158]
theorem zq8:zR zfa (lp (body f114) 0):=zD (id:=3) (hl:=rfl)
theorem zqJ:zR zfa (lp (body f114) 1):=zD (id:=11) (hl:=rfl)
def zsm (slices:List (yC)):Wy0 (yC):=.bn (zrS (slices.length+Int.toNat 0+slices.length+(Int.ofNat slices.length).toNat +Int.toNat 0+1) slices 0 slices (Int.ofNat slices.length) 0) λr2=>.bn (zhi r2.2) λr1=>.bn (zrq (r2.1.length+(Int.ofNat r2.1.length).toNat +Int.toNat 0+r1.length+1) r2.1 (Int.ofNat r2.1.length) 0 r1) λr0=>.k r0
def zgl (slices:List (yC)):=(zsm slices).fin default
def zsi:AL base (List (yC)×Unit):=zf (zg (vSl 40)) zF
def ziv:=zi zsi λx=>((zgl x.1).1,zsj (zgl x.1).2)
theorem zqm:SdP 114 ziv:=
 sT (cx':=zfa) (zn ⟨zrv,trivial⟩) call114 func114 (lOK (aC zq8 (aC zqJ aN))) (sg:=⟨[.own 50],[]⟩)
end Go.Proofs.YtnolcogncjijpaaGreatDoor
end
