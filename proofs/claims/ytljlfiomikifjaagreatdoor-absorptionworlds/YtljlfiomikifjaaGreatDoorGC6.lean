/- Texts of this claim, joined (the program, its functions in plain words, and what they compute). -/
import Derived.Test.YtljlfiomikifjaaGreatDoorGC5
set_option autoImplicit false
set_option linter.unusedVariables false
set_option linter.unusedSectionVars false
set_option linter.unusedSimpArgs false
set_option maxRecDepth 1000000
set_option maxHeartbeats 0
noncomputable section
namespace Go.Proofs.YtljlfiomikifjaaGreatDoor
open Go Go.Ab
open Go.Proofs.Tryz
abbrev zBN:=yC×Int×Unit×Int×Unit
abbrev zTN:=Bool⊕(yC×Int)
abbrev zBQ:=yC×Int×Unit
def zoZ (z7:At->Bool×Bool) (a:yC) (i:Int) (k:Int) (t:Term):Wy zBN (Term×Unit) zTN:=.i (decide (k<Int.ofNat t.Fs.length)) (.i (decide (0<=k)&&decide (k<Int.ofNat t.Fs.length)) (.i (decide ((t.Fs.getD k.toNat default).Exp<1)) (.k (.inl false)) (.i (decide ((t.Fs.getD k.toNat default).Exp>1)) (.i (decide ((t.Fs.getD k.toNat default).At.Kind≥3)) (.k (.inl false)) (.bn (z7 (At.mk (t.Fs.getD k.toNat default).At.Kind (t.Fs.getD k.toNat default).At.Row (t.Fs.getD k.toNat default).At.Ag (t.Fs.getD k.toNat default).At.Func (t.Fs.getD k.toNat default).At.Items (t.Fs.getD k.toNat default).At.Op (t.Fs.getD k.toNat default).At.Bd)) λr1=>.i (!r1) (.k (.inl false)) (.i (decide (k>0)) (.i (decide (0<=IntKind.i64.wrap (k - 1))&&decide (IntKind.i64.wrap (k - 1)<Int.ofNat t.Fs.length)) (.bn (zlN (At.mk (t.Fs.getD (IntKind.i64.wrap (k - 1)).toNat default).At.Kind (t.Fs.getD (IntKind.i64.wrap (k - 1)).toNat default).At.Row (t.Fs.getD (IntKind.i64.wrap (k - 1)).toNat default).At.Ag (t.Fs.getD (IntKind.i64.wrap (k - 1)).toNat default).At.Func (t.Fs.getD (IntKind.i64.wrap (k - 1)).toNat default).At.Items (t.Fs.getD (IntKind.i64.wrap (k - 1)).toNat default).At.Op (t.Fs.getD (IntKind.i64.wrap (k - 1)).toNat default).At.Bd) (At.mk (t.Fs.getD k.toNat default).At.Kind (t.Fs.getD k.toNat default).At.Row (t.Fs.getD k.toNat default).At.Ag (t.Fs.getD k.toNat default).At.Func (t.Fs.getD k.toNat default).At.Items (t.Fs.getD k.toNat default).At.Op (t.Fs.getD k.toNat default).At.Bd)) λr0=>.i (decide (r0≥0)) (.k (.inl false)) (.h (a,i,(),(IntKind.i64.wrap (k+1)),()) (t,()))) .d) (.h (a,i,(),(IntKind.i64.wrap (k+1)),()) (t,()))))) (.bn (z7 (At.mk (t.Fs.getD k.toNat default).At.Kind (t.Fs.getD k.toNat default).At.Row (t.Fs.getD k.toNat default).At.Ag (t.Fs.getD k.toNat default).At.Func (t.Fs.getD k.toNat default).At.Items (t.Fs.getD k.toNat default).At.Op (t.Fs.getD k.toNat default).At.Bd)) λr3=>.i (!r3) (.k (.inl false)) (.i (decide (k>0)) (.i (decide (0<=IntKind.i64.wrap (k - 1))&&decide (IntKind.i64.wrap (k - 1)<Int.ofNat t.Fs.length)) (.bn (zlN (At.mk (t.Fs.getD (IntKind.i64.wrap (k - 1)).toNat default).At.Kind (t.Fs.getD (IntKind.i64.wrap (k - 1)).toNat default).At.Row (t.Fs.getD (IntKind.i64.wrap (k - 1)).toNat default).At.Ag (t.Fs.getD (IntKind.i64.wrap (k - 1)).toNat default).At.Func (t.Fs.getD (IntKind.i64.wrap (k - 1)).toNat default).At.Items (t.Fs.getD (IntKind.i64.wrap (k - 1)).toNat default).At.Op (t.Fs.getD (IntKind.i64.wrap (k - 1)).toNat default).At.Bd) (At.mk (t.Fs.getD k.toNat default).At.Kind (t.Fs.getD k.toNat default).At.Row (t.Fs.getD k.toNat default).At.Ag (t.Fs.getD k.toNat default).At.Func (t.Fs.getD k.toNat default).At.Items (t.Fs.getD k.toNat default).At.Op (t.Fs.getD k.toNat default).At.Bd)) λr2=>.i (decide (r2≥0)) (.k (.inl false)) (.h (a,i,(),(IntKind.i64.wrap (k+1)),()) (t,()))) .d) (.h (a,i,(),(IntKind.i64.wrap (k+1)),()) (t,())))))) .d) (.k (.inr (a,i)))
def zCp (z7:At->Bool×Bool) (x:zBN) (y:Term×Unit):=zoZ z7 x.1 x.2.1 x.2.2.2.1 y.1
def zCt (z7:At->Bool×Bool) (n:Nat) (a:yC) (i:Int) (k:Int) (t:Term):=zA (zCp z7) (.inl default) n (a,i,(),k,()) (t,())
def z1F (r:zTN):LTree ty:=.ite (isL r) (.done .ret [.lit (.bool (getL r))] []) (.done (.exit 2) [.sl 28 (getR r).1,.lit (.int .i64 (getR r).2)] [])
def z5e:LL ty zBN:=za (lSl 28) (za zj (za (zeb 372 0) (za zj zk)))
def zqQ (z7:At->Bool×Bool) (a:yC) (i:Int):Wy zBQ Unit (Bool⊕Unit):=.i (decide (i<Int.ofNat a.length)) (.i (decide (0<=i)&&decide (i<Int.ofNat a.length)) (.i (decide ((a.getD i.toNat default).Cf<1)) (.k (.inl false)) (.i (decide ((a.getD i.toNat default).Cf>1152921504606846976)) (.k (.inl false)) (.i (decide (i>0)) (.i (decide (0<=IntKind.i64.wrap (i - 1))&&decide (IntKind.i64.wrap (i - 1)<Int.ofNat a.length)) (.bn (zlG (a.getD (IntKind.i64.wrap (i - 1)).toNat default).Fs (a.getD i.toNat default).Fs) λr9=>.i (decide (r9≥0)) (.k (.inl false)) (.bn (zCt z7 ((a.length+i.toNat +Int.toNat 0+(a.getD i.toNat default).Fs.length+1)+zbD a) a i 0 (a.getD i.toNat default)) λr8=>.i (isL r8) (.k (.inl (getL r8))) (.h ((getR r8).1,(IntKind.i64.wrap ((getR r8).2+1)),()) ()))) .d) (.bn (zCt z7 ((a.length+i.toNat +Int.toNat 0+(a.getD i.toNat default).Fs.length+1)+zbD a) a i 0 (a.getD i.toNat default)) λr10=>.i (isL r10) (.k (.inl (getL r10))) (.h ((getR r10).1,(IntKind.i64.wrap ((getR r10).2+1)),()) ()))))) .d) (.k (.inr ()))
def zDZ (z7:At->Bool×Bool) (x:zBQ) (y:Unit):=zqQ z7 x.1 x.2.1
def zPn (z7:At->Bool×Bool) (n:Nat) (a:yC) (i:Int):=zA (zDZ z7) (.inl default) n (a,i,()) ()
def z6b:LL ty zBQ:=za (lSl 28) (za zj zk)
def z02 (x:zBN) (y:Term×Unit):Nat:=((x.1.length+Int.toNat x.2.1+Int.toNat x.2.2.2.1+y.1.Fs.length+1)+zbD x.1)
def z4o (x:zBQ) (y:Unit):Nat:=((x.1.length+Int.toNat x.2.1+1)+zbD x.1)
def zDQ (z7:At->Bool×Bool):=zbY base 93 [(34,zpv),(53,zux),(54,zE7),(55,(zmW z7))] [] [(4,(kpL [0,3])),(10,(kpL [0,3,4,5]))] [(4,1,[]),(4,0,(kpL [2])),(10,3,(kpL [0,3])),(10,0,(kpL [2]))] [(10,spW z5e zTI (zCp z7) (.inl default) z1F z02),(4,spW z6b zbc9 (zDZ z7) (.inl default) zRs z4o)] []
theorem z2p (z7:At->Bool×Bool):zy (zDQ z7) (lp (body f16) 1):=zm (id:=10) (hl:=rfl)
theorem z3D (z7:At->Bool×Bool):zy (zDQ z7) (lp (body f16) 0):=zm (id:=4) (hl:=rfl)
def zQz (z7:At->Bool×Bool) (a:yC):Wy0 (Bool):=.bn (zBv a) λr15=>.i (!r15) (.k false) (.bn (zPn z7 ((a.length+Int.toNat 0+1)+zbD a) a 0) λr14=>.i (isL r14) (.k (getL r14)) (.k true))
def zya (z7:At->Bool×Bool) (a:yC):=(zQz z7 a).fin default
theorem zZt (z7:At->Bool×Bool) (zZK:SdP 55 (zmW z7)):SdP 16 (zh1 (zya z7)):=
 sT (cx':=(zDQ z7)) (zi ⟨zyo,zB9,zN2,zZK,trivial⟩) call16 func16 (lOK (aC (z3D z7) (aC (z2p z7) aN)))
def zbdR:=zbt base 9 [(89,zJp)]
def z0Q (a:yC) (b:yC):Wy0 (Bool):=.bn (zKA a b) λr0=>.k (r0==0)
def zua (a:yC) (b:yC):=(z0Q a b).fin default
def zzH:=zh zWi λx=>((zua x.1 x.2.1).1,zZL (zua x.1 x.2.1).2)
theorem zD2:SdP 30 zzH:=
 sT (cx':=zbdR) (zi ⟨zYA,trivial⟩) call30 func30 (lOK aN)
def z9m:=zbt base 42 []
def zUC (a:yC):Wy0 (Bool):=.i (Int.ofNat a.length==1) (.i (decide ((0:Int)<=(0:Int))&&decide (0<Int.ofNat a.length)) (.i ((a.getD (Int.toNat 0) default).Cf==1) (.i (decide ((0:Int)<=(0:Int))&&decide (0<Int.ofNat a.length)) (.i (Int.ofNat (a.getD (Int.toNat 0) default).Fs.length==1) (.i (decide ((0:Int)<=(0:Int))&&decide (0<Int.ofNat a.length)) (.i (decide ((0:Int)<=(0:Int))&&decide (0<Int.ofNat (a.getD (Int.toNat 0) default).Fs.length)) (.i (decide (((a.getD (Int.toNat 0) default).Fs.getD (Int.toNat 0) default).At.Kind≥2)) (.i (decide ((0:Int)<=(0:Int))&&decide (0<Int.ofNat a.length)) (.i (decide ((0:Int)<=(0:Int))&&decide (0<Int.ofNat (a.getD (Int.toNat 0) default).Fs.length)) (.k (((a.getD (Int.toNat 0) default).Fs.getD (Int.toNat 0) default).Exp==1)) .d) .d) (.k false)) .d) .d) (.k false)) .d) (.k false)) .d) (.k false)
def zre (a:yC):=(zUC a).fin default
def zCT:=zh z0t λx=>((zre x.1).1,zZL (zre x.1).2)
theorem zJz:SdP 99 zCT:=
 sT (cx':=z9m) (zi trivial) call99 func99 (lOK aN)
abbrev zCw:=yC×Int×Unit
def zo6 (a:yC) (i:Int):Wy zCw Unit (Bool⊕Unit):=.i (decide (i<Int.ofNat a.length)) (.i (decide (0<=i)&&decide (i<Int.ofNat a.length)) (.i (Int.ofNat (a.getD i.toNat default).Fs.length==0) (.k (.inl true)) (.h (a,(IntKind.i64.wrap (i+1)),()) ())) .d) (.k (.inr ()))
def zCJ (x:zCw) (y:Unit):=zo6 x.1 x.2.1
def zLK (n:Nat) (a:yC) (i:Int):=zA (zCJ) (.inl default) n (a,i,()) ()
def z3N:LL ty zCw:=za (lSl 28) (za zj zk)
def zLI:=zbY base 17 [] [] [(2,(kpL [0,3]))] [(2,1,[]),(2,0,(kpL [2]))] [(2,spW z3N zbc9 (zCJ) (.inl default) zRs λx y=>(x.1.length+Int.toNat x.2.1+1))] []
theorem z15:zy zLI (lp (body f100) 0):=zm (id:=2) (hl:=rfl)
def zNI (a:yC):Wy0 (Bool):=.bn (zLK (a.length+Int.toNat 0+1) a 0) λr0=>.i (isL r0) (.k (getL r0)) (.k false)
def ziV (a:yC):=(zNI a).fin default
def zrH:=zh z0t λx=>((ziV x.1).1,zZL (ziV x.1).2)
theorem zxH:SdP 100 zrH:=
 sT (cx':=zLI) (zi trivial) call100 func100 (lOK (aC z15 aN))
def zbb8:=zbt base 36 []
def zXU (v:Value):Wy0 (Bool):=.i (v.Kind==0) (.k (v.Text.toList==(ByteArray.mk #[]).toList)) (.i (v.Kind==1) (.i (v.Int==0) (.k (decide (Int.ofNat v.Text.size<=255))) (.k false)) (.i (v.Kind==2) (.i (v.Text.toList==(ByteArray.mk #[]).toList) (.i (v.Int==0) (.k true) (.k (v.Int==1))) (.k false)) (.k false)))
def zyU (v:Value):=(zXU v).fin default
def zPv:=zh zbdq λx=>((zyU x.1).1,zZL (zyU x.1).2)
theorem z4n:SdP 158 zPv:=
 sT (cx':=zbb8) (zi trivial) call158 func158 (lOK aN)
abbrev zBW:=Int×yE×Unit×Int×Unit
def zvR (fn:Int) (items:yE) (i:Int) (bound:Value):Wy zBW (Value×Unit) (Bool⊕Unit):=.i (decide (i<Int.ofNat items.length)) (.i (decide (0<=i)&&decide (i<Int.ofNat items.length)) (.bn (zyU (items.getD i.toNat default).Value) λr0=>.i (!r0) (.k (.inl false)) (.i ((items.getD i.toNat default).Value.Kind != bound.Kind) (.k (.inl false)) (.i (fn==0) (.i ((items.getD i.toNat default).Value.Int != 1) (.k (.inl false)) (.h (fn,items,(),(IntKind.i64.wrap (i+1)),()) (bound,()))) (.h (fn,items,(),(IntKind.i64.wrap (i+1)),()) (bound,()))))) .d) (.k (.inr ()))
def zHY (x:zBW) (y:Value×Unit):=zvR x.1 x.2.1 x.2.2.2.1 y.1
def zHe (n:Nat) (fn:Int) (items:yE) (i:Int) (bound:Value):=zA (zHY) (.inl default) n (fn,items,(),i,()) (bound,())
def zbce:LL ty zBW:=za zj (za (lSl 100) (za (zeb 276 0) (za zj zk)))
def zbaO:BL ty (Value×Unit):=zf8 (zeR (λx=>(⟨x.1,x.2.1,x.2.2.1⟩:Value)) (λx=>(x.Kind,x.Int,x.Text,())) (λ_=>rfl) (za (zB .i64) (za (zB .i64) (za zl4 zk)))) false (z8)
def z9w (x:zBW) (y:Value×Unit):Nat:=(Int.toNat x.1+x.2.1.length+Int.toNat x.2.2.2.1+1)
def zTJ:=zbY base 69 [(158,zPv)] [] [(4,(kpL [0,1,7,9]))] [(4,1,[]),(4,0,(kpL [8]))] [(4,spW zbce zbaO (zHY) (.inl default) zRs z9w)] []
theorem z73:zy zTJ (lp (body f111) 0):=zm (id:=4) (hl:=rfl)
def zXH (fn:Int) (items:yE) (op:Int) (bound:Value):Wy0 (Bool):=.i (decide (fn<0)) (.k false) (.i (decide (fn>3)) (.k false) (.i (decide (op<5)) (.k false) (.i (decide (op>10)) (.k false) (.bn (zyU bound) λr4=>.i (!r4) (.k false) (.i (decide (fn<=1)) (.i (bound.Kind != 0) (.k false) (.bn (zHe (fn.toNat +items.length+Int.toNat 0+1) fn items 0 bound) λr2=>.i (isL r2) (.k (getL r2)) (.k true))) (.bn (zHe (fn.toNat +items.length+Int.toNat 0+1) fn items 0 bound) λr3=>.i (isL r3) (.k (getL r3)) (.k true)))))))
def zyV (fn:Int) (items:yE) (op:Int) (bound:Value):=(zXH fn items op bound).fin default
def zDN:=zh zXp λx=>((zyV x.1 x.2.1 x.2.2.1 x.2.2.2.1).1,zZL (zyV x.1 x.2.1 x.2.2.1 x.2.2.2.1).2)
theorem zL1:SdP 111 zDN:=
 sT (cx':=zTJ) (zi ⟨z4n,trivial⟩) call111 func111 (lOK (aC z73 aN))
def zbbO:=zbt base 23 []
def zXM (x_:At):Wy0 (Bool):=.i (x_.Func==0) (.i (Int.ofNat x_.Items.length==0) (.i (x_.Op==0) (.k (x_.Bd.Kind==0&&(x_.Bd.Int==0&&(x_.Bd.Text.toList==(ByteArray.mk #[]).toList&&true)))) (.k false)) (.k false)) (.k false)
def zp4 (x_:At):=(zXM x_).fin default
def zNW:=zh zC1 λx=>((zp4 x.1).1,zZL (zp4 x.1).2)
theorem z4f:SdP 110 zNW:=
 sT (cx':=zbbO) (zi trivial) call110 func110 (lOK aN)
abbrev zgk:=Unit×Int×Unit
def zll (zbF:yC->Bool×Bool) (i:Int) (x_:At):Wy zgk (At×Unit) (Bool⊕At):=.i (decide (i<Int.ofNat x_.Ag.length)) (.i (decide (0<=i)&&decide (i<Int.ofNat x_.Ag.length)) (.i (Int.ofNat (List.length (x_.Ag.getD i.toNat default))==0) (.k (.inl false)) (.i (decide (0<=i)&&decide (i<Int.ofNat x_.Ag.length)) (.bn (zbF (x_.Ag.getD i.toNat default)) λr0=>.i (!r0) (.k (.inl false)) (.h ((),(IntKind.i64.wrap (i+1)),()) (x_,()))) .d)) .d) (.k (.inr x_))
def zxm (zbF:yC->Bool×Bool) (x:zgk) (y:At×Unit):=zll zbF x.2.1 y.1
def zxy (zbF:yC->Bool×Bool) (n:Nat) (i:Int) (x_:At):=zA (zxm zbF) (.inl default) n ((),i,()) (x_,())
def zTk (r:Bool⊕At):LTree ty:=.ite (isL r) (.done .ret [.lit (.bool (getL r))] []) (.done (.exit 0) [.ptr 824 0] [.box (base.enc 67 (getR r)) false])
def zVl:LL ty zgk:=za (zeb 824 0) (za zj zk)
def zkw (zbF:yC->Bool×Bool) (i:Int) (x_:At):Wy zgk (At×Unit) (Bool⊕Unit):=.i (decide (i<Int.ofNat x_.Items.length)) (.i (decide (0<=i)&&decide (i<Int.ofNat x_.Items.length)) (.i (Int.ofNat (x_.Items.getD i.toNat default).Ann.length==0) (.k (.inl false)) (.i (decide (0<=i)&&decide (i<Int.ofNat x_.Items.length)) (.bn (zbF (x_.Items.getD i.toNat default).Ann) λr3=>.i (!r3) (.k (.inl false)) (.i (decide (i>0)) (.i (decide (0<=IntKind.i64.wrap (i - 1))&&decide (IntKind.i64.wrap (i - 1)<=i)&&decide (i<=Int.ofNat x_.Items.length)) (.i (decide (0<=i)&&decide (i<=IntKind.i64.wrap (i+1))&&decide (IntKind.i64.wrap (i+1)<=Int.ofNat x_.Items.length)) (.bn (zt7 (List.take (i.toNat - (IntKind.i64.wrap (i - 1)).toNat) (List.drop (IntKind.i64.wrap (i - 1)).toNat x_.Items)) (List.take ((IntKind.i64.wrap (i+1)).toNat - i.toNat) (List.drop i.toNat x_.Items))) λr2=>.i (decide (r2>0)) (.k (.inl false)) (.h ((),(IntKind.i64.wrap (i+1)),()) (x_,()))) .d) .d) (.h ((),(IntKind.i64.wrap (i+1)),()) (x_,())))) .d)) .d) (.k (.inr ()))
def zvS (zbF:yC->Bool×Bool) (x:zgk) (y:At×Unit):=zkw zbF x.2.1 y.1
def zEt (zbF:yC->Bool×Bool) (n:Nat) (i:Int) (x_:At):=zA (zvS zbF) (.inl default) n ((),i,()) (x_,())
def zRr (r:Bool⊕Unit):LTree ty:=.ite (isL r) (.done .ret [.lit (.bool (getL r))] []) (.done (.exit 3) [] [])
def zUa (x:zgk) (y:At×Unit):Nat:=(Int.toNat x.2.1+y.1.Ag.length+y.1.Items.length+1)
def zxh (zbF:yC->Bool×Bool):=zbY base 206 [(16,(zh1 zbF)),(30,zzH),(99,zCT),(100,zrH),(106,zsC),(110,zNW),(111,zDN)] [] [(6,(kpL [1,3])),(21,(kpL [1,4]))] [(6,1,(kpL [1])),(6,0,(kpL [2])),(21,4,[]),(21,0,(kpL [2]))] [(6,spW zVl zYU (zxm zbF) (.inl default) zTk zUa),(21,spW zVl zYU (zvS zbF) (.inl default) zRr zUa)] []
theorem zTn (zbF:yC->Bool×Bool):zy (zxh zbF) (lp (body f55) 0):=zm (id:=6) (hl:=rfl)
theorem zSN (zbF:yC->Bool×Bool):zy (zxh zbF) (lp (body f55) 1):=zm (id:=21) (hl:=rfl)
def zGL (zbF:yC->Bool×Bool) (x_:At):Wy0 (Bool):=.i (x_.Kind==0) (.i (decide (x_.Row.Table≥1)) (.i (decide (x_.Row.Seq≥1)) (.i (Int.ofNat x_.Ag.length==0) (.bn (zp4 (At.mk x_.Kind x_.Row x_.Ag x_.Func x_.Items x_.Op x_.Bd)) λr6=>.k r6) (.k false)) (.k false)) (.k false)) (.i (!(x_.Row.Table==0&&(x_.Row.Seq==0&&true))) (.k false) (.bn (zxy zbF (Int.toNat 0+x_.Ag.length+x_.Items.length+1) 0 (At.mk x_.Kind x_.Row x_.Ag x_.Func x_.Items x_.Op x_.Bd)) λr17=>.i (isL r17) (.k (getL r17)) (.i ((getR r17).Kind==1) (.i (Int.ofNat (getR r17).Ag.length==2) (.bn (zp4 (At.mk (getR r17).Kind (getR r17).Row (getR r17).Ag (getR r17).Func (getR r17).Items (getR r17).Op (getR r17).Bd)) λr8=>.i (r8) (.i (decide ((0:Int)<=(0:Int))&&decide (0<Int.ofNat (getR r17).Ag.length)) (.i (decide ((0:Int)<=(1:Int))&&decide (1<Int.ofNat (getR r17).Ag.length)) (.bn (zua ((getR r17).Ag.getD (Int.toNat 0) default) ((getR r17).Ag.getD (Int.toNat 1) default)) λr7=>.k (!r7)) .d) .d) (.k false)) (.k false)) (.i ((getR r17).Kind==2) (.i (Int.ofNat (getR r17).Ag.length==1) (.bn (zp4 (At.mk (getR r17).Kind (getR r17).Row (getR r17).Ag (getR r17).Func (getR r17).Items (getR r17).Op (getR r17).Bd)) λr12=>.i (r12) (.i (decide ((0:Int)<=(0:Int))&&decide (0<Int.ofNat (getR r17).Ag.length)) (.i (Int.ofNat (List.length ((getR r17).Ag.getD (Int.toNat 0) default))==1) (.i (decide ((0:Int)<=(0:Int))&&decide (0<Int.ofNat (getR r17).Ag.length)) (.bn (ziV ((getR r17).Ag.getD (Int.toNat 0) default)) λr10=>.i (!r10) (.i (decide ((0:Int)<=(0:Int))&&decide (0<Int.ofNat (getR r17).Ag.length)) (.bn (zre ((getR r17).Ag.getD (Int.toNat 0) default)) λr9=>.k (!r9)) .d) (.k false)) .d) (.i (decide ((0:Int)<=(0:Int))&&decide (0<Int.ofNat (getR r17).Ag.length)) (.bn (zre ((getR r17).Ag.getD (Int.toNat 0) default)) λr11=>.k (!r11)) .d)) .d) (.k false)) (.k false)) (.i ((getR r17).Kind==3) (.i (Int.ofNat (getR r17).Ag.length==1) (.bn (zp4 (At.mk (getR r17).Kind (getR r17).Row (getR r17).Ag (getR r17).Func (getR r17).Items (getR r17).Op (getR r17).Bd)) λr14=>.i (r14) (.i (decide ((0:Int)<=(0:Int))&&decide (0<Int.ofNat (getR r17).Ag.length)) (.bn (ziV ((getR r17).Ag.getD (Int.toNat 0) default)) λr13=>.k (!r13)) .d) (.k false)) (.k false)) (.i ((getR r17).Kind==4) (.i (Int.ofNat (getR r17).Ag.length != 0) (.k false) (.i (Int.ofNat (getR r17).Items.length==0) (.k false) (.i (decide (Int.ofNat (getR r17).Items.length>1024)) (.k false) (.bn (zyV (getR r17).Func (getR r17).Items (getR r17).Op (getR r17).Bd) λr16=>.i (!r16) (.k false) (.bn (zEt zbF (Int.toNat 0+(getR r17).Ag.length+(getR r17).Items.length+1) 0 (At.mk (getR r17).Kind (getR r17).Row (getR r17).Ag (getR r17).Func (getR r17).Items (getR r17).Op (getR r17).Bd)) λr15=>.i (isL r15) (.k (getL r15)) (.k true)))))) (.k false)))))))
def zoY (zbF:yC->Bool×Bool) (x_:At):=(zGL zbF x_).fin default
theorem zPM (zbF:yC->Bool×Bool) (z8M:SdP 16 (zh1 zbF)):SdP 55 (zmW (zoY zbF)):=
 sT (cx':=(zxh zbF)) (zi ⟨z8M,zD2,zJz,zxH,zAf,z4f,zL1,trivial⟩) call55 func55 (lOK (aC (zTn zbF) (aC (zSN zbF) aN)))
def zMZ:Nat->(yC->Bool×Bool)×(At->Bool×Bool)
 | 0=>(λ_=>(false,default),λ_=>(false,default))
 | n+1=>(zya ((zMZ n).2),zoY ((zMZ n).1))
def zyl (n:Nat):yC->Bool×Bool:=(zMZ n).1
def zvo (n:Nat):At->Bool×Bool:=(zMZ n).2
theorem z6X (n:Nat):zyl (n+1)=zya (zvo n):=rfl
theorem zV5 (n:Nat):zvo (n+1)=zoY (zyl n):=rfl
theorem z1O:∀ n,SdP 16 (zh1 (zyl n))/\SdP 55 (zmW (zvo n))
 | 0=>⟨zba call16 (λ_=>rfl),zba call55 (λ_=>rfl)⟩
 | n+1=>by
  have ih:=z1O n;exact ⟨zZt _ (ih.2),zPM _ (ih.1)⟩
def zf4:yC->Bool×Bool:=zyl 1000
def zhX:Ab.Spec ty:=zh1 zf4
theorem zjq:SdP 16 zhX:=(z1O 1000).1
def zbeX:=zbt base 3 []
def zbgV:Wy0 (yC):=.k [TO.mk 1 []]
def zw2:Bool×yC:=(zbgV).fin default
def zvZ:=zh zRx λx=>((zw2 ).1,zSt (zw2 ).2)
theorem zzD:SdP 77 zvZ:=
 sT (cx':=zbeX) (zi trivial) call77 func77 (lOK aN) (sg:=⟨[.own 28],[]⟩)
def zbfn:=zbt base 8 [(54,zE7)]
def z5p (a:yC):Wy0 (yC×Int):=.bn (zBv a) λr0=>.i (!r0) (.k ([],6)) (.k (a,0))
def znv (a:yC):=(z5p a).fin default
def zbdA (r:yC×Int):ARes ty:=⟨[.pure (.sl 28 r.1),.pure (.lit (.int .i64 r.2))],[]⟩
def zmK:=zh z0t λx=>((znv x.1).1,zbdA (znv x.1).2)
theorem zod:SdP 101 zmK:=
 sT (cx':=zbfn) (zi ⟨zN2,trivial⟩) call101 func101 (lOK aN) (sg:=⟨[.pure,.pure],[]⟩)
def zbbl:=zbt base 30 [(16,zhX),(77,zvZ),(99,zCT),(100,zrH),(101,zmK),(102,zoe)]
def zXK (a:yC):Wy0 (yC×Int):=.bn (zf4 a) λr4=>.i (!r4) (.k ([],1)) (.i (Int.ofNat a.length==0) (.k (a,0)) (.bn (zre a) λr3=>.i (r3) (.k (a,0)) (.i (Int.ofNat a.length==1) (.bn (ziV a) λr1=>.i (r1) (.k (zw2.2,0)) (.bn (znv (zmS (At.mk 2 (RowID.mk 0 0) [a] 0 [] 0 (Value.mk 0 0 (ByteArray.mk #[])))).2) λr0=>.k (r0.1,r0.2))) (.bn (znv (zmS (At.mk 2 (RowID.mk 0 0) [a] 0 [] 0 (Value.mk 0 0 (ByteArray.mk #[])))).2) λr2=>.k (r2.1,r2.2)))))
def zDb (a:yC):=(zXK a).fin default
def zD7:=zh z0t λx=>((zDb x.1).1,zbdA (zDb x.1).2)
theorem zLF:SdP 47 zD7:=
 sT (cx':=zbbl) (zi ⟨zjq,zzD,zJz,zxH,zod,zrB,trivial⟩) call47 func47 (lOK aN) (sg:=⟨[.pure,.pure],[]⟩)
def zbdz:=zbt base 9 []
def z07 (a:Int) (b:Int):Wy0 (Int):=.k (if 1152921504606846976<IntKind.i64.wrap (a+b) then 1152921504606846976 else IntKind.i64.wrap (a+b))
def zxW (a:Int) (b:Int):=(z07 a b).fin default
def zQN:=zh zYS λx=>((zxW x.1 x.2.1).1,zRZ (zxW x.1 x.2.1).2)
theorem z6y:SdP 112 zQN:=
 sT (cx':=zbdz) (zi trivial) call112 func112 (lOK aN)
abbrev zFp:=yC×Unit×Int×Unit
abbrev z1C:=yC×Int×Term
def zAd (a:yC) (i:Int) (t:Term):Wy zFp (Term×Unit) z1C:=.i (decide (i<Int.ofNat a.length)) (.i (decide (0<=i)&&decide (i<Int.ofNat a.length)) (.bn (zlG (a.getD i.toNat default).Fs t.Fs) λr0=>.i (decide (r0<0)) (.h (a,(),(IntKind.i64.wrap (i+1)),()) (t,())) (.k (a,i,t))) .d) (.k (a,i,t))
def zOO (x:zFp) (y:Term×Unit):=zAd x.1 x.2.2.1 y.1
def z2k (n:Nat) (a:yC) (i:Int) (t:Term):=zA (zOO) default n (a,(),i,()) (t,())
def zbdj (r:z1C):LTree ty:=.done (.exit 0) [.sl 28 r.1,.ptr 288 0,.lit (.int .i64 r.2.1)] [.box (base.enc 28 r.2.2) false]
def zbfh:LL ty zFp:=za (lSl 28) (za (zeb 288 0) (za zj zk))
def zbc5 (x:zFp) (y:Term×Unit):Nat:=(x.1.length+Int.toNat x.2.2.1+y.1.Fs.length+1)
def zZZ:=zbY base 72 [(34,zpv),(112,zQN)] [] [(2,(kpL [0,3,5]))] [(2,1,(kpL [0,3,5]))] [(2,spW zbfh zTI (zOO) default zbdj zbc5)] []
theorem zbdO:zy zZZ (lp (body f58) 0):=zm (id:=2) (hl:=rfl)
def z5S (a:yC) (t:Term):Wy0 (yC):=.bn (z2k (a.length+Int.toNat 0+t.Fs.length+1) a 0 t) λr3=>.i (decide ((0:Int)<=(0:Int))&&decide (0<=r3.2.1)&&decide (r3.2.1<=Int.ofNat r3.1.length)) (.i (decide ((0+(List.take (r3.2.1.toNat - Int.toNat 0) (List.drop (Int.toNat 0) r3.1)).length)*32<=zP)) (.i (decide (r3.2.1<Int.ofNat r3.1.length)) (.i (decide (0<=r3.2.1)&&decide (r3.2.1<Int.ofNat r3.1.length)) (.bn (zlG (r3.1.getD r3.2.1.toNat default).Fs r3.2.2.Fs) λr2=>.i (r2==0) (.i (decide (0<=r3.2.1)&&decide (r3.2.1<Int.ofNat r3.1.length)) (.i (decide ((([]++List.take (r3.2.1.toNat - Int.toNat 0) (List.drop (Int.toNat 0) r3.1)).length+[TO.mk (zxW (r3.1.getD r3.2.1.toNat default).Cf r3.2.2.Cf).2 r3.2.2.Fs].length)*32<=zP)) (.i (decide (0<=IntKind.i64.wrap (r3.2.1+1))&&decide (IntKind.i64.wrap (r3.2.1+1)<=Int.ofNat r3.1.length)&&decide (Int.ofNat r3.1.length<=Int.ofNat r3.1.length)) (.i (decide ((([]++List.take (r3.2.1.toNat - Int.toNat 0) (List.drop (Int.toNat 0) r3.1)++[TO.mk (zxW (r3.1.getD r3.2.1.toNat default).Cf r3.2.2.Cf).2 r3.2.2.Fs]).length+(List.take ((Int.ofNat r3.1.length).toNat - (IntKind.i64.wrap (r3.2.1+1)).toNat) (List.drop (IntKind.i64.wrap (r3.2.1+1)).toNat r3.1)).length)*32<=zP)) (.k ([]++List.take (r3.2.1.toNat - Int.toNat 0) (List.drop (Int.toNat 0) r3.1)++[TO.mk (zxW (r3.1.getD r3.2.1.toNat default).Cf r3.2.2.Cf).2 r3.2.2.Fs]++List.take ((Int.ofNat r3.1.length).toNat - (IntKind.i64.wrap (r3.2.1+1)).toNat) (List.drop (IntKind.i64.wrap (r3.2.1+1)).toNat r3.1))) .d) .d) .d) .d) (.i (decide ((([]++List.take (r3.2.1.toNat - Int.toNat 0) (List.drop (Int.toNat 0) r3.1)).length+[r3.2.2].length)*32<=zP)) (.i (decide (0<=r3.2.1)&&decide (r3.2.1<=Int.ofNat r3.1.length)&&decide (Int.ofNat r3.1.length<=Int.ofNat r3.1.length)) (.i (decide ((([]++List.take (r3.2.1.toNat - Int.toNat 0) (List.drop (Int.toNat 0) r3.1)++[r3.2.2]).length+(List.take ((Int.ofNat r3.1.length).toNat - r3.2.1.toNat) (List.drop r3.2.1.toNat r3.1)).length)*32<=zP)) (.k ([]++List.take (r3.2.1.toNat - Int.toNat 0) (List.drop (Int.toNat 0) r3.1)++[r3.2.2]++List.take ((Int.ofNat r3.1.length).toNat - r3.2.1.toNat) (List.drop r3.2.1.toNat r3.1))) .d) .d) .d)) .d) (.i (decide ((([]++List.take (r3.2.1.toNat - Int.toNat 0) (List.drop (Int.toNat 0) r3.1)).length+[r3.2.2].length)*32<=zP)) (.i (decide (0<=r3.2.1)&&decide (r3.2.1<=Int.ofNat r3.1.length)&&decide (Int.ofNat r3.1.length<=Int.ofNat r3.1.length)) (.i (decide ((([]++List.take (r3.2.1.toNat - Int.toNat 0) (List.drop (Int.toNat 0) r3.1)++[r3.2.2]).length+(List.take ((Int.ofNat r3.1.length).toNat - r3.2.1.toNat) (List.drop r3.2.1.toNat r3.1)).length)*32<=zP)) (.k ([]++List.take (r3.2.1.toNat - Int.toNat 0) (List.drop (Int.toNat 0) r3.1)++[r3.2.2]++List.take ((Int.ofNat r3.1.length).toNat - r3.2.1.toNat) (List.drop r3.2.1.toNat r3.1))) .d) .d) .d)) .d) .d
def zEz (a:yC) (t:Term):=(z5S a t).fin default
def zbgL:AL base (yC×Term×Unit):=zc (ze (vSl 28)) (zc (ze (zcy 28)) zo)
def zHH:=zh zbgL λx=>((zEz x.1 x.2.1).1,zSt (zEz x.1 x.2.1).2)
theorem zRa:SdP 58 zHH:=
 sT (cx':=zZZ) (zi ⟨zyo,z6y,trivial⟩) call58 func58 (lOK (aC zbdO aN)) (sg:=⟨[.own 28],[]⟩)
abbrev zzE:=yD×Unit×Int×Unit
abbrev zQ1:=yD×Int×Fc
def ztT (l:yD) (i:Int) (f:Fc):Wy zzE (Fc×Unit) zQ1:=.i (decide (i<Int.ofNat l.length)) (.i (decide (0<=i)&&decide (i<Int.ofNat l.length)) (.bn (zlN (At.mk (l.getD i.toNat default).At.Kind (l.getD i.toNat default).At.Row (l.getD i.toNat default).At.Ag (l.getD i.toNat default).At.Func (l.getD i.toNat default).At.Items (l.getD i.toNat default).At.Op (l.getD i.toNat default).At.Bd) (At.mk f.At.Kind f.At.Row f.At.Ag f.At.Func f.At.Items f.At.Op f.At.Bd)) λr0=>.i (decide (r0<0)) (.h (l,(),(IntKind.i64.wrap (i+1)),()) (f,())) (.k (l,i,f))) .d) (.k (l,i,f))
def zFJ (x:zzE) (y:Fc×Unit):=ztT x.1 x.2.2.1 y.1
def zQD (n:Nat) (l:yD) (i:Int) (f:Fc):=zA (zFJ) default n (l,(),i,()) (f,())
def z7r (r:zQ1):LTree ty:=.done (.exit 0) [.sl 69 r.1,.ptr 296 0,.lit (.int .i64 r.2.1)] [.box (base.enc 69 r.2.2) false]
def z8x:LL ty zzE:=za (lSl 69) (za (zeb 296 0) (za zj zk))
def z6M (x:zzE) (y:Fc×Unit):Nat:=(x.1.length+Int.toNat x.2.2.1+y.1.At.Ag.length+y.1.At.Items.length+1)
def zQY:=zbY base 74 [(53,zux)] [] [(2,(kpL [0,3,5]))] [(2,1,(kpL [0,3,5]))] [(2,spW z8x zUN (zFJ) default z7r z6M)] []
theorem z6Q:zy zQY (lp (body f57) 0):=zm (id:=2) (hl:=rfl)
def zTe (l:yD) (f:Fc):Wy0 (yD):=.bn (zQD (l.length+Int.toNat 0+f.At.Ag.length+f.At.Items.length+1) l 0 (FO.mk (At.mk f.At.Kind f.At.Row f.At.Ag f.At.Func f.At.Items f.At.Op f.At.Bd) f.Exp)) λr3=>.i (decide ((0:Int)<=(0:Int))&&decide (0<=r3.2.1)&&decide (r3.2.1<=Int.ofNat r3.1.length)) (.i (decide ((0+(List.take (r3.2.1.toNat - Int.toNat 0) (List.drop (Int.toNat 0) r3.1)).length)*128<=zP)) (.i (decide (r3.2.1<Int.ofNat r3.1.length)) (.i (decide (0<=r3.2.1)&&decide (r3.2.1<Int.ofNat r3.1.length)) (.bn (zlN (At.mk (r3.1.getD r3.2.1.toNat default).At.Kind (r3.1.getD r3.2.1.toNat default).At.Row (r3.1.getD r3.2.1.toNat default).At.Ag (r3.1.getD r3.2.1.toNat default).At.Func (r3.1.getD r3.2.1.toNat default).At.Items (r3.1.getD r3.2.1.toNat default).At.Op (r3.1.getD r3.2.1.toNat default).At.Bd) (At.mk r3.2.2.At.Kind r3.2.2.At.Row r3.2.2.At.Ag r3.2.2.At.Func r3.2.2.At.Items r3.2.2.At.Op r3.2.2.At.Bd)) λr2=>.i (r2==0) (.i (decide (r3.2.2.At.Kind<3)) (.i (decide (0<=r3.2.1)&&decide (r3.2.1<Int.ofNat r3.1.length)) (.i (decide ((([]++List.take (r3.2.1.toNat - Int.toNat 0) (List.drop (Int.toNat 0) r3.1)).length+[FO.mk (At.mk r3.2.2.At.Kind r3.2.2.At.Row r3.2.2.At.Ag r3.2.2.At.Func r3.2.2.At.Items r3.2.2.At.Op r3.2.2.At.Bd) (IntKind.i64.wrap ((r3.1.getD r3.2.1.toNat default).Exp+r3.2.2.Exp))].length)*128<=zP)) (.i (decide (0<=IntKind.i64.wrap (r3.2.1+1))&&decide (IntKind.i64.wrap (r3.2.1+1)<=Int.ofNat r3.1.length)&&decide (Int.ofNat r3.1.length<=Int.ofNat r3.1.length)) (.i (decide ((([]++List.take (r3.2.1.toNat - Int.toNat 0) (List.drop (Int.toNat 0) r3.1)++[FO.mk (At.mk r3.2.2.At.Kind r3.2.2.At.Row r3.2.2.At.Ag r3.2.2.At.Func r3.2.2.At.Items r3.2.2.At.Op r3.2.2.At.Bd) (IntKind.i64.wrap ((r3.1.getD r3.2.1.toNat default).Exp+r3.2.2.Exp))]).length+(List.take ((Int.ofNat r3.1.length).toNat - (IntKind.i64.wrap (r3.2.1+1)).toNat) (List.drop (IntKind.i64.wrap (r3.2.1+1)).toNat r3.1)).length)*128<=zP)) (.k ([]++List.take (r3.2.1.toNat - Int.toNat 0) (List.drop (Int.toNat 0) r3.1)++[FO.mk (At.mk r3.2.2.At.Kind r3.2.2.At.Row r3.2.2.At.Ag r3.2.2.At.Func r3.2.2.At.Items r3.2.2.At.Op r3.2.2.At.Bd) (IntKind.i64.wrap ((r3.1.getD r3.2.1.toNat default).Exp+r3.2.2.Exp))]++List.take ((Int.ofNat r3.1.length).toNat - (IntKind.i64.wrap (r3.2.1+1)).toNat) (List.drop (IntKind.i64.wrap (r3.2.1+1)).toNat r3.1))) .d) .d) .d) .d) (.i (decide ((([]++List.take (r3.2.1.toNat - Int.toNat 0) (List.drop (Int.toNat 0) r3.1)).length+[FO.mk (At.mk r3.2.2.At.Kind r3.2.2.At.Row r3.2.2.At.Ag r3.2.2.At.Func r3.2.2.At.Items r3.2.2.At.Op r3.2.2.At.Bd) r3.2.2.Exp].length)*128<=zP)) (.i (decide (0<=IntKind.i64.wrap (r3.2.1+1))&&decide (IntKind.i64.wrap (r3.2.1+1)<=Int.ofNat r3.1.length)&&decide (Int.ofNat r3.1.length<=Int.ofNat r3.1.length)) (.i (decide ((([]++List.take (r3.2.1.toNat - Int.toNat 0) (List.drop (Int.toNat 0) r3.1)++[FO.mk (At.mk r3.2.2.At.Kind r3.2.2.At.Row r3.2.2.At.Ag r3.2.2.At.Func r3.2.2.At.Items r3.2.2.At.Op r3.2.2.At.Bd) r3.2.2.Exp]).length+(List.take ((Int.ofNat r3.1.length).toNat - (IntKind.i64.wrap (r3.2.1+1)).toNat) (List.drop (IntKind.i64.wrap (r3.2.1+1)).toNat r3.1)).length)*128<=zP)) (.k ([]++List.take (r3.2.1.toNat - Int.toNat 0) (List.drop (Int.toNat 0) r3.1)++[FO.mk (At.mk r3.2.2.At.Kind r3.2.2.At.Row r3.2.2.At.Ag r3.2.2.At.Func r3.2.2.At.Items r3.2.2.At.Op r3.2.2.At.Bd) r3.2.2.Exp]++List.take ((Int.ofNat r3.1.length).toNat - (IntKind.i64.wrap (r3.2.1+1)).toNat) (List.drop (IntKind.i64.wrap (r3.2.1+1)).toNat r3.1))) .d) .d) .d)) (.i (decide ((([]++List.take (r3.2.1.toNat - Int.toNat 0) (List.drop (Int.toNat 0) r3.1)).length+[FO.mk (At.mk r3.2.2.At.Kind r3.2.2.At.Row r3.2.2.At.Ag r3.2.2.At.Func r3.2.2.At.Items r3.2.2.At.Op r3.2.2.At.Bd) r3.2.2.Exp].length)*128<=zP)) (.i (decide (0<=r3.2.1)&&decide (r3.2.1<=Int.ofNat r3.1.length)&&decide (Int.ofNat r3.1.length<=Int.ofNat r3.1.length)) (.i (decide ((([]++List.take (r3.2.1.toNat - Int.toNat 0) (List.drop (Int.toNat 0) r3.1)++[FO.mk (At.mk r3.2.2.At.Kind r3.2.2.At.Row r3.2.2.At.Ag r3.2.2.At.Func r3.2.2.At.Items r3.2.2.At.Op r3.2.2.At.Bd) r3.2.2.Exp]).length+(List.take ((Int.ofNat r3.1.length).toNat - r3.2.1.toNat) (List.drop r3.2.1.toNat r3.1)).length)*128<=zP)) (.k ([]++List.take (r3.2.1.toNat - Int.toNat 0) (List.drop (Int.toNat 0) r3.1)++[FO.mk (At.mk r3.2.2.At.Kind r3.2.2.At.Row r3.2.2.At.Ag r3.2.2.At.Func r3.2.2.At.Items r3.2.2.At.Op r3.2.2.At.Bd) r3.2.2.Exp]++List.take ((Int.ofNat r3.1.length).toNat - r3.2.1.toNat) (List.drop r3.2.1.toNat r3.1))) .d) .d) .d)) .d) (.i (decide ((([]++List.take (r3.2.1.toNat - Int.toNat 0) (List.drop (Int.toNat 0) r3.1)).length+[FO.mk (At.mk r3.2.2.At.Kind r3.2.2.At.Row r3.2.2.At.Ag r3.2.2.At.Func r3.2.2.At.Items r3.2.2.At.Op r3.2.2.At.Bd) r3.2.2.Exp].length)*128<=zP)) (.i (decide (0<=r3.2.1)&&decide (r3.2.1<=Int.ofNat r3.1.length)&&decide (Int.ofNat r3.1.length<=Int.ofNat r3.1.length)) (.i (decide ((([]++List.take (r3.2.1.toNat - Int.toNat 0) (List.drop (Int.toNat 0) r3.1)++[FO.mk (At.mk r3.2.2.At.Kind r3.2.2.At.Row r3.2.2.At.Ag r3.2.2.At.Func r3.2.2.At.Items r3.2.2.At.Op r3.2.2.At.Bd) r3.2.2.Exp]).length+(List.take ((Int.ofNat r3.1.length).toNat - r3.2.1.toNat) (List.drop r3.2.1.toNat r3.1)).length)*128<=zP)) (.k ([]++List.take (r3.2.1.toNat - Int.toNat 0) (List.drop (Int.toNat 0) r3.1)++[FO.mk (At.mk r3.2.2.At.Kind r3.2.2.At.Row r3.2.2.At.Ag r3.2.2.At.Func r3.2.2.At.Items r3.2.2.At.Op r3.2.2.At.Bd) r3.2.2.Exp]++List.take ((Int.ofNat r3.1.length).toNat - r3.2.1.toNat) (List.drop r3.2.1.toNat r3.1))) .d) .d) .d)) .d) .d
def zAw (l:yD) (f:Fc):=(zTe l f).fin default
def z6A (r:yD):ARes ty:=⟨[.pure (.sl 69 r)],[]⟩
def zbaE:AL base (yD×Fc×Unit):=zc (ze (vSl 69)) (zc (ze (zcy 69)) zo)
def zLJ:=zh zbaE λx=>((zAw x.1 x.2.1).1,z6A (zAw x.1 x.2.1).2)
theorem z2z:SdP 57 zLJ:=
 sT (cx':=zQY) (zi ⟨zB9,trivial⟩) call57 func57 (lOK (aC z6Q aN))
def zbax:=zbt base 12 []
def zYt (a:Int) (b:Int):Wy0 (Int):=.i (!decide (b=0)) (.i (decide (a>IntKind.i64.wrap (Int.tdiv 1152921504606846976 b))) (.k 1152921504606846976) (.k (IntKind.i64.wrap (a*b)))) .d
def zC8 (a:Int) (b:Int):=(zYt a b).fin default
def zOF:=zh zYS λx=>((zC8 x.1 x.2.1).1,zRZ (zC8 x.1 x.2.1).2)
theorem z4A:SdP 56 zOF:=
 sT (cx':=zbax) (zi trivial) call56 func56 (lOK aN)
abbrev zxw:=yC×yC×Unit×Int×Int×Unit×Int×Unit
abbrev zxM:=yC×(Int×yD×Unit)×Unit
abbrev zNA:=yC×yC×Int×Int×yC×Int×yD
abbrev zxz:=yC×yC×Unit×Int×Int×Unit
abbrev zib:=yC×Unit
abbrev zOy:=yC×yC×Int×yC
abbrev zxS:=yC×yC×Unit×Int×Unit
def zoS (a:yC) (b:yC) (i:Int) (k:Int) (j:Int) (out_:yC) (t_0:Int) (t_1:yD):Wy zxw zxM zNA:=.i (decide (0<=k)&&decide (k<Int.ofNat b.length)) (.i (decide (j<Int.ofNat (b.getD k.toNat default).Fs.length)) (.i (decide (0<=k)&&decide (k<Int.ofNat b.length)) (.i (decide (0<=j)&&decide (j<Int.ofNat (b.getD k.toNat default).Fs.length)) (.bn (zAw t_1 (FO.mk (At.mk ((b.getD k.toNat default).Fs.getD j.toNat default).At.Kind ((b.getD k.toNat default).Fs.getD j.toNat default).At.Row ((b.getD k.toNat default).Fs.getD j.toNat default).At.Ag ((b.getD k.toNat default).Fs.getD j.toNat default).At.Func ((b.getD k.toNat default).Fs.getD j.toNat default).At.Items ((b.getD k.toNat default).Fs.getD j.toNat default).At.Op ((b.getD k.toNat default).Fs.getD j.toNat default).At.Bd) ((b.getD k.toNat default).Fs.getD j.toNat default).Exp)) λr0=>.h (a,b,(),i,k,(),(IntKind.i64.wrap (j+1)),()) (out_,(t_0,(r0),()),())) .d) .d) (.k (a,b,i,k,out_,t_0,t_1))) .d
def zCS (x:zxw) (y:zxM):=zoS x.1 x.2.1 x.2.2.2.1 x.2.2.2.2.1 x.2.2.2.2.2.2.1 y.1 y.2.1.1 y.2.1.2.1
def zLB (n:Nat) (a:yC) (b:yC) (i:Int) (k:Int) (j:Int) (out_:yC) (t_0:Int) (t_1:yD):=zA (zCS) default n (a,b,(),i,k,(),j,()) (out_,(t_0,t_1,()),())
def z2x (r:zNA):LTree ty:=.done (.exit 4) [.sl 28 r.1,.sl 28 r.2.1,.own 264,.lit (.int .i64 r.2.2.1),.lit (.int .i64 r.2.2.2.1),.ptr 265 0] [.arr 28 r.2.2.2.2.1 false,.box ([.lit (.int .i64 r.2.2.2.2.2.1),.sl 69 r.2.2.2.2.2.2]) false]
def z4v:LL ty zxw:=za (lSl 28) (za (lSl 28) (za (zdK 264) (za zj (za zj (za (zeb 265 0) (za zj zk))))))
def z3Q:BL ty zxM:=zdO 28 false (zf8 (za (zB .i64) (za (lSl 69) zk)) false (z8))
def zrm (a:yC) (b:yC) (i:Int) (k:Int) (out_:yC):Wy zxz zib zOy:=.i (decide (k<Int.ofNat b.length)) (.i (decide (0<=i)&&decide (i<Int.ofNat a.length)) (.i (decide (0<=k)&&decide (k<Int.ofNat b.length)) (.bn (zC8 (a.getD i.toNat default).Cf (b.getD k.toNat default).Cf) λr4=>.i (decide (0<=i)&&decide (i<Int.ofNat a.length)) (.bn (zLB ((a.length+b.length+i.toNat +k.toNat +Int.toNat 0+out_.length+r4.toNat +(a.getD i.toNat default).Fs.length+1)+zbD a+zbD b+zbD out_+zKS (a.getD i.toNat default).Fs) a b i k 0 out_ r4 (a.getD i.toNat default).Fs) λr3=>.bn (zEz r3.2.2.2.2.1 (TO.mk r3.2.2.2.2.2.1 r3.2.2.2.2.2.2)) λr2=>.h ((r3.1),(r3.2.1),(),(r3.2.2.1),(IntKind.i64.wrap (r3.2.2.2.1+1)),()) ((r2),())) .d) .d) .d) (.k (a,b,i,out_))
def zDI (x:zxz) (y:zib):=zrm x.1 x.2.1 x.2.2.2.1 x.2.2.2.2.1 y.1
def zNU (n:Nat) (a:yC) (b:yC) (i:Int) (k:Int) (out_:yC):=zA (zDI) default n (a,b,(),i,k,()) (out_,())
def z4e (r:zOy):LTree ty:=.done (.exit 2) [.sl 28 r.1,.sl 28 r.2.1,.own 264,.lit (.int .i64 r.2.2.1)] [.arr 28 r.2.2.2 false]
def z7o:LL ty zxz:=za (lSl 28) (za (lSl 28) (za (zdK 264) (za zj (za zj zk))))
def z7d:BL ty zib:=zdO 28 false (z8)
def zrd (a:yC) (b:yC) (i:Int) (out_:yC):Wy zxS zib (yC):=.i (decide (i<Int.ofNat a.length)) (.bn (zNU ((a.length+b.length+i.toNat +Int.toNat 0+out_.length+1)+zbD a+zbD b+zbD out_) a b i 0 out_) λr8=>.h ((r8.1),(r8.2.1),(),(IntKind.i64.wrap (r8.2.2.1+1)),()) ((r8.2.2.2),())) (.k out_)
def zDG (x:zxS) (y:zib):=zrd x.1 x.2.1 x.2.2.2.1 y.1
def zOW (n:Nat) (a:yC) (b:yC) (i:Int) (out_:yC):=zA (zDG) default n (a,b,(),i,()) (out_,())
def z4y (r:yC):LTree ty:=.done (.exit 0) [.own 264] [.arr 28 r false]
def z6g:LL ty zxS:=za (lSl 28) (za (lSl 28) (za (zdK 264) (za zj zk)))
def z0b (x:zxw) (y:zxM):Nat:=((x.1.length+x.2.1.length+Int.toNat x.2.2.2.1+Int.toNat x.2.2.2.2.1+Int.toNat x.2.2.2.2.2.2.1+y.1.length+Int.toNat y.2.1.1+y.2.1.2.1.length+1)+zbD x.1+zbD x.2.1+zbD y.1+zKS y.2.1.2.1)
def z5f (x:zxz) (y:zib):Nat:=((x.1.length+x.2.1.length+Int.toNat x.2.2.2.1+Int.toNat x.2.2.2.2.1+y.1.length+1)+zbD x.1+zbD x.2.1+zbD y.1)
def z4O (x:zxS) (y:zib):Nat:=((x.1.length+x.2.1.length+Int.toNat x.2.2.2.1+y.1.length+1)+zbD x.1+zbD x.2.1+zbD y.1)
def zx6:=zbY base 66 [(56,zOF),(57,zLJ),(58,zHH)] [] [(3,(kpL [0,1,5,6])),(6,(kpL [0,1,5,6,7])),(10,(kpL [0,1,5,6,7,8,9]))] [(3,1,(kpL [5])),(6,3,(kpL [0,1,5,6])),(10,5,(kpL [0,1,5,6,7,8]))] [(10,spW z4v z3Q (zCS) default z2x z0b),(6,spW z7o z7d (zDI) default z4e z5f),(3,spW z6g z7d (zDG) default z4y z4O)] []
theorem z0o:zy zx6 (lp (body f17) 2):=zm (id:=10) (hl:=rfl)
theorem z4C:zy zx6 (lp (body f17) 1):=zm (id:=6) (hl:=rfl)
theorem z33:zy zx6 (lp (body f17) 0):=zm (id:=3) (hl:=rfl)
def zQ3 (a:yC) (b:yC):Wy0 (yC):=.bn (zOW ((a.length+b.length+Int.toNat 0+0+1)+zbD a+zbD b+zbD []) a b 0 []) λr10=>.k r10
def zos (a:yC) (b:yC):=(zQ3 a b).fin default
def zAI:=zh zWi λx=>((zos x.1 x.2.1).1,zSt (zos x.1 x.2.1).2)
theorem zGE:SdP 17 zAI:=
 sT (cx':=zx6) (zi ⟨z4A,z2z,zRa,trivial⟩) call17 func17 (lOK (aC z33 (aC z4C (aC z0o aN)))) (sg:=⟨[.own 28],[]⟩)
abbrev zFj:=yC×yC×Int×Unit
def zBj (a:yC) (b:yC) (i:Int):Wy zFj Unit (yC):=.i (decide (i<Int.ofNat b.length)) (.i (decide (0<=i)&&decide (i<Int.ofNat b.length)) (.bn (zEz a (b.getD i.toNat default)) λr0=>.h ((r0),b,(IntKind.i64.wrap (i+1)),()) ()) .d) (.k a)
def zOc (x:zFj) (y:Unit):=zBj x.1 x.2.1 x.2.2.1
def z2f (n:Nat) (a:yC) (b:yC) (i:Int):=zA (zOc) default n (a,b,i,()) ()
def zbdJ (r:yC):LTree ty:=.done (.exit 0) [.sl 28 r] []
def zbf9:LL ty zFj:=za (lSl 28) (za (lSl 28) (za zj zk))
def zbdQ (x:zFj) (y:Unit):Nat:=(x.1.length+x.2.1.length+Int.toNat x.2.2.1+1)
def z0e:=zbY base 19 [(58,zHH)] [] [(2,[(0,.sl 28),(1,.keep),(5,.keep)])] [(2,1,(kpL [0]))] [(2,spW zbf9 zbc9 (zOc) default zbdJ zbdQ)] []
theorem zbdf:zy z0e (lp (body f45) 0):=zm (id:=2) (hl:=rfl)
def z5Z (a:yC) (b:yC):Wy0 (yC):=.bn (z2f (a.length+b.length+Int.toNat 0+1) a b 0) λr2=>.k r2
def zEu (a:yC) (b:yC):=(z5Z a b).fin default
def zbdG (r:yC):ARes ty:=⟨[.pure (.sl 28 r)],[]⟩
def zHP:=zh zWi λx=>((zEu x.1 x.2.1).1,zbdG (zEu x.1 x.2.1).2)
theorem zQJ:SdP 45 zHP:=
 sT (cx':=z0e) (zi ⟨zRa,trivial⟩) call45 func45 (lOK (aC zbdf aN))
abbrev zpa:=yF×yF×Int×Unit
abbrev zFs:=Int⊕(yF×yF)
def zWr (a:yF) (b:yF) (i:Int):Wy zpa Unit zFs:=.i (decide (i<Int.ofNat a.length)) (.i (decide (i<Int.ofNat b.length)) (.i (decide (0<=i)&&decide (i<Int.ofNat a.length)) (.i (decide (0<=i)&&decide (i<Int.ofNat b.length)) (.bn (zh0 (a.getD i.toNat default) (b.getD i.toNat default)) λr0=>.i (r0 != 0) (.k (.inl (r0))) (.h (a,b,(IntKind.i64.wrap (i+1)),()) ())) .d) .d) (.k (.inr (a,b)))) (.k (.inr (a,b)))
def zFR (x:zpa) (y:Unit):=zWr x.1 x.2.1 x.2.2.1
def zWD (n:Nat) (a:yF) (b:yF) (i:Int):=zA (zFR) (.inl default) n (a,b,i,()) ()
def zUw (r:zFs):LTree ty:=.ite (isL r) (.done .ret [.lit (.int .i64 (getL r))] []) (.done (.exit 0) [.sl 49 (getR r).1,.sl 49 (getR r).2] [])
def zWx:LL ty zpa:=za (lSl 49) (za (lSl 49) (za zj zk))
def zTG (x:zpa) (y:Unit):Nat:=(x.1.length+x.2.1.length+Int.toNat x.2.2.1+1000)
def zFz:=zbY base 41 [(105,znQ)] [] [(2,(kpL [0,1,5]))] [(2,1,(kpL [0,1])),(2,0,(kpL [4]))] [(2,spW zWx zbc9 (zFR) (.inl default) zUw zTG)] []
theorem zUl:zy zFz (lp (body f76) 0):=zm (id:=2) (hl:=rfl)
def zZb (a:yF) (b:yF):Wy0 (Int):=.bn (zWD (a.length+b.length+Int.toNat 0+1000) a b 0) λr2=>.i (isL r2) (.k (getL r2)) (.i (Int.ofNat (getR r2).1.length==Int.ofNat (getR r2).2.length) (.k 0) (.i (decide (Int.ofNat (getR r2).1.length<Int.ofNat (getR r2).2.length)) (.k (-1:Int)) (.k 1)))
def zCA (a:yF) (b:yF):=(zZb a b).fin default
def zDc:=zh zBo λx=>((zCA x.1 x.2.1).1,zRZ (zCA x.1 x.2.1).2)
theorem zPH:SdP 76 zDc:=
 sT (cx':=zFz) (zi ⟨zuC,trivial⟩) call76 func76 (lOK (aC zUl aN))
abbrev zDE:=yB×yB×Int×Unit
def zbc6 (a:yB) (b:yB) (i:Int):Wy zDE Unit (Bool⊕Unit):=.i (decide (i<Int.ofNat a.length)) (.i (decide (0<=i)&&decide (i<Int.ofNat a.length)) (.i (decide (0<=i)&&decide (i<Int.ofNat b.length)) (.bn (zCA (a.getD i.toNat default) (b.getD i.toNat default)) λr0=>.i (r0 != 0) (.k (.inl false)) (.h (a,b,(IntKind.i64.wrap (i+1)),()) ())) .d) .d) (.k (.inr ()))
def zXT (x:zDE) (y:Unit):=zbc6 x.1 x.2.1 x.2.2.1
def zbdE (n:Nat) (a:yB) (b:yB) (i:Int):=zA (zXT) (.inl default) n (a,b,i,()) ()
def zbdb:LL ty zDE:=za (lSl 43) (za (lSl 43) (za zj zk))
def zbb5 (x:zDE) (y:Unit):Nat:=(x.1.length+x.2.1.length+Int.toNat x.2.2.1+1000)
def zYh:=zbY base 27 [(76,zDc)] [] [(4,(kpL [0,1,5]))] [(4,1,[]),(4,0,(kpL [4]))] [(4,spW zbdb zbc9 (zXT) (.inl default) zRs zbb5)] []
theorem zbbu:zy zYh (lp (body f26) 0):=zm (id:=4) (hl:=rfl)
def zbgq (a:yB) (b:yB):Wy0 (Bool):=.i (Int.ofNat a.length != Int.ofNat b.length) (.k false) (.bn (zbdE (a.length+b.length+Int.toNat 0+1000) a b 0) λr2=>.i (isL r2) (.k (getL r2)) (.k true))
def zW1 (a:yB) (b:yB):=(zbgq a b).fin default
def zQB:=zh z6d λx=>((zW1 x.1 x.2.1).1,zZL (zW1 x.1 x.2.1).2)
theorem z6u:SdP 26 zQB:=
 sT (cx':=zYh) (zi ⟨zPH,trivial⟩) call26 func26 (lOK (aC zbbu aN))
abbrev zIl:=yC×yC×yC×Unit×Int×Unit×Unit×Unit×Unit
abbrev zHt:=yB×(Int×Int×Unit)×(Int×Int×Unit)×(Int×Int×Unit)×Unit
def zbbt (x_:yC) (y_:yC) (a:yC) (e:Int) (l:yB) (one_0:Int) (one_1:Int) (two_0:Int) (two_1:Int) (three_0:Int) (three_1:Int):Wy zIl zHt (Bool):=.bn (zCr a) λr7=>.bn (zos y_ y_) λr6=>.bn (zEu x_ r6) λr5=>.bn (zua r7 r5) λr4=>.i (r4) (.i (e==0) (.bn (zW1 l [[RowID.mk one_0 one_1,RowID.mk two_0 two_1],[RowID.mk one_0 one_1,RowID.mk three_0 three_1]]) λr3=>.i (r3) (.bn (zCP a a) λr2=>.i (r2) (.i (decide ((0:Int)<=(0:Int))&&decide (0<Int.ofNat x_.length)) (.bn (zos x_ y_) λr1=>.i (decide ((0:Int)<=(0:Int))&&decide (0<Int.ofNat r1.length)) (.bn (zkm (x_.getD (Int.toNat 0) default) (r1.getD (Int.toNat 0) default)) λr0=>.k r0) .d) .d) (.k false)) (.k false)) (.k false)) (.k false)
def zbbB (x:zIl) (y:zHt):=zbbt x.1 x.2.1 x.2.2.1 x.2.2.2.2.1 y.1 y.2.1.1 y.2.1.2.1 y.2.2.1.1 y.2.2.1.2.1 y.2.2.2.1.1 y.2.2.2.1.2.1
def z8l (r:Bool):LTree ty:=.done .ret [.lit (.bool r)] []
def zbbA:LL ty zIl:=za (lSl 28) (za (lSl 28) (za (lSl 28) (za (zdK 328) (za zj (za (zeb 329 0) (za (zeb 330 0) (za (zeb 331 0) zk)))))))
def zbaP:BL ty zHt:=zdO 43 false (zf8 (za (zB .i64) (za (zB .i64) zk)) false (zf8 (za (zB .i64) (za (zB .i64) zk)) false (zf8 (za (zB .i64) (za (zB .i64) zk)) false (z8))))
def zTE:=zbd5 zb5 82 [(14,zma),(17,zAI),(18,zDe),(22,zDf),(24,zpl),(26,zQB),(30,zzH),(44,zGT),(45,zHP),(46,zD0),(47,zD7)] [] [(6,[(1,.sl 28),(2,.sl 28),(4,.sl 28),(7,.keep),(8,.keep),(9,.keep),(10,.keep),(11,.keep)])] [(6,0,(kpL [0]))] [] [] [(6,spW zbbA zbaP (zbbB) default z8l λx y=>(1))]
theorem z95:zIY zTE (jn (body f12) 6):=zO3 (id:=6) (hl:=rfl)
def zbd1:Wy0 (Bool):=.k true
def z54:Bool×Bool:=(zbd1).fin default
def zbdv:AL zb5 (Unit):=zo
def zOs:=zh zbdv λx=>((z54 ).1,zZL (z54 ).2)
theorem z38:Sound Tryz.prog zb5 12 zOs:=
 z3h (cx':=zTE) zGk zPg zbhQ (zbgi ⟨zq8.nodr,zGE.nodr,zPO.nodr,zP8,zyF.nodr,z6u.nodr,zD2.nodr,zWY.nodr,zQJ.nodr,zLZ.nodr,zLF.nodr,trivial⟩) call12 func12 (c:=body f12) (by kernel_rfl) (zXO (l:=[]) (by kernel_rfl) trivial (js:=[jn (body f12) 6]) (by kernel_rfl) ⟨z95,trivial⟩) (sg:=⟨[.pure],[]⟩)
def zbcf:AL base (yC×Int×Int×Unit):=zc (ze (vSl 28)) (zc (ze (zic .i64)) (zc (ze (zic .i64)) zo))
def zvV (F:yC->Int->Int->Bool×Int):Ab.Spec ty:=zh zbcf λx=>((F x.1 x.2.1 x.2.2.1).1,zRZ (F x.1 x.2.1 x.2.2.1).2)
abbrev zjw:=yC×Int×Int×Int×Int×Int×Unit×Int×Unit
abbrev zQ7:=yC×Int×Int×Int×Int×Int×At
abbrev zRo:=yC×Int×Int×Int×Int×Int
abbrev zzw:=yC×Int×Int×Int×Int×Int×Unit
abbrev zRi:=yC×Int×Int×Int×Int
abbrev zzL:=yC×Int×Int×Int×Int×Unit
def zA9 (zL:yC->Int->Int->Bool×Int) (a:yC) (limit:Int) (zdo:Int) (n_:Int) (i:Int) (k:Int) (j:Int) (x_:At):Wy zjw (At×Unit) zQ7:=.i (decide (j<Int.ofNat x_.Ag.length)) (.i (decide (n_<=limit)) (.i (decide (0<=j)&&decide (j<Int.ofNat x_.Ag.length)) (.bn (zL (x_.Ag.getD j.toNat default) (IntKind.i64.wrap (limit - n_)) (IntKind.i64.wrap (zdo - 1))) λr0=>.h (a,limit,zdo,(IntKind.i64.wrap (n_+r0)),i,k,(),(IntKind.i64.wrap (j+1)),()) (x_,())) .d) (.k (a,limit,zdo,n_,i,k,x_))) (.k (a,limit,zdo,n_,i,k,x_))
def zJZ (zL:yC->Int->Int->Bool×Int) (x:zjw) (y:At×Unit):=zA9 zL x.1 x.2.1 x.2.2.1 x.2.2.2.1 x.2.2.2.2.1 x.2.2.2.2.2.1 x.2.2.2.2.2.2.2.1 y.1
def zA4 (zL:yC->Int->Int->Bool×Int) (n:Nat) (a:yC) (limit:Int) (zdo:Int) (n_:Int) (i:Int) (k:Int) (j:Int) (x_:At):=zA (zJZ zL) default n (a,limit,zdo,n_,i,k,(),j,()) (x_,())
def zYI (r:zQ7):LTree ty:=.done (.exit 4) [.sl 28 r.1,.lit (.int .i64 r.2.1),.lit (.int .i64 r.2.2.1),.lit (.int .i64 r.2.2.2.1),.lit (.int .i64 r.2.2.2.2.1),.lit (.int .i64 r.2.2.2.2.2.1),.ptr 544 0] [.box (base.enc 67 r.2.2.2.2.2.2) false]
def z2Y:LL ty zjw:=za (lSl 28) (za zj (za zj (za zj (za zj (za zj (za (zeb 544 0) (za zj zk)))))))
def zAj (zL:yC->Int->Int->Bool×Int) (a:yC) (limit:Int) (zdo:Int) (n_:Int) (i:Int) (k:Int) (j:Int) (x_:At):Wy zjw (At×Unit) zRo:=.i (decide (j<Int.ofNat x_.Items.length)) (.i (decide (n_<=limit)) (.i (decide (0<=j)&&decide (j<Int.ofNat x_.Items.length)) (.i (decide (0<=j)&&decide (j<Int.ofNat x_.Items.length)) (.bn (zL (x_.Items.getD j.toNat default).Ann (IntKind.i64.wrap (limit - n_)) (IntKind.i64.wrap (zdo - 1))) λr2=>.h (a,limit,zdo,(IntKind.i64.wrap (IntKind.i64.wrap (n_+Int.ofNat (x_.Items.getD j.toNat default).Value.Text.size)+r2)),i,k,(),(IntKind.i64.wrap (j+1)),()) (x_,())) .d) .d) (.k (a,limit,zdo,n_,i,k))) (.k (a,limit,zdo,n_,i,k))
def zJE (zL:yC->Int->Int->Bool×Int) (x:zjw) (y:At×Unit):=zAj zL x.1 x.2.1 x.2.2.1 x.2.2.2.1 x.2.2.2.2.1 x.2.2.2.2.2.1 x.2.2.2.2.2.2.2.1 y.1
def zAE (zL:yC->Int->Int->Bool×Int) (n:Nat) (a:yC) (limit:Int) (zdo:Int) (n_:Int) (i:Int) (k:Int) (j:Int) (x_:At):=zA (zJE zL) default n (a,limit,zdo,n_,i,k,(),j,()) (x_,())
def zZa (r:zRo):LTree ty:=.done (.exit 6) [.sl 28 r.1,.lit (.int .i64 r.2.1),.lit (.int .i64 r.2.2.1),.lit (.int .i64 r.2.2.2.1),.lit (.int .i64 r.2.2.2.2.1),.lit (.int .i64 r.2.2.2.2.2)] []
def zCB (zL:yC->Int->Int->Bool×Int) (a:yC) (limit:Int) (zdo:Int) (n_:Int) (i:Int) (k:Int):Wy zzw Unit zRi:=.i (decide (0<=i)&&decide (i<Int.ofNat a.length)) (.i (decide (k<Int.ofNat (a.getD i.toNat default).Fs.length)) (.i (decide (n_<=limit)) (.i (decide (0<=i)&&decide (i<Int.ofNat a.length)) (.i (decide (0<=k)&&decide (k<Int.ofNat (a.getD i.toNat default).Fs.length)) (.bn (zA4 zL (a.length+limit.toNat +zdo.toNat +(IntKind.i64.wrap (IntKind.i64.wrap (IntKind.i64.wrap (n_+Int.ofNat ((a.getD i.toNat default).Fs.getD k.toNat default).At.Items.length)+Int.ofNat ((a.getD i.toNat default).Fs.getD k.toNat default).At.Ag.length)+Int.ofNat ((a.getD i.toNat default).Fs.getD k.toNat default).At.Bd.Text.size)).toNat +i.toNat +k.toNat +Int.toNat 0+((a.getD i.toNat default).Fs.getD k.toNat default).At.Ag.length+((a.getD i.toNat default).Fs.getD k.toNat default).At.Items.length+1) a limit zdo (IntKind.i64.wrap (IntKind.i64.wrap (IntKind.i64.wrap (n_+Int.ofNat ((a.getD i.toNat default).Fs.getD k.toNat default).At.Items.length)+Int.ofNat ((a.getD i.toNat default).Fs.getD k.toNat default).At.Ag.length)+Int.ofNat ((a.getD i.toNat default).Fs.getD k.toNat default).At.Bd.Text.size)) i k 0 (At.mk ((a.getD i.toNat default).Fs.getD k.toNat default).At.Kind ((a.getD i.toNat default).Fs.getD k.toNat default).At.Row ((a.getD i.toNat default).Fs.getD k.toNat default).At.Ag ((a.getD i.toNat default).Fs.getD k.toNat default).At.Func ((a.getD i.toNat default).Fs.getD k.toNat default).At.Items ((a.getD i.toNat default).Fs.getD k.toNat default).At.Op ((a.getD i.toNat default).Fs.getD k.toNat default).At.Bd)) λr5=>.bn (zAE zL (r5.1.length+r5.2.1.toNat +r5.2.2.1.toNat +r5.2.2.2.1.toNat +r5.2.2.2.2.1.toNat +r5.2.2.2.2.2.1.toNat +Int.toNat 0+r5.2.2.2.2.2.2.Ag.length+r5.2.2.2.2.2.2.Items.length+1) r5.1 r5.2.1 r5.2.2.1 r5.2.2.2.1 r5.2.2.2.2.1 r5.2.2.2.2.2.1 0 (At.mk r5.2.2.2.2.2.2.Kind r5.2.2.2.2.2.2.Row r5.2.2.2.2.2.2.Ag r5.2.2.2.2.2.2.Func r5.2.2.2.2.2.2.Items r5.2.2.2.2.2.2.Op r5.2.2.2.2.2.2.Bd)) λr4=>.h ((r4.1),(r4.2.1),(r4.2.2.1),(r4.2.2.2.1),(r4.2.2.2.2.1),(IntKind.i64.wrap (r4.2.2.2.2.2+1)),()) ()) .d) .d) (.k (a,limit,zdo,n_,i))) (.k (a,limit,zdo,n_,i))) .d
def zLP (zL:yC->Int->Int->Bool×Int) (x:zzw) (y:Unit):=zCB zL x.1 x.2.1 x.2.2.1 x.2.2.2.1 x.2.2.2.2.1 x.2.2.2.2.2.1
def zCz (zL:yC->Int->Int->Bool×Int) (n:Nat) (a:yC) (limit:Int) (zdo:Int) (n_:Int) (i:Int) (k:Int):=zA (zLP zL) default n (a,limit,zdo,n_,i,k,()) ()
def z03 (r:zRi):LTree ty:=.done (.exit 2) [.sl 28 r.1,.lit (.int .i64 r.2.1),.lit (.int .i64 r.2.2.1),.lit (.int .i64 r.2.2.2.1),.lit (.int .i64 r.2.2.2.2)] []
def z4b:LL ty zzw:=za (lSl 28) (za zj (za zj (za zj (za zj (za zj zk)))))
def zCM (zL:yC->Int->Int->Bool×Int) (a:yC) (limit:Int) (zdo:Int) (n_:Int) (i:Int):Wy zzL Unit (Int):=.i (decide (i<Int.ofNat a.length)) (.i (decide (n_<=limit)) (.i (decide (0<=i)&&decide (i<Int.ofNat a.length)) (.bn (zCz zL (a.length+limit.toNat +zdo.toNat +(IntKind.i64.wrap (IntKind.i64.wrap (n_+1)+Int.ofNat (a.getD i.toNat default).Fs.length)).toNat +i.toNat +Int.toNat 0+1) a limit zdo (IntKind.i64.wrap (IntKind.i64.wrap (n_+1)+Int.ofNat (a.getD i.toNat default).Fs.length)) i 0) λr8=>.h ((r8.1),(r8.2.1),(r8.2.2.1),(r8.2.2.2.1),(IntKind.i64.wrap (r8.2.2.2.2+1)),()) ()) .d) (.k n_)) (.k n_)
def zLY (zL:yC->Int->Int->Bool×Int) (x:zzL) (y:Unit):=zCM zL x.1 x.2.1 x.2.2.1 x.2.2.2.1 x.2.2.2.2.1
def zCm (zL:yC->Int->Int->Bool×Int) (n:Nat) (a:yC) (limit:Int) (zdo:Int) (n_:Int) (i:Int):=zA (zLY zL) default n (a,limit,zdo,n_,i,()) ()
def z4K:LL ty zzL:=za (lSl 28) (za zj (za zj (za zj (za zj zk))))
def zYX (x:zjw) (y:At×Unit):Nat:=(x.1.length+Int.toNat x.2.1+Int.toNat x.2.2.1+Int.toNat x.2.2.2.1+Int.toNat x.2.2.2.2.1+Int.toNat x.2.2.2.2.2.1+Int.toNat x.2.2.2.2.2.2.2.1+y.1.Ag.length+y.1.Items.length+1)
def z2B (x:zzw) (y:Unit):Nat:=(x.1.length+Int.toNat x.2.1+Int.toNat x.2.2.1+Int.toNat x.2.2.2.1+Int.toNat x.2.2.2.2.1+Int.toNat x.2.2.2.2.2.1+1)
def z1t (x:zzL) (y:Unit):Nat:=(x.1.length+Int.toNat x.2.1+Int.toNat x.2.2.1+Int.toNat x.2.2.2.1+Int.toNat x.2.2.2.2.1+1)
def zoF (zL:yC->Int->Int->Bool×Int):=zbY base 136 [(48,(zvV zL))] [] [(5,(kpL [0,1,2,7,8])),(9,(kpL [0,1,2,7,8,9])),(14,(kpL [0,1,2,7,8,9,10,11])),(18,(kpL [0,1,2,7,8,9,10,12]))] [(5,1,(kpL [7])),(9,3,(kpL [0,1,2,7,8])),(14,5,(kpL [0,1,2,7,8,9,10])),(18,7,(kpL [0,1,2,7,8,9]))] [(14,spW z2Y zYU (zJZ zL) default zYI zYX),(18,spW z2Y zYU (zJE zL) default zZa zYX),(9,spW z4b zbc9 (zLP zL) default z03 z2B),(5,spW z4K zbc9 (zLY zL) default zTm z1t)] []
theorem zZx (zL:yC->Int->Int->Bool×Int):zy (zoF zL) (lp (body f48) 2):=zm (id:=14) (hl:=rfl)
theorem zYZ (zL:yC->Int->Int->Bool×Int):zy (zoF zL) (lp (body f48) 3):=zm (id:=18) (hl:=rfl)
theorem z0z (zL:yC->Int->Int->Bool×Int):zy (zoF zL) (lp (body f48) 1):=zm (id:=9) (hl:=rfl)
theorem z1e (zL:yC->Int->Int->Bool×Int):zy (zoF zL) (lp (body f48) 0):=zm (id:=5) (hl:=rfl)
def zD3 (zL:yC->Int->Int->Bool×Int) (a:yC) (limit:Int) (zdo:Int):Wy0 (Int):=.i (zdo==0) (.k (IntKind.i64.wrap (limit+1))) (.bn (zCm zL (a.length+limit.toNat +zdo.toNat +Int.toNat 0+Int.toNat 0+1) a limit zdo 0 0) λr10=>.k r10)
def zwx (zL:yC->Int->Int->Bool×Int) (a:yC) (limit:Int) (zdo:Int):=(zD3 zL a limit zdo).fin default
theorem zWZ (zL:yC->Int->Int->Bool×Int) (z6J:SdP 48 (zvV zL)):SdP 48 (zvV (zwx zL)):=
 sT (cx':=(zoF zL)) (zi ⟨z6J,trivial⟩) call48 func48 (lOK (aC (z1e zL) (aC (z0z zL) (aC (zZx zL) (aC (zYZ zL) aN)))))
def z5J:Nat->(yC->Int->Int->Bool×Int)
 | 0=>λ_ _ _=>(false,default)
 | n+1=>zwx (z5J n)
def zqz (n:Nat):yC->Int->Int->Bool×Int:=z5J n
theorem zLy (n:Nat):zqz (n+1)=zwx (zqz n):=rfl
theorem zYg:∀ n,SdP 48 (zvV (zqz n))
 | 0=>zba call48 (λ_=>rfl)
 | n+1=>by
  have ih:=zYg n;exact zWZ _ (ih)
def zO5:yC->Int->Int->Bool×Int:=zqz 1000
def zL5:Ab.Spec ty:=zvV zO5
theorem z2P:SdP 48 zL5:=(zYg 1000)
abbrev zGd:=Int×yA×Int×Unit
def zOt (limit:Int) (l:yA) (i:Int):Wy zGd Unit (Bool⊕Unit):=.i (decide (i<Int.ofNat l.length)) (.i (decide (0<=i)&&decide (i<Int.ofNat l.length)) (.bn (zO5 (l.getD i.toNat default) limit 12) λr0=>.i (decide (r0>limit)) (.k (.inl false)) (.h (limit,l,(IntKind.i64.wrap (i+1)),()) ())) .d) (.k (.inr ()))
def z1z (x:zGd) (y:Unit):=zOt x.1 x.2.1 x.2.2.1
def zNr (n:Nat) (limit:Int) (l:yA) (i:Int):=zA (z1z) (.inl default) n (limit,l,i,()) ()
def zbf6:LL ty zGd:=za zj (za (lSl 23) (za zj zk))
def zbdY (x:zGd) (y:Unit):Nat:=(Int.toNat x.1+x.2.1.length+Int.toNat x.2.2.1+1)
def z2C:=zbY base 20 [(48,zL5)] [] [(2,(kpL [0,1,5]))] [(2,1,[]),(2,0,(kpL [4]))] [(2,spW zbf6 zbc9 (z1z) (.inl default) zRs zbdY)] []
theorem zbdm:zy z2C (lp (body f13) 0):=zm (id:=2) (hl:=rfl)
def z5I (limit:Int) (l:yA):Wy0 (Bool):=.bn (zNr (limit.toNat +l.length+Int.toNat 0+1) limit l 0) λr2=>.i (isL r2) (.k (getL r2)) (.k true)
def zAJ (limit:Int) (l:yA):=(z5I limit l).fin default
def zbgM:AL base (Int×yA×Unit):=zc (ze zf9) (zc (ze (vSl 23)) zo)
def zTV:=zh zbgM λx=>((zAJ x.1 x.2.1).1,zZL (zAJ x.1 x.2.1).2)
theorem zbau:SdP 13 zTV:=
 sT (cx':=z2C) (zi ⟨z2P,trivial⟩) call13 func13 (lOK (aC zbdm aN))
abbrev zzG:=yF×yF×Int×Bool×Int×Unit
abbrev zQA:=yF×yF×Int×Bool
abbrev zzu:=yF×yF×Int×Unit
def ztX (a:yF) (b:yF) (i:Int) (found:Bool) (k:Int):Wy zzG Unit zQA:=.i (decide (k<Int.ofNat b.length)) (.i (found) (.h (a,b,i,true,(IntKind.i64.wrap (k+1)),()) ()) (.i (decide (0<=i)&&decide (i<Int.ofNat a.length)) (.i (decide (0<=k)&&decide (k<Int.ofNat b.length)) (.h (a,b,i,((a.getD i.toNat default).Table==(b.getD k.toNat default).Table&&((a.getD i.toNat default).Seq==(b.getD k.toNat default).Seq&&true)),(IntKind.i64.wrap (k+1)),()) ()) .d) .d)) (.k (a,b,i,found))
def zF8 (x:zzG) (y:Unit):=ztX x.1 x.2.1 x.2.2.1 x.2.2.2.1 x.2.2.2.2.1
def zFg (n:Nat) (a:yF) (b:yF) (i:Int) (found:Bool) (k:Int):=zA (zF8) default n (a,b,i,found,k,()) ()
def z6x (r:zQA):LTree ty:=.done (.exit 2) [.sl 49 r.1,.sl 49 r.2.1,.lit (.int .i64 r.2.2.1),.lit (.bool r.2.2.2)] []
def z7P:LL ty zzG:=za (lSl 49) (za (lSl 49) (za zj (za zbow (za zj zk))))
def zug (a:yF) (b:yF) (i:Int):Wy zzu Unit (Bool⊕Unit):=.i (decide (i<Int.ofNat a.length)) (.bn (zFg (a.length+b.length+i.toNat +Int.toNat 0+1000) a b i false 0) λr0=>.i (!r0.2.2.2) (.k (.inl false)) (.h ((r0.1),(r0.2.1),(IntKind.i64.wrap (r0.2.2.1+1)),()) ())) (.k (.inr ()))
def zFZ (x:zzu) (y:Unit):=zug x.1 x.2.1 x.2.2.1
def zQ5 (n:Nat) (a:yF) (b:yF) (i:Int):=zA (zFZ) (.inl default) n (a,b,i,()) ()
def z9T:LL ty zzu:=za (lSl 49) (za (lSl 49) (za zj zk))
def z7k (x:zzG) (y:Unit):Nat:=(x.1.length+x.2.1.length+Int.toNat x.2.2.1+Int.toNat x.2.2.2.2.1+1000)
def z7v (x:zzu) (y:Unit):Nat:=(x.1.length+x.2.1.length+Int.toNat x.2.2.1+1000)
def zFH:=zbY base 34 [] [] [(2,(kpL [0,1,5])),(6,(kpL [0,1,5,6,7]))] [(2,1,[]),(2,0,(kpL [4])),(6,3,(kpL [0,1,5,6]))] [(6,spW z7P zbc9 (zF8) default z6x z7k),(2,spW z9T zbc9 (zFZ) (.inl default) zRs z7v)] []
theorem z7j:zy zFH (lp (body f80) 1):=zm (id:=6) (hl:=rfl)
theorem z57:zy zFH (lp (body f80) 0):=zm (id:=2) (hl:=rfl)
def zTy (a:yF) (b:yF):Wy0 (Bool):=.bn (zQ5 (a.length+b.length+Int.toNat 0+1000) a b 0) λr2=>.i (isL r2) (.k (getL r2)) (.k true)
def zA8 (a:yF) (b:yF):=(zTy a b).fin default
def zLD:=zh zBo λx=>((zA8 x.1 x.2.1).1,zZL (zA8 x.1 x.2.1).2)
theorem z1f:SdP 80 zLD:=
 sT (cx':=zFH) (zi trivial) call80 func80 (lOK (aC z57 (aC z7j aN)))
abbrev zvf:=yF×yB×Int×Unit
def zoW (s:yF) (l:yB) (i:Int):Wy zvf Unit (Bool⊕Unit):=.i (decide (i<Int.ofNat l.length)) (.i (decide (0<=i)&&decide (i<Int.ofNat l.length)) (.bn (zA8 (l.getD i.toNat default) s) λr0=>.i (r0) (.k (.inl true)) (.h (s,l,(IntKind.i64.wrap (i+1)),()) ())) .d) (.k (.inr ()))
def zCv (x:zvf) (y:Unit):=zoW x.1 x.2.1 x.2.2.1
def zLX (n:Nat) (s:yF) (l:yB) (i:Int):=zA (zCv) (.inl default) n (s,l,i,()) ()
def z4h:LL ty zvf:=za (lSl 49) (za (lSl 43) (za zj zk))
def z1d (x:zvf) (y:Unit):Nat:=(x.1.length+x.2.1.length+Int.toNat x.2.2.1+1000)
def zLT:=zbY base 18 [(80,zLD)] [] [(2,(kpL [0,1,5]))] [(2,1,[]),(2,0,(kpL [4]))] [(2,spW z4h zbc9 (zCv) (.inl default) zRs z1d)] []
theorem z05:zy zLT (lp (body f28) 0):=zm (id:=2) (hl:=rfl)
def zNX (s:yF) (l:yB):Wy0 (Bool):=.bn (zLX (s.length+l.length+Int.toNat 0+1000) s l 0) λr2=>.i (isL r2) (.k (getL r2)) (.k false)
def zvC (s:yF) (l:yB):=(zNX s l).fin default
def z7p:AL base (yF×yB×Unit):=zc (ze (vSl 49)) (zc (ze (vSl 43)) zo)
def zGX:=zh z7p λx=>((zvC x.1 x.2.1).1,zZL (zvC x.1 x.2.1).2)
theorem zWF:SdP 28 zGX:=
 sT (cx':=zLT) (zi ⟨z1f,trivial⟩) call28 func28 (lOK (aC z05 aN))
def zY8 (r:yF):ARes ty:=⟨[.pure (.sl 49 r)],[]⟩
def zoN (F:yC->Bool×yF):Ab.Spec ty:=zh z0t λx=>((F x.1).1,zY8 (F x.1).2)
abbrev zFB:=yF×Unit×Int×Unit
abbrev zRl:=yF×Int×RowID
def ztV (l:yF) (i:Int) (id:RowID):Wy zFB (RowID×Unit) zRl:=.i (decide (i<Int.ofNat l.length)) (.i (decide (0<=i)&&decide (i<Int.ofNat l.length)) (.bn (zh0 (l.getD i.toNat default) id) λr0=>.i (decide (r0<0)) (.h (l,(),(IntKind.i64.wrap (i+1)),()) (id,())) (.k (l,i,id))) .d) (.k (l,i,id))
def zFD (x:zFB) (y:RowID×Unit):=ztV x.1 x.2.2.1 y.1
def zRk (n:Nat) (l:yF) (i:Int) (id:RowID):=zA (zFD) default n (l,(),i,()) (id,())
def z6W (r:zRl):LTree ty:=.done (.exit 0) [.sl 49 r.1,.ptr 184 0,.lit (.int .i64 r.2.1)] [.box (base.enc 49 r.2.2) false]
def z96:LL ty zFB:=za (lSl 49) (za (zeb 184 0) (za zj zk))
def zQP:=zbY base 46 [(105,znQ)] [] [(2,(kpL [0,3,5]))] [(2,1,(kpL [0,3,5]))] [(2,spW z96 zA5 (zFD) default z6W λx y=>(x.1.length+Int.toNat x.2.2.1+1))] []
theorem z7I:zy zQP (lp (body f147) 0):=zm (id:=2) (hl:=rfl)
def zT6 (l:yF) (id:RowID):Wy0 (yF):=.bn (zRk (l.length+Int.toNat 0+1) l 0 id) λr2=>.i (decide (r2.2.1<Int.ofNat r2.1.length)) (.i (decide (0<=r2.2.1)&&decide (r2.2.1<Int.ofNat r2.1.length)) (.i ((r2.1.getD r2.2.1.toNat default).Table==r2.2.2.Table&&((r2.1.getD r2.2.1.toNat default).Seq==r2.2.2.Seq&&true)) (.k r2.1) (.i (decide ((0:Int)<=(0:Int))&&decide (0<=r2.2.1)&&decide (r2.2.1<=Int.ofNat r2.1.length)) (.i (decide ((0+(List.take (r2.2.1.toNat - Int.toNat 0) (List.drop (Int.toNat 0) r2.1)).length)*16<=zP)) (.i (decide ((([]++List.take (r2.2.1.toNat - Int.toNat 0) (List.drop (Int.toNat 0) r2.1)).length+[r2.2.2].length)*16<=zP)) (.i (decide (0<=r2.2.1)&&decide (r2.2.1<=Int.ofNat r2.1.length)&&decide (Int.ofNat r2.1.length<=Int.ofNat r2.1.length)) (.i (decide ((([]++List.take (r2.2.1.toNat - Int.toNat 0) (List.drop (Int.toNat 0) r2.1)++[r2.2.2]).length+(List.take ((Int.ofNat r2.1.length).toNat - r2.2.1.toNat) (List.drop r2.2.1.toNat r2.1)).length)*16<=zP)) (.k ([]++List.take (r2.2.1.toNat - Int.toNat 0) (List.drop (Int.toNat 0) r2.1)++[r2.2.2]++List.take ((Int.ofNat r2.1.length).toNat - r2.2.1.toNat) (List.drop r2.2.1.toNat r2.1))) .d) .d) .d) .d) .d)) .d) (.i (decide ((0:Int)<=(0:Int))&&decide (0<=r2.2.1)&&decide (r2.2.1<=Int.ofNat r2.1.length)) (.i (decide ((0+(List.take (r2.2.1.toNat - Int.toNat 0) (List.drop (Int.toNat 0) r2.1)).length)*16<=zP)) (.i (decide ((([]++List.take (r2.2.1.toNat - Int.toNat 0) (List.drop (Int.toNat 0) r2.1)).length+[r2.2.2].length)*16<=zP)) (.i (decide (0<=r2.2.1)&&decide (r2.2.1<=Int.ofNat r2.1.length)&&decide (Int.ofNat r2.1.length<=Int.ofNat r2.1.length)) (.i (decide ((([]++List.take (r2.2.1.toNat - Int.toNat 0) (List.drop (Int.toNat 0) r2.1)++[r2.2.2]).length+(List.take ((Int.ofNat r2.1.length).toNat - r2.2.1.toNat) (List.drop r2.2.1.toNat r2.1)).length)*16<=zP)) (.k ([]++List.take (r2.2.1.toNat - Int.toNat 0) (List.drop (Int.toNat 0) r2.1)++[r2.2.2]++List.take ((Int.ofNat r2.1.length).toNat - r2.2.1.toNat) (List.drop r2.2.1.toNat r2.1))) .d) .d) .d) .d) .d)
def zwo (l:yF) (id:RowID):=(zT6 l id).fin default
def zCO:=zh zBT λx=>((zwo x.1 x.2.1).1,zY8 (zwo x.1 x.2.1).2)
theorem zJS:SdP 147 zCO:=
 sT (cx':=zQP) (zi ⟨zuC,trivial⟩) call147 func147 (lOK (aC z7I aN))
abbrev zBn:=yF×yF×Int×Unit
def zyC (a:yF) (b:yF) (i:Int):Wy zBn Unit (yF):=.i (decide (i<Int.ofNat b.length)) (.i (decide (0<=i)&&decide (i<Int.ofNat b.length)) (.bn (zwo a (b.getD i.toNat default)) λr0=>.h ((r0),b,(IntKind.i64.wrap (i+1)),()) ()) .d) (.k a)
def zK8 (x:zBn) (y:Unit):=zyC x.1 x.2.1 x.2.2.1
def zYo (n:Nat) (a:yF) (b:yF) (i:Int):=zA (zK8) default n (a,b,i,()) ()
def zbbf (r:yF):LTree ty:=.done (.exit 0) [.sl 49 r] []
def zbds:LL ty zBn:=za (lSl 49) (za (lSl 49) (za zj zk))
def zbaR (x:zBn) (y:Unit):Nat:=(x.1.length+x.2.1.length+Int.toNat x.2.2.1+1)
def zXL:=zbY base 19 [(147,zCO)] [] [(2,(kpL [0,1,5]))] [(2,1,(kpL [0]))] [(2,spW zbds zbc9 (zK8) default zbbf zbaR)] []
theorem zbaW:zy zXL (lp (body f146) 0):=zm (id:=2) (hl:=rfl)
def z2X (a:yF) (b:yF):Wy0 (yF):=.bn (zYo (a.length+b.length+Int.toNat 0+1) a b 0) λr2=>.k r2
def zBC (a:yF) (b:yF):=(z2X a b).fin default
def zQ9:=zh zBo λx=>((zBC x.1 x.2.1).1,zY8 (zBC x.1 x.2.1).2)
theorem z6l:SdP 146 zQ9:=
 sT (cx':=zXL) (zi ⟨zJS,trivial⟩) call146 func146 (lOK (aC zbaW aN))
abbrev zgi:=yC×yF×Int×Int×Unit×Int×Unit
abbrev zJ1:=yC×yF×Int×Int×At
abbrev zJX:=yC×yF×Int×Int
abbrev zue:=yC×yF×Int×Int×Unit
abbrev zIZ:=yC×yF×Int
abbrev ztk:=yC×yF×Int×Unit
def zks (zt:yC->Bool×yF) (a:yC) (out_:yF) (i:Int) (k:Int) (j:Int) (x_:At):Wy zgi (At×Unit) zJ1:=.i (decide (j<Int.ofNat x_.Ag.length)) (.i (decide (0<=j)&&decide (j<Int.ofNat x_.Ag.length)) (.bn (zt (x_.Ag.getD j.toNat default)) λr27=>.bn (zBC out_ r27) λr26=>.h (a,(r26),i,k,(),(IntKind.i64.wrap (j+1)),()) (x_,())) .d) (.k (a,out_,i,k,x_))
def zwe (zt:yC->Bool×yF) (x:zgi) (y:At×Unit):=zks zt x.1 x.2.1 x.2.2.1 x.2.2.2.1 x.2.2.2.2.2.1 y.1
def znK (zt:yC->Bool×yF) (n:Nat) (a:yC) (out_:yF) (i:Int) (k:Int) (j:Int) (x_:At):=zA (zwe zt) default n (a,out_,i,k,(),j,()) (x_,())
def zSd (r:zJ1):LTree ty:=.done (.exit 4) [.sl 28 r.1,.sl 49 r.2.1,.lit (.int .i64 r.2.2.1),.lit (.int .i64 r.2.2.2.1),.ptr 296 0] [.box (base.enc 67 r.2.2.2.2) false]
def zUp:LL ty zgi:=za (lSl 28) (za (lSl 49) (za zj (za zj (za (zeb 296 0) (za zj zk)))))
def zvW (zt:yC->Bool×yF) (a:yC) (out_:yF) (i:Int) (k:Int) (j:Int) (x_:At):Wy zgi (At×Unit) zJX:=.i (decide (j<Int.ofNat x_.Items.length)) (.i (decide (0<=j)&&decide (j<Int.ofNat x_.Items.length)) (.bn (zt (x_.Items.getD j.toNat default).Ann) λr31=>.bn (zBC out_ r31) λr30=>.h (a,(r30),i,k,(),(IntKind.i64.wrap (j+1)),()) (x_,())) .d) (.k (a,out_,i,k))
def zEH (zt:yC->Bool×yF) (x:zgi) (y:At×Unit):=zvW zt x.1 x.2.1 x.2.2.1 x.2.2.2.1 x.2.2.2.2.2.1 y.1
def zvE (zt:yC->Bool×yF) (n:Nat) (a:yC) (out_:yF) (i:Int) (k:Int) (j:Int) (x_:At):=zA (zEH zt) default n (a,out_,i,k,(),j,()) (x_,())
def zSm (r:zJX):LTree ty:=.done (.exit 6) [.sl 28 r.1,.sl 49 r.2.1,.lit (.int .i64 r.2.2.1),.lit (.int .i64 r.2.2.2)] []
def zlA (zt:yC->Bool×yF) (a:yC) (out_:yF) (i:Int) (k:Int):Wy zue Unit zIZ:=.i (decide (0<=i)&&decide (i<Int.ofNat a.length)) (.i (decide (k<Int.ofNat (a.getD i.toNat default).Fs.length)) (.i (decide (0<=i)&&decide (i<Int.ofNat a.length)) (.i (decide (0<=k)&&decide (k<Int.ofNat (a.getD i.toNat default).Fs.length)) (.i (((a.getD i.toNat default).Fs.getD k.toNat default).At.Kind==0) (.bn (zwo out_ ((a.getD i.toNat default).Fs.getD k.toNat default).At.Row) λr36=>.bn (znK zt ((a.length+r36.length+i.toNat +k.toNat +Int.toNat 0+((a.getD i.toNat default).Fs.getD k.toNat default).At.Ag.length+((a.getD i.toNat default).Fs.getD k.toNat default).At.Items.length+1)+zbD a) a r36 i k 0 (At.mk ((a.getD i.toNat default).Fs.getD k.toNat default).At.Kind ((a.getD i.toNat default).Fs.getD k.toNat default).At.Row ((a.getD i.toNat default).Fs.getD k.toNat default).At.Ag ((a.getD i.toNat default).Fs.getD k.toNat default).At.Func ((a.getD i.toNat default).Fs.getD k.toNat default).At.Items ((a.getD i.toNat default).Fs.getD k.toNat default).At.Op ((a.getD i.toNat default).Fs.getD k.toNat default).At.Bd)) λr35=>.bn (zvE zt ((r35.1.length+r35.2.1.length+r35.2.2.1.toNat +r35.2.2.2.1.toNat +Int.toNat 0+r35.2.2.2.2.Ag.length+r35.2.2.2.2.Items.length+1)+zbD r35.1) r35.1 r35.2.1 r35.2.2.1 r35.2.2.2.1 0 (At.mk r35.2.2.2.2.Kind r35.2.2.2.2.Row r35.2.2.2.2.Ag r35.2.2.2.2.Func r35.2.2.2.2.Items r35.2.2.2.2.Op r35.2.2.2.2.Bd)) λr34=>.h ((r34.1),(r34.2.1),(r34.2.2.1),(IntKind.i64.wrap (r34.2.2.2+1)),()) ()) (.bn (znK zt ((a.length+out_.length+i.toNat +k.toNat +Int.toNat 0+((a.getD i.toNat default).Fs.getD k.toNat default).At.Ag.length+((a.getD i.toNat default).Fs.getD k.toNat default).At.Items.length+1)+zbD a) a out_ i k 0 (At.mk ((a.getD i.toNat default).Fs.getD k.toNat default).At.Kind ((a.getD i.toNat default).Fs.getD k.toNat default).At.Row ((a.getD i.toNat default).Fs.getD k.toNat default).At.Ag ((a.getD i.toNat default).Fs.getD k.toNat default).At.Func ((a.getD i.toNat default).Fs.getD k.toNat default).At.Items ((a.getD i.toNat default).Fs.getD k.toNat default).At.Op ((a.getD i.toNat default).Fs.getD k.toNat default).At.Bd)) λr38=>.bn (zvE zt ((r38.1.length+r38.2.1.length+r38.2.2.1.toNat +r38.2.2.2.1.toNat +Int.toNat 0+r38.2.2.2.2.Ag.length+r38.2.2.2.2.Items.length+1)+zbD r38.1) r38.1 r38.2.1 r38.2.2.1 r38.2.2.2.1 0 (At.mk r38.2.2.2.2.Kind r38.2.2.2.2.Row r38.2.2.2.2.Ag r38.2.2.2.2.Func r38.2.2.2.2.Items r38.2.2.2.2.Op r38.2.2.2.2.Bd)) λr37=>.h ((r37.1),(r37.2.1),(r37.2.2.1),(IntKind.i64.wrap (r37.2.2.2+1)),()) ())) .d) .d) (.k (a,out_,i))) .d
def zxE (zt:yC->Bool×yF) (x:zue) (y:Unit):=zlA zt x.1 x.2.1 x.2.2.1 x.2.2.2.1
def zFd (zt:yC->Bool×yF) (n:Nat) (a:yC) (out_:yF) (i:Int) (k:Int):=zA (zxE zt) default n (a,out_,i,k,()) ()
def zUA (r:zIZ):LTree ty:=.done (.exit 2) [.sl 28 r.1,.sl 49 r.2.1,.lit (.int .i64 r.2.2)] []
def zVJ:LL ty zue:=za (lSl 28) (za (lSl 49) (za zj (za zj zk)))
def zk7 (zt:yC->Bool×yF) (a:yC) (out_:yF) (i:Int):Wy ztk Unit (yF):=.i (decide (i<Int.ofNat a.length)) (.bn (zFd zt ((a.length+out_.length+i.toNat +Int.toNat 0+1)+zbD a) a out_ i 0) λr44=>.h ((r44.1),(r44.2.1),(IntKind.i64.wrap (r44.2.2+1)),()) ()) (.k out_)
def zxf (zt:yC->Bool×yF) (x:ztk) (y:Unit):=zk7 zt x.1 x.2.1 x.2.2.1
def zE8 (zt:yC->Bool×yF) (n:Nat) (a:yC) (out_:yF) (i:Int):=zA (zxf zt) default n (a,out_,i,()) ()
def zWl:LL ty ztk:=za (lSl 28) (za (lSl 49) (za zj zk))
def zST (x:zgi) (y:At×Unit):Nat:=((x.1.length+x.2.1.length+Int.toNat x.2.2.1+Int.toNat x.2.2.2.1+Int.toNat x.2.2.2.2.2.1+y.1.Ag.length+y.1.Items.length+1)+zbD x.1)
def zS3 (x:zue) (y:Unit):Nat:=((x.1.length+x.2.1.length+Int.toNat x.2.2.1+Int.toNat x.2.2.2.1+1)+zbD x.1)
def zVa (x:ztk) (y:Unit):Nat:=((x.1.length+x.2.1.length+Int.toNat x.2.2.1+1)+zbD x.1)
def zk9 (zt:yC->Bool×yF):=zbY base 74 [(78,(zoN zt)),(146,zQ9),(147,zCO)] [] [(3,[(0,.keep),(3,.sl 49),(4,.keep)]),(6,[(0,.keep),(3,.sl 49),(4,.keep),(5,.keep)]),(12,(kpL [0,3,4,5,6,7])),(16,(kpL [0,3,4,5,6,8]))] [(3,1,(kpL [3])),(6,3,(kpL [0,3,4])),(12,5,(kpL [0,3,4,5,6])),(16,7,(kpL [0,3,4,5]))] [(12,spW zUp zYU (zwe zt) default zSd zST),(16,spW zUp zYU (zEH zt) default zSm zST),(6,spW zVJ zbc9 (zxE zt) default zUA zS3),(3,spW zWl zbc9 (zxf zt) default zbbf zVa)] []
theorem zRH (zt:yC->Bool×yF):zy (zk9 zt) (lp (body f78) 2):=zm (id:=12) (hl:=rfl)
theorem zSz (zt:yC->Bool×yF):zy (zk9 zt) (lp (body f78) 3):=zm (id:=16) (hl:=rfl)
theorem zUi (zt:yC->Bool×yF):zy (zk9 zt) (lp (body f78) 1):=zm (id:=6) (hl:=rfl)
theorem zTr (zt:yC->Bool×yF):zy (zk9 zt) (lp (body f78) 0):=zm (id:=3) (hl:=rfl)
def zG8 (zt:yC->Bool×yF) (a:yC):Wy0 (yF):=.bn (zE8 zt ((a.length+0+Int.toNat 0+1)+zbD a) a [] 0) λr46=>.k r46
def zvA (zt:yC->Bool×yF) (a:yC):=(zG8 zt a).fin default
theorem zQc (zt:yC->Bool×yF) (zZy:SdP 78 (zoN zt)):SdP 78 (zoN (zvA zt)):=
 sT (cx':=(zk9 zt)) (zi ⟨zZy,z6l,zJS,trivial⟩) call78 func78 (lOK (aC (zTr zt) (aC (zUi zt) (aC (zRH zt) (aC (zSz zt) aN)))))
def zTo:Nat->(yC->Bool×yF)
 | 0=>λ_=>(false,default)
 | n+1=>zvA (zTo n)
def zbi (n:Nat):yC->Bool×yF:=zTo n
theorem zW3 (n:Nat):zbi (n+1)=zvA (zbi n):=rfl
theorem zO9:∀ n,SdP 78 (zoN (zbi n))
 | 0=>zba call78 (λ_=>rfl)
 | n+1=>by
  have ih:=zO9 n;exact zQc _ (ih)
def zFO:yC->Bool×yF:=zbi 1000
def zFC:Ab.Spec ty:=zoN zFO
theorem zU6:SdP 78 zFC:=(zO9 1000)
def z93:AL base (yC×yG×Unit):=zc (ze (vSl 28)) (zc (ze (vSl 51)) zo)
def zuh (F:yC->yG->Bool×(yC×Int)):Ab.Spec ty:=zh z93 λx=>((F x.1 x.2.1).1,zbdA (F x.1 x.2.1).2)
def zbf0:AL base (At×yG×Unit):=zc (ze (zcy 67)) (zc (ze (vSl 51)) zo)
def zGj (F:At->yG->Bool×(yC×Int)):Ab.Spec ty:=zh zbf0 λx=>((F x.1 x.2.1).1,zbdA (F x.1 x.2.1).2)
def zbaq:=zbt base 20 [(16,zhX),(77,zvZ),(100,zrH),(101,zmK),(102,zoe)]
def zT4 (a:yC):Wy0 (yC×Int):=.bn (zf4 a) λr2=>.i (!r2) (.k ([],1)) (.i (Int.ofNat a.length==0) (.k (zw2.2,0)) (.bn (ziV a) λr1=>.i (r1) (.k ([],0)) (.bn (znv (zmS (At.mk 3 (RowID.mk 0 0) [a] 0 [] 0 (Value.mk 0 0 (ByteArray.mk #[])))).2) λr0=>.k (r0.1,r0.2))))
def zAk (a:yC):=(zT4 a).fin default
def zL6:=zh z0t λx=>((zAk x.1).1,zbdA (zAk x.1).2)
theorem z01:SdP 215 zL6:=
 sT (cx':=zbaq) (zi ⟨zjq,zzD,zxH,zod,zrB,trivial⟩) call215 func215 (lOK aN) (sg:=⟨[.pure,.pure],[]⟩)
def zbaZ:=zbt base 34 [(16,zhX),(30,zzH),(101,zmK),(102,zoe)]
def zXY (a:yC) (b:yC):Wy0 (yC×Int):=.bn (zf4 a) λr3=>.i (!r3) (.k ([],1)) (.bn (zf4 b) λr2=>.i (!r2) (.k ([],1)) (.i (Int.ofNat b.length==0) (.k (a,0)) (.i (Int.ofNat a.length==0) (.k ([],0)) (.bn (zua a b) λr1=>.i (r1) (.k ([],0)) (.bn (znv (zmS (At.mk 1 (RowID.mk 0 0) [a,b] 0 [] 0 (Value.mk 0 0 (ByteArray.mk #[])))).2) λr0=>.k (r0.1,r0.2))))))
def zC2 (a:yC) (b:yC):=(zXY a b).fin default
def zOv:=zh zWi λx=>((zC2 x.1 x.2.1).1,zbdA (zC2 x.1 x.2.1).2)
theorem z3J:SdP 214 zOv:=
 sT (cx':=zbaZ) (zi ⟨zjq,zD2,zod,zrB,trivial⟩) call214 func214 (lOK aN) (sg:=⟨[.pure,.pure],[]⟩)
abbrev zBq:=yE×Unit×Int×Int×Unit
abbrev zi0:=yE×Unit
abbrev zS2:=yE×Int×Int×yE
abbrev zBJ:=yE×Unit×Int×Unit
def zvU (l:yE) (i:Int) (k:Int) (out_:yE):Wy zBq zi0 zS2:=.i (decide (k<Int.ofNat out_.length)) (.i (decide (0<=k)&&decide (k<=IntKind.i64.wrap (k+1))&&decide (IntKind.i64.wrap (k+1)<=Int.ofNat out_.length)) (.i (decide (0<=i)&&decide (i<=IntKind.i64.wrap (i+1))&&decide (IntKind.i64.wrap (i+1)<=Int.ofNat l.length)) (.bn (zt7 (List.take ((IntKind.i64.wrap (k+1)).toNat - k.toNat) (List.drop k.toNat out_)) (List.take ((IntKind.i64.wrap (i+1)).toNat - i.toNat) (List.drop i.toNat l))) λr0=>.i (decide (r0<=0)) (.h (l,(),i,(IntKind.i64.wrap (k+1)),()) (out_,())) (.k (l,i,k,out_))) .d) .d) (.k (l,i,k,out_))
def zH1 (x:zBq) (y:zi0):=zvU x.1 x.2.2.1 x.2.2.2.1 y.1
def zUJ (n:Nat) (l:yE) (i:Int) (k:Int) (out_:yE):=zA (zH1) default n (l,(),i,k,()) (out_,())
def z8G (r:zS2):LTree ty:=.done (.exit 2) [.sl 100 r.1,.own 224,.lit (.int .i64 r.2.1),.lit (.int .i64 r.2.2.1)] [.arr 100 r.2.2.2 false]
def zbbi:LL ty zBq:=za (lSl 100) (za (zdK 224) (za zj (za zj zk)))
def zbbJ:BL ty zi0:=zdO 100 false (z8)
def zvT (l:yE) (i:Int) (out_:yE):Wy zBJ zi0 (yE):=.i (decide (i<Int.ofNat l.length)) (.i (decide (0<=i)&&decide (i<Int.ofNat l.length)) (.i (Int.ofNat (l.getD i.toNat default).Ann.length==0) (.h (l,(),(IntKind.i64.wrap (i+1)),()) (out_,())) (.bn (zUJ (l.length+i.toNat +Int.toNat 0+out_.length+1) l i 0 out_) λr2=>.i (decide ((0:Int)<=(0:Int))&&decide (0<=r2.2.2.1)&&decide (r2.2.2.1<=Int.ofNat r2.2.2.2.length)) (.i (decide ((0+(List.take (r2.2.2.1.toNat - Int.toNat 0) (List.drop (Int.toNat 0) r2.2.2.2)).length)*56<=zP)) (.i (decide (0<=r2.2.1)&&decide (r2.2.1<Int.ofNat r2.1.length)) (.i (decide ((([]++List.take (r2.2.2.1.toNat - Int.toNat 0) (List.drop (Int.toNat 0) r2.2.2.2)).length+[r2.1.getD r2.2.1.toNat default].length)*56<=zP)) (.i (decide (0<=r2.2.2.1)&&decide (r2.2.2.1<=Int.ofNat r2.2.2.2.length)&&decide (Int.ofNat r2.2.2.2.length<=Int.ofNat r2.2.2.2.length)) (.i (decide ((([]++List.take (r2.2.2.1.toNat - Int.toNat 0) (List.drop (Int.toNat 0) r2.2.2.2)++[r2.1.getD r2.2.1.toNat default]).length+(List.take ((Int.ofNat r2.2.2.2.length).toNat - r2.2.2.1.toNat) (List.drop r2.2.2.1.toNat r2.2.2.2)).length)*56<=zP)) (.h ((r2.1),(),(IntKind.i64.wrap (r2.2.1+1)),()) (([]++List.take (r2.2.2.1.toNat - Int.toNat 0) (List.drop (Int.toNat 0) r2.2.2.2)++[r2.1.getD r2.2.1.toNat default]++List.take ((Int.ofNat r2.2.2.2.length).toNat - r2.2.2.1.toNat) (List.drop r2.2.2.1.toNat r2.2.2.2)),())) .d) .d) .d) .d) .d) .d)) .d) (.k out_)
def zHm (x:zBJ) (y:zi0):=zvT x.1 x.2.2.1 y.1
def zTs (n:Nat) (l:yE) (i:Int) (out_:yE):=zA (zHm) default n (l,(),i,()) (out_,())
def z9S (r:yE):LTree ty:=.done (.exit 0) [.own 224] [.arr 100 r false]
def zbb2:LL ty zBJ:=za (lSl 100) (za (zdK 224) (za zj zk))
def z7Z (x:zBq) (y:zi0):Nat:=(x.1.length+Int.toNat x.2.2.1+Int.toNat x.2.2.2.1+y.1.length+1)
def zbag (x:zBJ) (y:zi0):Nat:=(x.1.length+Int.toNat x.2.2.1+y.1.length+1)
def zHS:=zbY base 56 [(106,zsC)] [] [(3,(kpL [0,3,4])),(7,(kpL [0,3,4,5]))] [(3,1,(kpL [3])),(7,3,(kpL [0,3,4,5]))] [(7,spW zbbi zbbJ (zH1) default z8G z7Z),(3,spW zbb2 zbbJ (zHm) default z9S zbag)] []
theorem z9r:zy zHS (lp (body f240) 1):=zm (id:=7) (hl:=rfl)
theorem z89:zy zHS (lp (body f240) 0):=zm (id:=3) (hl:=rfl)
def zX4 (l:yE):Wy0 (yE):=.bn (zTs (l.length+Int.toNat 0+0+1) l 0 []) λr4=>.k r4
def zCV (l:yE):=(zX4 l).fin default
def zbc8:AL base zi0:=zc (ze (vSl 100)) zo
def zNK:=zh zbc8 λx=>((zCV x.1).1,zVI (zCV x.1).2)
theorem z4t:SdP 240 zNK:=
 sT (cx':=zHS) (zi ⟨zAf,trivial⟩) call240 func240 (lOK (aC z89 (aC z9r aN))) (sg:=⟨[.own 100],[]⟩)
def z6n:=zbt base 30 []
def zQH (op:Int) (sign:Int):Wy0 (Bool):=.i (op==5) (.k (sign==0)) (.i (op==6) (.k (sign != 0)) (.i (op==7) (.k (decide (sign<0))) (.i (op==8) (.k (decide (sign<=0))) (.i (op==9) (.k (decide (sign>0))) (.i (op==10) (.k (decide (sign≥0))) (.k false))))))
def zyf (op:Int) (sign:Int):=(zQH op sign).fin default
def zJk:=zh zYS λx=>((zyf x.1 x.2.1).1,zZL (zyf x.1 x.2.1).2)
theorem zYF:SdP 241 zJk:=
 sT (cx':=z6n) (zi trivial) call241 func241 (lOK aN)
abbrev zDC:=Int×yE×Int×Unit×Int×Unit
abbrev zX8:=Int⊕(Int×yE×Int×Value)
def zyb (fn:Int) (items:yE) (op:Int) (i:Int) (bound:Value):Wy zDC (Value×Unit) zX8:=.i (decide (i<Int.ofNat items.length)) (.i (decide (0<=i)&&decide (i<Int.ofNat items.length)) (.bn (zf4 (items.getD i.toNat default).Ann) λr0=>.i (!r0) (.k (.inl 1)) (.h (fn,items,op,(),(IntKind.i64.wrap (i+1)),()) (bound,()))) .d) (.k (.inr (fn,items,op,bound)))
def zK2 (x:zDC) (y:Value×Unit):=zyb x.1 x.2.1 x.2.2.1 x.2.2.2.2.1 y.1
def zYc (n:Nat) (fn:Int) (items:yE) (op:Int) (i:Int) (bound:Value):=zA (zK2) (.inl default) n (fn,items,op,(),i,()) (bound,())
def zbb0 (r:zX8):LTree ty:=.ite (isL r) (.done .ret [.lit (.slice none 0 0),.lit (.int .i64 (getL r))] []) (.done (.exit 0) [.lit (.int .i64 (getR r).1),.sl 100 (getR r).2.1,.lit (.int .i64 (getR r).2.2.1),.ptr 220 0] [.box (base.enc 65 (getR r).2.2.2) false])
def zbd2:LL ty zDC:=za zj (za (lSl 100) (za zj (za (zeb 220 0) (za zj zk))))
def zba2 (x:zDC) (y:Value×Unit):Nat:=(Int.toNat x.1+x.2.1.length+Int.toNat x.2.2.1+Int.toNat x.2.2.2.2.1+1)
def zX5:=zbY base 55 [(16,zhX),(77,zvZ),(91,zjp),(101,zmK),(102,zoe),(111,zDN),(240,zNK),(241,zJk)] [] [(4,(kpL [0,1,2,7,10]))] [(4,1,(kpL [0,1,2,7])),(4,0,(kpL [8,9]))] [(4,spW zbd2 zbaO (zK2) (.inl default) zbb0 zba2)] []
theorem zbaJ:zy zX5 (lp (body f216) 0):=zm (id:=4) (hl:=rfl)
def zZ9 (fn:Int) (items:yE) (op:Int) (bound:Value):Wy0 (yC×Int):=.bn (zyV fn items op bound) λr7=>.i (!r7) (.k ([],1)) (.bn (zYc (fn.toNat +items.length+op.toNat +Int.toNat 0+1) fn items op 0 bound) λr6=>.i (isL r6) (.k ([],getL r6)) (.bn (zCV (getR r6).2.1) λr5=>.i (Int.ofNat r5.length==0) (.i ((getR r6).1==0) (.bn (zcZ 0 (getR r6).2.2.2.Int) λr3=>.bn (zyf (getR r6).2.2.1 r3) λr2=>.i (r2) (.k (zw2.2,0)) (.k ([],0))) (.k ([],0))) (.bn (znv (zmS (At.mk 4 (RowID.mk 0 0) [] (getR r6).1 r5 (getR r6).2.2.1 (getR r6).2.2.2)).2) λr4=>.k (r4.1,r4.2))))
def zBI (fn:Int) (items:yE) (op:Int) (bound:Value):=(zZ9 fn items op bound).fin default
def zQv:=zh zXp λx=>((zBI x.1 x.2.1 x.2.2.1 x.2.2.2.1).1,zbdA (zBI x.1 x.2.1 x.2.2.1 x.2.2.2.1).2)
theorem z7a:SdP 216 zQv:=
 sT (cx':=zX5) (zi ⟨zjq,zzD,zku,zod,zrB,zL1,z4t,zYF,trivial⟩) call216 func216 (lOK (aC zbaJ aN)) (sg:=⟨[.pure,.pure],[]⟩)
abbrev zIc:=yG×Unit×Int×Unit
abbrev zUL:=(yC×Bool)⊕Unit
def zIa (l:yG) (i:Int) (id:RowID):Wy zIc (RowID×Unit) zUL:=.i (decide (i<Int.ofNat l.length)) (.i (decide (0<=i)&&decide (i<Int.ofNat l.length)) (.i ((l.getD i.toNat default).Row.Table==id.Table&&((l.getD i.toNat default).Row.Seq==id.Seq&&true)) (.i (decide (0<=i)&&decide (i<Int.ofNat l.length)) (.k (.inl ((l.getD i.toNat default).To,true))) .d) (.h (l,(),(IntKind.i64.wrap (i+1)),()) (id,()))) .d) (.k (.inr ()))
def zUe (x:zIc) (y:RowID×Unit):=zIa x.1 x.2.2.1 y.1
def zHA (n:Nat) (l:yG) (i:Int) (id:RowID):=zA (zUe) (.inl default) n (l,(),i,()) (id,())
def z9L (r:zUL):LTree ty:=.ite (isL r) (.done .ret [.sl 28 ((getL r).1),.lit (.bool ((getL r).2))] []) (.done (.exit 0) [] [])
def zbbR:LL ty zIc:=za (lSl 51) (za (zeb 100 0) (za zj zk))
def zUf:=zbY base 25 [] [] [(2,(kpL [0,3,6]))] [(2,1,[]),(2,0,(kpL [4,5]))] [(2,spW zbbR zA5 (zUe) (.inl default) z9L λx y=>(x.1.length+Int.toNat x.2.2.1+1))] []
theorem z9h:zy zUf (lp (body f213) 0):=zm (id:=2) (hl:=rfl)
def zYk (l:yG) (id:RowID):Wy0 (yC×Bool):=.bn (zHA (l.length+Int.toNat 0+1) l 0 id) λr0=>.i (isL r0) (.k ((getL r0).1,(getL r0).2)) (.k ([],false))
def zC9 (l:yG) (id:RowID):=(zYk l id).fin default
def z83 (r:yC×Bool):ARes ty:=⟨[.pure (.sl 28 r.1),.pure (.lit (.bool r.2))],[]⟩
def zbdK:AL base (yG×RowID×Unit):=zc (ze (vSl 51)) (zc (ze (zcy 49)) zo)
def zPb:=zh zbdK λx=>((zC9 x.1 x.2.1).1,z83 (zC9 x.1 x.2.1).2)
theorem z4L:SdP 213 zPb:=
 sT (cx':=zUf) (zi trivial) call213 func213 (lOK (aC z9h aN)) (sg:=⟨[.pure,.pure],[]⟩)
end Go.Proofs.YtljlfiomikifjaaGreatDoor
end
