/- Texts of this claim, joined (the program, its functions in plain words, and what they compute). -/
import Derived.Test.YtljlfiomikifjaaGreatDoorGC5
set_option autoImplicit false
set_option linter.unusedVariables false
set_option linter.unusedSectionVars false
set_option linter.unusedSimpArgs false
set_option maxRecDepth 1000000
set_option maxHeartbeats 0
noncomputable section
namespace Go.Proofs.YtljlfiomikifjaaGreatDoor
open Go Go.Ab
open Go.Proofs.Tryz
abbrev zzO:=yC×Int×Unit×Int×Unit
abbrev zQv:=Bool⊕(yC×Int)
abbrev zzI:=yC×Int×Unit
def znV (z6:At->Bool×Bool) (a:yC) (i:Int) (k:Int) (t:Term):Wy zzO (Term×Unit) zQv:=.i (decide (k<Int.ofNat t.Fs.length)) (.i (decide (0<=k)&&decide (k<Int.ofNat t.Fs.length)) (.i (decide ((t.Fs.getD k.toNat default).Exp<1)) (.k (.inl false)) (.i (decide ((t.Fs.getD k.toNat default).Exp>1)) (.i (decide ((t.Fs.getD k.toNat default).At.Kind≥3)) (.k (.inl false)) (.bn (z6 (At.mk (t.Fs.getD k.toNat default).At.Kind (t.Fs.getD k.toNat default).At.Row (t.Fs.getD k.toNat default).At.Ag (t.Fs.getD k.toNat default).At.Func (t.Fs.getD k.toNat default).At.Items (t.Fs.getD k.toNat default).At.Op (t.Fs.getD k.toNat default).At.Bd)) λr1=>.i (!r1) (.k (.inl false)) (.i (decide (k>0)) (.i (decide (0<=IntKind.i64.wrap (k - 1))&&decide (IntKind.i64.wrap (k - 1)<Int.ofNat t.Fs.length)) (.bn (zlf (At.mk (t.Fs.getD (IntKind.i64.wrap (k - 1)).toNat default).At.Kind (t.Fs.getD (IntKind.i64.wrap (k - 1)).toNat default).At.Row (t.Fs.getD (IntKind.i64.wrap (k - 1)).toNat default).At.Ag (t.Fs.getD (IntKind.i64.wrap (k - 1)).toNat default).At.Func (t.Fs.getD (IntKind.i64.wrap (k - 1)).toNat default).At.Items (t.Fs.getD (IntKind.i64.wrap (k - 1)).toNat default).At.Op (t.Fs.getD (IntKind.i64.wrap (k - 1)).toNat default).At.Bd) (At.mk (t.Fs.getD k.toNat default).At.Kind (t.Fs.getD k.toNat default).At.Row (t.Fs.getD k.toNat default).At.Ag (t.Fs.getD k.toNat default).At.Func (t.Fs.getD k.toNat default).At.Items (t.Fs.getD k.toNat default).At.Op (t.Fs.getD k.toNat default).At.Bd)) λr0=>.i (decide (r0≥0)) (.k (.inl false)) (.h (a,i,(),(IntKind.i64.wrap (k+1)),()) (t,()))) .d) (.h (a,i,(),(IntKind.i64.wrap (k+1)),()) (t,()))))) (.bn (z6 (At.mk (t.Fs.getD k.toNat default).At.Kind (t.Fs.getD k.toNat default).At.Row (t.Fs.getD k.toNat default).At.Ag (t.Fs.getD k.toNat default).At.Func (t.Fs.getD k.toNat default).At.Items (t.Fs.getD k.toNat default).At.Op (t.Fs.getD k.toNat default).At.Bd)) λr3=>.i (!r3) (.k (.inl false)) (.i (decide (k>0)) (.i (decide (0<=IntKind.i64.wrap (k - 1))&&decide (IntKind.i64.wrap (k - 1)<Int.ofNat t.Fs.length)) (.bn (zlf (At.mk (t.Fs.getD (IntKind.i64.wrap (k - 1)).toNat default).At.Kind (t.Fs.getD (IntKind.i64.wrap (k - 1)).toNat default).At.Row (t.Fs.getD (IntKind.i64.wrap (k - 1)).toNat default).At.Ag (t.Fs.getD (IntKind.i64.wrap (k - 1)).toNat default).At.Func (t.Fs.getD (IntKind.i64.wrap (k - 1)).toNat default).At.Items (t.Fs.getD (IntKind.i64.wrap (k - 1)).toNat default).At.Op (t.Fs.getD (IntKind.i64.wrap (k - 1)).toNat default).At.Bd) (At.mk (t.Fs.getD k.toNat default).At.Kind (t.Fs.getD k.toNat default).At.Row (t.Fs.getD k.toNat default).At.Ag (t.Fs.getD k.toNat default).At.Func (t.Fs.getD k.toNat default).At.Items (t.Fs.getD k.toNat default).At.Op (t.Fs.getD k.toNat default).At.Bd)) λr2=>.i (decide (r2≥0)) (.k (.inl false)) (.h (a,i,(),(IntKind.i64.wrap (k+1)),()) (t,()))) .d) (.h (a,i,(),(IntKind.i64.wrap (k+1)),()) (t,())))))) .d) (.k (.inr (a,i)))
def zAP (z6:At->Bool×Bool) (x:zzO) (y:Term×Unit):=znV z6 x.1 x.2.1 x.2.2.2.1 y.1
def zAJ (z6:At->Bool×Bool) (n:Nat) (a:yC) (i:Int) (k:Int) (t:Term):=zH (zAP z6) (.inl default) n (a,i,(),k,()) (t,())
def zXN (r:zQv):LTree ty:=.ite (isL r) (.done .ret [.lit (.bool (getL r))] []) (.done (.exit 2) [.sl 28 (getR r).1,.lit (.int .i64 (getR r).2)] [])
def z0g:LL ty zzO:=za (lSl 28) (za zj (za (zfa 372 0) (za zj zm)))
def zqo (z6:At->Bool×Bool) (a:yC) (i:Int):Wy zzI Unit (Bool⊕Unit):=.i (decide (i<Int.ofNat a.length)) (.i (decide (0<=i)&&decide (i<Int.ofNat a.length)) (.i (decide ((a.getD i.toNat default).Cf<1)) (.k (.inl false)) (.i (decide ((a.getD i.toNat default).Cf>1152921504606846976)) (.k (.inl false)) (.i (decide (i>0)) (.i (decide (0<=IntKind.i64.wrap (i - 1))&&decide (IntKind.i64.wrap (i - 1)<Int.ofNat a.length)) (.bn (zkv (a.getD (IntKind.i64.wrap (i - 1)).toNat default).Fs (a.getD i.toNat default).Fs) λr9=>.i (decide (r9≥0)) (.k (.inl false)) (.bn (zAJ z6 ((a.length+i.toNat +Int.toNat 0+(a.getD i.toNat default).Fs.length+1)+zdR a) a i 0 (a.getD i.toNat default)) λr8=>.i (isL r8) (.k (.inl (getL r8))) (.h ((getR r8).1,(IntKind.i64.wrap ((getR r8).2+1)),()) ()))) .d) (.bn (zAJ z6 ((a.length+i.toNat +Int.toNat 0+(a.getD i.toNat default).Fs.length+1)+zdR a) a i 0 (a.getD i.toNat default)) λr10=>.i (isL r10) (.k (.inl (getL r10))) (.h ((getR r10).1,(IntKind.i64.wrap ((getR r10).2+1)),()) ()))))) .d) (.k (.inr ()))
def zBP (z6:At->Bool×Bool) (x:zzI) (y:Unit):=zqo z6 x.1 x.2.1
def zLb (z6:At->Bool×Bool) (n:Nat) (a:yC) (i:Int):=zH (zBP z6) (.inl default) n (a,i,()) ()
def z2L:LL ty zzI:=za (lSl 28) (za zj zm)
def zWW (x:zzO) (y:Term×Unit):Nat:=((x.1.length+Int.toNat x.2.1+Int.toNat x.2.2.2.1+y.1.Fs.length+1)+zdR x.1)
def zZY (x:zzI) (y:Unit):Nat:=((x.1.length+Int.toNat x.2.1+1)+zdR x.1)
def zBU (z6:At->Bool×Bool):=zbZ base 93 [(34,zoW),(53,ztH),(54,zEi),(55,(zmh z6))] [] [(4,(kpL [0,3])),(10,(kpL [0,3,4,5]))] [(4,1,[]),(4,0,(kpL [2])),(10,3,(kpL [0,3])),(10,0,(kpL [2]))] [(10,spW z0g zRb (zAP z6) (.inl default) zXN zWW),(4,spW z2L z8a (zBP z6) (.inl default) zOn zZY)] []
theorem zXf (z6:At->Bool×Bool):zD (zBU z6) (lp (body f16) 1):=zq (id:=10) (hl:=rfl)
theorem zZL (z6:At->Bool×Bool):zD (zBU z6) (lp (body f16) 0):=zq (id:=4) (hl:=rfl)
def zN7 (z6:At->Bool×Bool) (a:yC):Wy0 (Bool):=.bn (zzS a) λr15=>.i (!r15) (.k false) (.bn (zLb z6 ((a.length+Int.toNat 0+1)+zdR a) a 0) λr14=>.i (isL r14) (.k (getL r14)) (.k true))
def zxi (z6:At->Bool×Bool) (a:yC):=(zN7 z6 a).fin default
theorem zUZ (z6:At->Bool×Bool) (zUh:SdP 55 (zmh z6)):SdP 16 (zhO (zxi z6)):=
 sT (cx':=(zBU z6)) (zi ⟨zwT,zAk,zLN,zUh,trivial⟩) call16 func16 (lOK (aC (zZL z6) (aC (zXf z6) aN)))
def z8e:=zbq base 9 [(89,zGu)]
def zVP (a:yC) (b:yC):Wy0 (Bool):=.bn (zH9 a b) λr0=>.k (r0==0)
def zwB (a:yC) (b:yC):=(zVP a b).fin default
def zDV:=zh zSZ λx=>((zwB x.1 x.2.1).1,zVf (zwB x.1 x.2.1).2)
theorem zLs:SdP 30 zDV:=
 sT (cx':=z8e) (zi ⟨zU8,trivial⟩) call30 func30 (lOK aN)
def z4n:=zbq base 42 []
def zPN (a:yC):Wy0 (Bool):=.i (Int.ofNat a.length==1) (.i (decide ((0:Int)<=(0:Int))&&decide (0<Int.ofNat a.length)) (.i ((a.getD (Int.toNat 0) default).Cf==1) (.i (decide ((0:Int)<=(0:Int))&&decide (0<Int.ofNat a.length)) (.i (Int.ofNat (a.getD (Int.toNat 0) default).Fs.length==1) (.i (decide ((0:Int)<=(0:Int))&&decide (0<Int.ofNat a.length)) (.i (decide ((0:Int)<=(0:Int))&&decide (0<Int.ofNat (a.getD (Int.toNat 0) default).Fs.length)) (.i (decide (((a.getD (Int.toNat 0) default).Fs.getD (Int.toNat 0) default).At.Kind≥2)) (.i (decide ((0:Int)<=(0:Int))&&decide (0<Int.ofNat a.length)) (.i (decide ((0:Int)<=(0:Int))&&decide (0<Int.ofNat (a.getD (Int.toNat 0) default).Fs.length)) (.k (((a.getD (Int.toNat 0) default).Fs.getD (Int.toNat 0) default).Exp==1)) .d) .d) (.k false)) .d) .d) (.k false)) .d) (.k false)) .d) (.k false)
def zqi (a:yC):=(zPN a).fin default
def zAK:=zh zWH λx=>((zqi x.1).1,zVf (zqi x.1).2)
theorem zGv:SdP 99 zAK:=
 sT (cx':=z4n) (zi trivial) call99 func99 (lOK aN)
abbrev zAR:=yC×Int×Unit
def zog (a:yC) (i:Int):Wy zAR Unit (Bool⊕Unit):=.i (decide (i<Int.ofNat a.length)) (.i (decide (0<=i)&&decide (i<Int.ofNat a.length)) (.i (Int.ofNat (a.getD i.toNat default).Fs.length==0) (.k (.inl true)) (.h (a,(IntKind.i64.wrap (i+1)),()) ())) .d) (.k (.inr ()))
def zA2 (x:zAR) (y:Unit):=zog x.1 x.2.1
def zI8 (n:Nat) (a:yC) (i:Int):=zH (zA2) (.inl default) n (a,i,()) ()
def zZ7:LL ty zAR:=za (lSl 28) (za zj zm)
def zJm:=zbZ base 17 [] [] [(2,(kpL [0,3]))] [(2,1,[]),(2,0,(kpL [2]))] [(2,spW zZ7 z8a (zA2) (.inl default) zOn λx y=>(x.1.length+Int.toNat x.2.1+1))] []
theorem zYo:zD zJm (lp (body f100) 0):=zq (id:=2) (hl:=rfl)
def zK3 (a:yC):Wy0 (Bool):=.bn (zI8 (a.length+Int.toNat 0+1) a 0) λr0=>.i (isL r0) (.k (getL r0)) (.k false)
def zjS (a:yC):=(zK3 a).fin default
def zxM:=zh zWH λx=>((zjS x.1).1,zVf (zjS x.1).2)
theorem zDT:SdP 100 zxM:=
 sT (cx':=zJm) (zi trivial) call100 func100 (lOK (aC zYo aN))
def z5C:=zbq base 36 []
def zT0 (v:Value):Wy0 (Bool):=.i (v.Kind==0) (.k (v.Text.toList==(ByteArray.mk #[]).toList)) (.i (v.Kind==1) (.i (v.Int==0) (.k (decide (Int.ofNat v.Text.size<=255))) (.k false)) (.i (v.Kind==2) (.i (v.Text.toList==(ByteArray.mk #[]).toList) (.i (v.Int==0) (.k true) (.k (v.Int==1))) (.k false)) (.k false)))
def zxB (v:Value):=(zT0 v).fin default
def zMk:=zh z8z λx=>((zxB x.1).1,zVf (zxB x.1).2)
theorem z0u:SdP 158 zMk:=
 sT (cx':=z5C) (zi trivial) call158 func158 (lOK aN)
abbrev zz6:=Int×yE×Unit×Int×Unit
def zuq (fn:Int) (items:yE) (i:Int) (bound:Value):Wy zz6 (Value×Unit) (Bool⊕Unit):=.i (decide (i<Int.ofNat items.length)) (.i (decide (0<=i)&&decide (i<Int.ofNat items.length)) (.bn (zxB (items.getD i.toNat default).Value) λr0=>.i (!r0) (.k (.inl false)) (.i ((items.getD i.toNat default).Value.Kind != bound.Kind) (.k (.inl false)) (.i (fn==0) (.i ((items.getD i.toNat default).Value.Int != 1) (.k (.inl false)) (.h (fn,items,(),(IntKind.i64.wrap (i+1)),()) (bound,()))) (.h (fn,items,(),(IntKind.i64.wrap (i+1)),()) (bound,()))))) .d) (.k (.inr ()))
def zFi (x:zz6) (y:Value×Unit):=zuq x.1 x.2.1 x.2.2.2.1 y.1
def zGd (n:Nat) (fn:Int) (items:yE) (i:Int) (bound:Value):=zH (zFi) (.inl default) n (fn,items,(),i,()) (bound,())
def z5I:LL ty zz6:=za zj (za (lSl 100) (za (zfa 276 0) (za zj zm)))
def z6N:BL ty (Value×Unit):=ziw (zgt (λx=>(⟨x.1,x.2.1,x.2.2.1⟩:Value)) (λx=>(x.Kind,x.Int,x.Text,())) (λ_=>rfl) (za (zO .i64) (za (zO .i64) (za zp3 zm)))) false (zbg)
def z3w (x:zz6) (y:Value×Unit):Nat:=(Int.toNat x.1+x.2.1.length+Int.toNat x.2.2.2.1+1)
def zQz:=zbZ base 69 [(158,zMk)] [] [(4,(kpL [0,1,7,9]))] [(4,1,[]),(4,0,(kpL [8]))] [(4,spW z5I z6N (zFi) (.inl default) zOn z3w)] []
theorem z5f:zD zQz (lp (body f111) 0):=zq (id:=4) (hl:=rfl)
def zUa (fn:Int) (items:yE) (op:Int) (bound:Value):Wy0 (Bool):=.i (decide (fn<0)) (.k false) (.i (decide (fn>3)) (.k false) (.i (decide (op<5)) (.k false) (.i (decide (op>10)) (.k false) (.bn (zxB bound) λr4=>.i (!r4) (.k false) (.i (decide (fn<=1)) (.i (bound.Kind != 0) (.k false) (.bn (zGd (fn.toNat +items.length+Int.toNat 0+1) fn items 0 bound) λr2=>.i (isL r2) (.k (getL r2)) (.k true))) (.bn (zGd (fn.toNat +items.length+Int.toNat 0+1) fn items 0 bound) λr3=>.i (isL r3) (.k (getL r3)) (.k true)))))))
def zA9 (fn:Int) (items:yE) (op:Int) (bound:Value):=(zUa fn items op bound).fin default
def zL5:=zh zSj λx=>((zA9 x.1 x.2.1 x.2.2.1 x.2.2.2.1).1,zVf (zA9 x.1 x.2.1 x.2.2.1 x.2.2.2.1).2)
theorem zZe:SdP 111 zL5:=
 sT (cx':=zQz) (zi ⟨z0u,trivial⟩) call111 func111 (lOK (aC z5f aN))
def z6Y:=zbq base 23 []
def zT3 (x_:At):Wy0 (Bool):=.i (x_.Func==0) (.i (Int.ofNat x_.Items.length==0) (.i (x_.Op==0) (.k (x_.Bd.Kind==0&&(x_.Bd.Int==0&&(x_.Bd.Text.toList==(ByteArray.mk #[]).toList&&true)))) (.k false)) (.k false)) (.k false)
def zpc (x_:At):=(zT3 x_).fin default
def zKz:=zh zBm λx=>((zpc x.1).1,zVf (zpc x.1).2)
theorem z0l:SdP 110 zKz:=
 sT (cx':=z6Y) (zi trivial) call110 func110 (lOK aN)
abbrev zfX:=Unit×Int×Unit
def zkH (zbw:yC->Bool×Bool) (i:Int) (x_:At):Wy zfX (At×Unit) (Bool⊕At):=.i (decide (i<Int.ofNat x_.Ag.length)) (.i (decide (0<=i)&&decide (i<Int.ofNat x_.Ag.length)) (.i (Int.ofNat (List.length (x_.Ag.getD i.toNat default))==0) (.k (.inl false)) (.i (decide (0<=i)&&decide (i<Int.ofNat x_.Ag.length)) (.bn (zbw (x_.Ag.getD i.toNat default)) λr0=>.i (!r0) (.k (.inl false)) (.h ((),(IntKind.i64.wrap (i+1)),()) (x_,()))) .d)) .d) (.k (.inr x_))
def zwK (zbw:yC->Bool×Bool) (x:zfX) (y:At×Unit):=zkH zbw x.2.1 y.1
def zwG (zbw:yC->Bool×Bool) (n:Nat) (i:Int) (x_:At):=zH (zwK zbw) (.inl default) n ((),i,()) (x_,())
def zQx (r:Bool⊕At):LTree ty:=.ite (isL r) (.done .ret [.lit (.bool (getL r))] []) (.done (.exit 0) [.ptr 824 0] [.box (base.enc 67 (getR r)) false])
def zTf:LL ty zfX:=za (zfa 824 0) (za zj zm)
def zjY (zbw:yC->Bool×Bool) (i:Int) (x_:At):Wy zfX (At×Unit) (Bool⊕Unit):=.i (decide (i<Int.ofNat x_.Items.length)) (.i (decide (0<=i)&&decide (i<Int.ofNat x_.Items.length)) (.i (Int.ofNat (x_.Items.getD i.toNat default).Ann.length==0) (.k (.inl false)) (.i (decide (0<=i)&&decide (i<Int.ofNat x_.Items.length)) (.bn (zbw (x_.Items.getD i.toNat default).Ann) λr3=>.i (!r3) (.k (.inl false)) (.i (decide (i>0)) (.i (decide (0<=IntKind.i64.wrap (i - 1))&&decide (IntKind.i64.wrap (i - 1)<=i)&&decide (i<=Int.ofNat x_.Items.length)) (.i (decide (0<=i)&&decide (i<=IntKind.i64.wrap (i+1))&&decide (IntKind.i64.wrap (i+1)<=Int.ofNat x_.Items.length)) (.bn (zyQ (List.take (i.toNat - (IntKind.i64.wrap (i - 1)).toNat) (List.drop (IntKind.i64.wrap (i - 1)).toNat x_.Items)) (List.take ((IntKind.i64.wrap (i+1)).toNat - i.toNat) (List.drop i.toNat x_.Items))) λr2=>.i (decide (r2>0)) (.k (.inl false)) (.h ((),(IntKind.i64.wrap (i+1)),()) (x_,()))) .d) .d) (.h ((),(IntKind.i64.wrap (i+1)),()) (x_,())))) .d)) .d) (.k (.inr ()))
def zu3 (zbw:yC->Bool×Bool) (x:zfX) (y:At×Unit):=zjY zbw x.2.1 y.1
def zCA (zbw:yC->Bool×Bool) (n:Nat) (i:Int) (x_:At):=zH (zu3 zbw) (.inl default) n ((),i,()) (x_,())
def zOU (r:Bool⊕Unit):LTree ty:=.ite (isL r) (.done .ret [.lit (.bool (getL r))] []) (.done (.exit 3) [] [])
def zQA (x:zfX) (y:At×Unit):Nat:=(Int.toNat x.2.1+y.1.Ag.length+y.1.Items.length+1)
def zwj (zbw:yC->Bool×Bool):=zbZ base 206 [(16,(zhO zbw)),(30,zDV),(99,zAK),(100,zxM),(106,zAu),(110,zKz),(111,zL5)] [] [(6,(kpL [1,3])),(21,(kpL [1,4]))] [(6,1,(kpL [1])),(6,0,(kpL [2])),(21,4,[]),(21,0,(kpL [2]))] [(6,spW zTf zUH (zwK zbw) (.inl default) zQx zQA),(21,spW zTf zUH (zu3 zbw) (.inl default) zOU zQA)] []
theorem zQ9 (zbw:yC->Bool×Bool):zD (zwj zbw) (lp (body f55) 0):=zq (id:=6) (hl:=rfl)
theorem zPz (zbw:yC->Bool×Bool):zD (zwj zbw) (lp (body f55) 1):=zq (id:=21) (hl:=rfl)
def zE0 (zbw:yC->Bool×Bool) (x_:At):Wy0 (Bool):=.i (x_.Kind==0) (.i (decide (x_.Row.Table≥1)) (.i (decide (x_.Row.Seq≥1)) (.i (Int.ofNat x_.Ag.length==0) (.bn (zpc (At.mk x_.Kind x_.Row x_.Ag x_.Func x_.Items x_.Op x_.Bd)) λr6=>.k r6) (.k false)) (.k false)) (.k false)) (.i (!(x_.Row.Table==0&&(x_.Row.Seq==0&&true))) (.k false) (.bn (zwG zbw (Int.toNat 0+x_.Ag.length+x_.Items.length+1) 0 (At.mk x_.Kind x_.Row x_.Ag x_.Func x_.Items x_.Op x_.Bd)) λr17=>.i (isL r17) (.k (getL r17)) (.i ((getR r17).Kind==1) (.i (Int.ofNat (getR r17).Ag.length==2) (.bn (zpc (At.mk (getR r17).Kind (getR r17).Row (getR r17).Ag (getR r17).Func (getR r17).Items (getR r17).Op (getR r17).Bd)) λr8=>.i (r8) (.i (decide ((0:Int)<=(0:Int))&&decide (0<Int.ofNat (getR r17).Ag.length)) (.i (decide ((0:Int)<=(1:Int))&&decide (1<Int.ofNat (getR r17).Ag.length)) (.bn (zwB ((getR r17).Ag.getD (Int.toNat 0) default) ((getR r17).Ag.getD (Int.toNat 1) default)) λr7=>.k (!r7)) .d) .d) (.k false)) (.k false)) (.i ((getR r17).Kind==2) (.i (Int.ofNat (getR r17).Ag.length==1) (.bn (zpc (At.mk (getR r17).Kind (getR r17).Row (getR r17).Ag (getR r17).Func (getR r17).Items (getR r17).Op (getR r17).Bd)) λr12=>.i (r12) (.i (decide ((0:Int)<=(0:Int))&&decide (0<Int.ofNat (getR r17).Ag.length)) (.i (Int.ofNat (List.length ((getR r17).Ag.getD (Int.toNat 0) default))==1) (.i (decide ((0:Int)<=(0:Int))&&decide (0<Int.ofNat (getR r17).Ag.length)) (.bn (zjS ((getR r17).Ag.getD (Int.toNat 0) default)) λr10=>.i (!r10) (.i (decide ((0:Int)<=(0:Int))&&decide (0<Int.ofNat (getR r17).Ag.length)) (.bn (zqi ((getR r17).Ag.getD (Int.toNat 0) default)) λr9=>.k (!r9)) .d) (.k false)) .d) (.i (decide ((0:Int)<=(0:Int))&&decide (0<Int.ofNat (getR r17).Ag.length)) (.bn (zqi ((getR r17).Ag.getD (Int.toNat 0) default)) λr11=>.k (!r11)) .d)) .d) (.k false)) (.k false)) (.i ((getR r17).Kind==3) (.i (Int.ofNat (getR r17).Ag.length==1) (.bn (zpc (At.mk (getR r17).Kind (getR r17).Row (getR r17).Ag (getR r17).Func (getR r17).Items (getR r17).Op (getR r17).Bd)) λr14=>.i (r14) (.i (decide ((0:Int)<=(0:Int))&&decide (0<Int.ofNat (getR r17).Ag.length)) (.bn (zjS ((getR r17).Ag.getD (Int.toNat 0) default)) λr13=>.k (!r13)) .d) (.k false)) (.k false)) (.i ((getR r17).Kind==4) (.i (Int.ofNat (getR r17).Ag.length != 0) (.k false) (.i (Int.ofNat (getR r17).Items.length==0) (.k false) (.i (decide (Int.ofNat (getR r17).Items.length>1024)) (.k false) (.bn (zA9 (getR r17).Func (getR r17).Items (getR r17).Op (getR r17).Bd) λr16=>.i (!r16) (.k false) (.bn (zCA zbw (Int.toNat 0+(getR r17).Ag.length+(getR r17).Items.length+1) 0 (At.mk (getR r17).Kind (getR r17).Row (getR r17).Ag (getR r17).Func (getR r17).Items (getR r17).Op (getR r17).Bd)) λr15=>.i (isL r15) (.k (getL r15)) (.k true)))))) (.k false)))))))
def znX (zbw:yC->Bool×Bool) (x_:At):=(zE0 zbw x_).fin default
theorem zMv (zbw:yC->Bool×Bool) (z3O:SdP 16 (zhO zbw)):SdP 55 (zmh (znX zbw)):=
 sT (cx':=(zwj zbw)) (zi ⟨z3O,zLs,zGv,zDT,zKW,z0l,zZe,trivial⟩) call55 func55 (lOK (aC (zQ9 zbw) (aC (zPz zbw) aN)))
def zJ5:Nat->(yC->Bool×Bool)×(At->Bool×Bool)
 | 0=>(λ_=>(false,default),λ_=>(false,default))
 | n+1=>(zxi ((zJ5 n).2),znX ((zJ5 n).1))
def zxc (n:Nat):yC->Bool×Bool:=(zJ5 n).1
def zuf (n:Nat):At->Bool×Bool:=(zJ5 n).2
theorem z11 (n:Nat):zxc (n+1)=zxi (zuf n):=rfl
theorem zSY (n:Nat):zuf (n+1)=znX (zxc n):=rfl
theorem zXz:∀ n,SdP 16 (zhO (zxc n))/\SdP 55 (zmh (zuf n))
 | 0=>⟨zba call16 (λ_=>rfl),zba call55 (λ_=>rfl)⟩
 | n+1=>by
  have ih:=zXz n;exact ⟨zUZ _ (ih.2),zMv _ (ih.1)⟩
def zBe:yC->Bool×Bool:=zxc 1000
def zB1:Ab.Spec ty:=zhO zBe
theorem zIZ:SdP 16 zB1:=(zXz 1000).1
def zbal:=zbq base 3 []
def zba0:Wy0 (yC):=.k [TO.mk 1 []]
def zWG:Bool×yC:=(zba0).fin default
def zQ3:=zh zOB λx=>((zWG ).1,zOR (zWG ).2)
theorem z3m:SdP 77 zQ3:=
 sT (cx':=zbal) (zi trivial) call77 func77 (lOK aN) (sg:=⟨[.own 28],[]⟩)
def z9A:=zbq base 8 [(54,zEi)]
def zbaH (a:yC):Wy0 (yC×Int):=.bn (zzS a) λr0=>.i (!r0) (.k ([],6)) (.k (a,0))
def zNH (a:yC):=(zbaH a).fin default
def z7Q (r:yC×Int):ARes ty:=⟨[.pure (.sl 28 r.1),.pure (.lit (.int .i64 r.2))],[]⟩
def zPM:=zh zWH λx=>((zNH x.1).1,z7Q (zNH x.1).2)
theorem z4h:SdP 101 zPM:=
 sT (cx':=z9A) (zi ⟨zLN,trivial⟩) call101 func101 (lOK aN) (sg:=⟨[.pure,.pure],[]⟩)
def z5Q:=zbq base 30 [(16,zB1),(77,zQ3),(99,zAK),(100,zxM),(101,zPM),(102,zDL)]
def z8l (a:yC):Wy0 (yC×Int):=.bn (zBe a) λr4=>.i (!r4) (.k ([],1)) (.i (Int.ofNat a.length==0) (.k (a,0)) (.bn (zqi a) λr3=>.i (r3) (.k (a,0)) (.i (Int.ofNat a.length==1) (.bn (zjS a) λr1=>.i (r1) (.k (zWG.2,0)) (.bn (zNH (zD1 (At.mk 2 (RowID.mk 0 0) [a] 0 [] 0 (Value.mk 0 0 (ByteArray.mk #[])))).2) λr0=>.k (r0.1,r0.2))) (.bn (zNH (zD1 (At.mk 2 (RowID.mk 0 0) [a] 0 [] 0 (Value.mk 0 0 (ByteArray.mk #[])))).2) λr2=>.k (r2.1,r2.2)))))
def z1c (a:yC):=(z8l a).fin default
def zK7:=zh zWH λx=>((z1c x.1).1,z7Q (z1c x.1).2)
theorem z0n:SdP 47 zK7:=
 sT (cx':=z5Q) (zi ⟨zIZ,z3m,zGv,zDT,z4h,zK5,trivial⟩) call47 func47 (lOK aN) (sg:=⟨[.pure,.pure],[]⟩)
def z74:=zbq base 9 []
def z9L (a:Int) (b:Int):Wy0 (Int):=.k (if 1152921504606846976<IntKind.i64.wrap (a+b) then 1152921504606846976 else IntKind.i64.wrap (a+b))
def zDx (a:Int) (b:Int):=(z9L a b).fin default
def zN0:=zh zVp λx=>((zDx x.1 x.2.1).1,zOF (zDx x.1 x.2.1).2)
theorem z2N:SdP 112 zN0:=
 sT (cx':=z74) (zi trivial) call112 func112 (lOK aN)
abbrev zDm:=yC×Unit×Int×Unit
abbrev zYE:=yC×Int×Term
def z9R (a:yC) (i:Int) (t:Term):Wy zDm (Term×Unit) zYE:=.i (decide (i<Int.ofNat a.length)) (.i (decide (0<=i)&&decide (i<Int.ofNat a.length)) (.bn (zkv (a.getD i.toNat default).Fs t.Fs) λr0=>.i (decide (r0<0)) (.h (a,(),(IntKind.i64.wrap (i+1)),()) (t,())) (.k (a,i,t))) .d) (.k (a,i,t))
def zXd (x:zDm) (y:Term×Unit):=z9R x.1 x.2.2.1 y.1
def z9k (n:Nat) (a:yC) (i:Int) (t:Term):=zH (zXd) default n (a,(),i,()) (t,())
def z7J (r:zYE):LTree ty:=.done (.exit 0) [.sl 28 r.1,.ptr 288 0,.lit (.int .i64 r.2.1)] [.box (base.enc 28 r.2.2) false]
def z9X:LL ty zDm:=za (lSl 28) (za (zfa 288 0) (za zj zm))
def z8h (x:zDm) (y:Term×Unit):Nat:=(x.1.length+Int.toNat x.2.2.1+y.1.Fs.length+1)
def zXZ:=zbZ base 72 [(34,zoW),(112,zN0)] [] [(2,(kpL [0,3,5]))] [(2,1,(kpL [0,3,5]))] [(2,spW z9X zRb (zXd) default z7J z8h)] []
theorem z7V:zD zXZ (lp (body f58) 0):=zq (id:=2) (hl:=rfl)
def zba2 (a:yC) (t:Term):Wy0 (yC):=.bn (z9k (a.length+Int.toNat 0+t.Fs.length+1) a 0 t) λr3=>.i (decide ((0:Int)<=(0:Int))&&decide (0<=r3.2.1)&&decide (r3.2.1<=Int.ofNat r3.1.length)) (.i (decide ((0+(List.take (r3.2.1.toNat - Int.toNat 0) (List.drop (Int.toNat 0) r3.1)).length)*32<=z7)) (.i (decide (r3.2.1<Int.ofNat r3.1.length)) (.i (decide (0<=r3.2.1)&&decide (r3.2.1<Int.ofNat r3.1.length)) (.bn (zkv (r3.1.getD r3.2.1.toNat default).Fs r3.2.2.Fs) λr2=>.i (r2==0) (.i (decide (0<=r3.2.1)&&decide (r3.2.1<Int.ofNat r3.1.length)) (.i (decide ((([]++List.take (r3.2.1.toNat - Int.toNat 0) (List.drop (Int.toNat 0) r3.1)).length+[TO.mk (zDx (r3.1.getD r3.2.1.toNat default).Cf r3.2.2.Cf).2 r3.2.2.Fs].length)*32<=z7)) (.i (decide (0<=IntKind.i64.wrap (r3.2.1+1))&&decide (IntKind.i64.wrap (r3.2.1+1)<=Int.ofNat r3.1.length)&&decide (Int.ofNat r3.1.length<=Int.ofNat r3.1.length)) (.i (decide ((([]++List.take (r3.2.1.toNat - Int.toNat 0) (List.drop (Int.toNat 0) r3.1)++[TO.mk (zDx (r3.1.getD r3.2.1.toNat default).Cf r3.2.2.Cf).2 r3.2.2.Fs]).length+(List.take ((Int.ofNat r3.1.length).toNat - (IntKind.i64.wrap (r3.2.1+1)).toNat) (List.drop (IntKind.i64.wrap (r3.2.1+1)).toNat r3.1)).length)*32<=z7)) (.k ([]++List.take (r3.2.1.toNat - Int.toNat 0) (List.drop (Int.toNat 0) r3.1)++[TO.mk (zDx (r3.1.getD r3.2.1.toNat default).Cf r3.2.2.Cf).2 r3.2.2.Fs]++List.take ((Int.ofNat r3.1.length).toNat - (IntKind.i64.wrap (r3.2.1+1)).toNat) (List.drop (IntKind.i64.wrap (r3.2.1+1)).toNat r3.1))) .d) .d) .d) .d) (.i (decide ((([]++List.take (r3.2.1.toNat - Int.toNat 0) (List.drop (Int.toNat 0) r3.1)).length+[r3.2.2].length)*32<=z7)) (.i (decide (0<=r3.2.1)&&decide (r3.2.1<=Int.ofNat r3.1.length)&&decide (Int.ofNat r3.1.length<=Int.ofNat r3.1.length)) (.i (decide ((([]++List.take (r3.2.1.toNat - Int.toNat 0) (List.drop (Int.toNat 0) r3.1)++[r3.2.2]).length+(List.take ((Int.ofNat r3.1.length).toNat - r3.2.1.toNat) (List.drop r3.2.1.toNat r3.1)).length)*32<=z7)) (.k ([]++List.take (r3.2.1.toNat - Int.toNat 0) (List.drop (Int.toNat 0) r3.1)++[r3.2.2]++List.take ((Int.ofNat r3.1.length).toNat - r3.2.1.toNat) (List.drop r3.2.1.toNat r3.1))) .d) .d) .d)) .d) (.i (decide ((([]++List.take (r3.2.1.toNat - Int.toNat 0) (List.drop (Int.toNat 0) r3.1)).length+[r3.2.2].length)*32<=z7)) (.i (decide (0<=r3.2.1)&&decide (r3.2.1<=Int.ofNat r3.1.length)&&decide (Int.ofNat r3.1.length<=Int.ofNat r3.1.length)) (.i (decide ((([]++List.take (r3.2.1.toNat - Int.toNat 0) (List.drop (Int.toNat 0) r3.1)++[r3.2.2]).length+(List.take ((Int.ofNat r3.1.length).toNat - r3.2.1.toNat) (List.drop r3.2.1.toNat r3.1)).length)*32<=z7)) (.k ([]++List.take (r3.2.1.toNat - Int.toNat 0) (List.drop (Int.toNat 0) r3.1)++[r3.2.2]++List.take ((Int.ofNat r3.1.length).toNat - r3.2.1.toNat) (List.drop r3.2.1.toNat r3.1))) .d) .d) .d)) .d) .d
def zOc (a:yC) (t:Term):=(zba2 a t).fin default
def zbbb:AL base (yC×Term×Unit):=zd (ze (vSl 28)) (zd (ze (zcx 28)) zp)
def zFt:=zh zbbb λx=>((zOc x.1 x.2.1).1,zOR (zOc x.1 x.2.1).2)
theorem zN3:SdP 58 zFt:=
 sT (cx':=zXZ) (zi ⟨zwT,z2N,trivial⟩) call58 func58 (lOK (aC z7V aN)) (sg:=⟨[.own 28],[]⟩)
abbrev zyu:=yD×Unit×Int×Unit
abbrev zNt:=yD×Int×Fc
def z3V (l:yD) (i:Int) (f:Fc):Wy zyu (Fc×Unit) zNt:=.i (decide (i<Int.ofNat l.length)) (.i (decide (0<=i)&&decide (i<Int.ofNat l.length)) (.bn (zlf (At.mk (l.getD i.toNat default).At.Kind (l.getD i.toNat default).At.Row (l.getD i.toNat default).At.Ag (l.getD i.toNat default).At.Func (l.getD i.toNat default).At.Items (l.getD i.toNat default).At.Op (l.getD i.toNat default).At.Bd) (At.mk f.At.Kind f.At.Row f.At.Ag f.At.Func f.At.Items f.At.Op f.At.Bd)) λr0=>.i (decide (r0<0)) (.h (l,(),(IntKind.i64.wrap (i+1)),()) (f,())) (.k (l,i,f))) .d) (.k (l,i,f))
def zNM (x:zyu) (y:Fc×Unit):=z3V x.1 x.2.2.1 y.1
def z5u (n:Nat) (l:yD) (i:Int) (f:Fc):=zH (zNM) default n (l,(),i,()) (f,())
def z1R (r:zNt):LTree ty:=.done (.exit 0) [.sl 69 r.1,.ptr 296 0,.lit (.int .i64 r.2.1)] [.box (base.enc 69 r.2.2) false]
def z44:LL ty zyu:=za (lSl 69) (za (zfa 296 0) (za zj zm))
def z2n (x:zyu) (y:Fc×Unit):Nat:=(x.1.length+Int.toNat x.2.2.1+y.1.At.Ag.length+y.1.At.Items.length+1)
def zNU:=zbZ base 74 [(53,ztH)] [] [(2,(kpL [0,3,5]))] [(2,1,(kpL [0,3,5]))] [(2,spW z44 zPK (zNM) default z1R z2n)] []
theorem z2X:zD zNU (lp (body f57) 0):=zq (id:=2) (hl:=rfl)
def z61 (l:yD) (f:Fc):Wy0 (yD):=.bn (z5u (l.length+Int.toNat 0+f.At.Ag.length+f.At.Items.length+1) l 0 (FO.mk (At.mk f.At.Kind f.At.Row f.At.Ag f.At.Func f.At.Items f.At.Op f.At.Bd) f.Exp)) λr3=>.i (decide ((0:Int)<=(0:Int))&&decide (0<=r3.2.1)&&decide (r3.2.1<=Int.ofNat r3.1.length)) (.i (decide ((0+(List.take (r3.2.1.toNat - Int.toNat 0) (List.drop (Int.toNat 0) r3.1)).length)*128<=z7)) (.i (decide (r3.2.1<Int.ofNat r3.1.length)) (.i (decide (0<=r3.2.1)&&decide (r3.2.1<Int.ofNat r3.1.length)) (.bn (zlf (At.mk (r3.1.getD r3.2.1.toNat default).At.Kind (r3.1.getD r3.2.1.toNat default).At.Row (r3.1.getD r3.2.1.toNat default).At.Ag (r3.1.getD r3.2.1.toNat default).At.Func (r3.1.getD r3.2.1.toNat default).At.Items (r3.1.getD r3.2.1.toNat default).At.Op (r3.1.getD r3.2.1.toNat default).At.Bd) (At.mk r3.2.2.At.Kind r3.2.2.At.Row r3.2.2.At.Ag r3.2.2.At.Func r3.2.2.At.Items r3.2.2.At.Op r3.2.2.At.Bd)) λr2=>.i (r2==0) (.i (decide (r3.2.2.At.Kind<3)) (.i (decide (0<=r3.2.1)&&decide (r3.2.1<Int.ofNat r3.1.length)) (.i (decide ((([]++List.take (r3.2.1.toNat - Int.toNat 0) (List.drop (Int.toNat 0) r3.1)).length+[FO.mk (At.mk r3.2.2.At.Kind r3.2.2.At.Row r3.2.2.At.Ag r3.2.2.At.Func r3.2.2.At.Items r3.2.2.At.Op r3.2.2.At.Bd) (IntKind.i64.wrap ((r3.1.getD r3.2.1.toNat default).Exp+r3.2.2.Exp))].length)*128<=z7)) (.i (decide (0<=IntKind.i64.wrap (r3.2.1+1))&&decide (IntKind.i64.wrap (r3.2.1+1)<=Int.ofNat r3.1.length)&&decide (Int.ofNat r3.1.length<=Int.ofNat r3.1.length)) (.i (decide ((([]++List.take (r3.2.1.toNat - Int.toNat 0) (List.drop (Int.toNat 0) r3.1)++[FO.mk (At.mk r3.2.2.At.Kind r3.2.2.At.Row r3.2.2.At.Ag r3.2.2.At.Func r3.2.2.At.Items r3.2.2.At.Op r3.2.2.At.Bd) (IntKind.i64.wrap ((r3.1.getD r3.2.1.toNat default).Exp+r3.2.2.Exp))]).length+(List.take ((Int.ofNat r3.1.length).toNat - (IntKind.i64.wrap (r3.2.1+1)).toNat) (List.drop (IntKind.i64.wrap (r3.2.1+1)).toNat r3.1)).length)*128<=z7)) (.k ([]++List.take (r3.2.1.toNat - Int.toNat 0) (List.drop (Int.toNat 0) r3.1)++[FO.mk (At.mk r3.2.2.At.Kind r3.2.2.At.Row r3.2.2.At.Ag r3.2.2.At.Func r3.2.2.At.Items r3.2.2.At.Op r3.2.2.At.Bd) (IntKind.i64.wrap ((r3.1.getD r3.2.1.toNat default).Exp+r3.2.2.Exp))]++List.take ((Int.ofNat r3.1.length).toNat - (IntKind.i64.wrap (r3.2.1+1)).toNat) (List.drop (IntKind.i64.wrap (r3.2.1+1)).toNat r3.1))) .d) .d) .d) .d) (.i (decide ((([]++List.take (r3.2.1.toNat - Int.toNat 0) (List.drop (Int.toNat 0) r3.1)).length+[FO.mk (At.mk r3.2.2.At.Kind r3.2.2.At.Row r3.2.2.At.Ag r3.2.2.At.Func r3.2.2.At.Items r3.2.2.At.Op r3.2.2.At.Bd) r3.2.2.Exp].length)*128<=z7)) (.i (decide (0<=IntKind.i64.wrap (r3.2.1+1))&&decide (IntKind.i64.wrap (r3.2.1+1)<=Int.ofNat r3.1.length)&&decide (Int.ofNat r3.1.length<=Int.ofNat r3.1.length)) (.i (decide ((([]++List.take (r3.2.1.toNat - Int.toNat 0) (List.drop (Int.toNat 0) r3.1)++[FO.mk (At.mk r3.2.2.At.Kind r3.2.2.At.Row r3.2.2.At.Ag r3.2.2.At.Func r3.2.2.At.Items r3.2.2.At.Op r3.2.2.At.Bd) r3.2.2.Exp]).length+(List.take ((Int.ofNat r3.1.length).toNat - (IntKind.i64.wrap (r3.2.1+1)).toNat) (List.drop (IntKind.i64.wrap (r3.2.1+1)).toNat r3.1)).length)*128<=z7)) (.k ([]++List.take (r3.2.1.toNat - Int.toNat 0) (List.drop (Int.toNat 0) r3.1)++[FO.mk (At.mk r3.2.2.At.Kind r3.2.2.At.Row r3.2.2.At.Ag r3.2.2.At.Func r3.2.2.At.Items r3.2.2.At.Op r3.2.2.At.Bd) r3.2.2.Exp]++List.take ((Int.ofNat r3.1.length).toNat - (IntKind.i64.wrap (r3.2.1+1)).toNat) (List.drop (IntKind.i64.wrap (r3.2.1+1)).toNat r3.1))) .d) .d) .d)) (.i (decide ((([]++List.take (r3.2.1.toNat - Int.toNat 0) (List.drop (Int.toNat 0) r3.1)).length+[FO.mk (At.mk r3.2.2.At.Kind r3.2.2.At.Row r3.2.2.At.Ag r3.2.2.At.Func r3.2.2.At.Items r3.2.2.At.Op r3.2.2.At.Bd) r3.2.2.Exp].length)*128<=z7)) (.i (decide (0<=r3.2.1)&&decide (r3.2.1<=Int.ofNat r3.1.length)&&decide (Int.ofNat r3.1.length<=Int.ofNat r3.1.length)) (.i (decide ((([]++List.take (r3.2.1.toNat - Int.toNat 0) (List.drop (Int.toNat 0) r3.1)++[FO.mk (At.mk r3.2.2.At.Kind r3.2.2.At.Row r3.2.2.At.Ag r3.2.2.At.Func r3.2.2.At.Items r3.2.2.At.Op r3.2.2.At.Bd) r3.2.2.Exp]).length+(List.take ((Int.ofNat r3.1.length).toNat - r3.2.1.toNat) (List.drop r3.2.1.toNat r3.1)).length)*128<=z7)) (.k ([]++List.take (r3.2.1.toNat - Int.toNat 0) (List.drop (Int.toNat 0) r3.1)++[FO.mk (At.mk r3.2.2.At.Kind r3.2.2.At.Row r3.2.2.At.Ag r3.2.2.At.Func r3.2.2.At.Items r3.2.2.At.Op r3.2.2.At.Bd) r3.2.2.Exp]++List.take ((Int.ofNat r3.1.length).toNat - r3.2.1.toNat) (List.drop r3.2.1.toNat r3.1))) .d) .d) .d)) .d) (.i (decide ((([]++List.take (r3.2.1.toNat - Int.toNat 0) (List.drop (Int.toNat 0) r3.1)).length+[FO.mk (At.mk r3.2.2.At.Kind r3.2.2.At.Row r3.2.2.At.Ag r3.2.2.At.Func r3.2.2.At.Items r3.2.2.At.Op r3.2.2.At.Bd) r3.2.2.Exp].length)*128<=z7)) (.i (decide (0<=r3.2.1)&&decide (r3.2.1<=Int.ofNat r3.1.length)&&decide (Int.ofNat r3.1.length<=Int.ofNat r3.1.length)) (.i (decide ((([]++List.take (r3.2.1.toNat - Int.toNat 0) (List.drop (Int.toNat 0) r3.1)++[FO.mk (At.mk r3.2.2.At.Kind r3.2.2.At.Row r3.2.2.At.Ag r3.2.2.At.Func r3.2.2.At.Items r3.2.2.At.Op r3.2.2.At.Bd) r3.2.2.Exp]).length+(List.take ((Int.ofNat r3.1.length).toNat - r3.2.1.toNat) (List.drop r3.2.1.toNat r3.1)).length)*128<=z7)) (.k ([]++List.take (r3.2.1.toNat - Int.toNat 0) (List.drop (Int.toNat 0) r3.1)++[FO.mk (At.mk r3.2.2.At.Kind r3.2.2.At.Row r3.2.2.At.Ag r3.2.2.At.Func r3.2.2.At.Items r3.2.2.At.Op r3.2.2.At.Bd) r3.2.2.Exp]++List.take ((Int.ofNat r3.1.length).toNat - r3.2.1.toNat) (List.drop r3.2.1.toNat r3.1))) .d) .d) .d)) .d) .d
def zMb (l:yD) (f:Fc):=(z61 l f).fin default
def z2r (r:yD):ARes ty:=⟨[.pure (.sl 69 r)],[]⟩
def z6o:AL base (yD×Fc×Unit):=zd (ze (vSl 69)) (zd (ze (zcx 69)) zp)
def zJi:=zh z6o λx=>((zMb x.1 x.2.1).1,z2r (zMb x.1 x.2.1).2)
theorem zYq:SdP 57 zJi:=
 sT (cx':=zNU) (zi ⟨zAk,trivial⟩) call57 func57 (lOK (aC z2X aN))
def z6f:=zbq base 12 []
def z8u (a:Int) (b:Int):Wy0 (Int):=.i (!decide (b=0)) (.i (decide (a>IntKind.i64.wrap (Int.tdiv 1152921504606846976 b))) (.k 1152921504606846976) (.k (IntKind.i64.wrap (a*b)))) .d
def zPA (a:Int) (b:Int):=(z8u a b).fin default
def zKw:=zh zVp λx=>((zPA x.1 x.2.1).1,zOF (zPA x.1 x.2.1).2)
theorem zZI:SdP 56 zKw:=
 sT (cx':=z6f) (zi trivial) call56 func56 (lOK aN)
abbrev zwq:=yC×yC×Unit×Int×Int×Unit×Int×Unit
abbrev zwf:=yC×(Int×yD×Unit)×Unit
abbrev zLI:=yC×yC×Int×Int×yC×Int×yD
abbrev zv7:=yC×yC×Unit×Int×Int×Unit
abbrev zhS:=yC×Unit
abbrev zLr:=yC×yC×Int×yC
abbrev zv0:=yC×yC×Unit×Int×Unit
def z0z (a:yC) (b:yC) (i:Int) (k:Int) (j:Int) (out_:yC) (t_0:Int) (t_1:yD):Wy zwq zwf zLI:=.i (decide (0<=k)&&decide (k<Int.ofNat b.length)) (.i (decide (j<Int.ofNat (b.getD k.toNat default).Fs.length)) (.i (decide (0<=k)&&decide (k<Int.ofNat b.length)) (.i (decide (0<=j)&&decide (j<Int.ofNat (b.getD k.toNat default).Fs.length)) (.bn (zMb t_1 (FO.mk (At.mk ((b.getD k.toNat default).Fs.getD j.toNat default).At.Kind ((b.getD k.toNat default).Fs.getD j.toNat default).At.Row ((b.getD k.toNat default).Fs.getD j.toNat default).At.Ag ((b.getD k.toNat default).Fs.getD j.toNat default).At.Func ((b.getD k.toNat default).Fs.getD j.toNat default).At.Items ((b.getD k.toNat default).Fs.getD j.toNat default).At.Op ((b.getD k.toNat default).Fs.getD j.toNat default).At.Bd) ((b.getD k.toNat default).Fs.getD j.toNat default).Exp)) λr0=>.h (a,b,(),i,k,(),(IntKind.i64.wrap (j+1)),()) (out_,(t_0,(r0),()),())) .d) .d) (.k (a,b,i,k,out_,t_0,t_1))) .d
def zJf (x:zwq) (y:zwf):=z0z x.1 x.2.1 x.2.2.2.1 x.2.2.2.2.1 x.2.2.2.2.2.2.1 y.1 y.2.1.1 y.2.1.2.1
def z0w (n:Nat) (a:yC) (b:yC) (i:Int) (k:Int) (j:Int) (out_:yC) (t_0:Int) (t_1:yD):=zH (zJf) default n (a,b,(),i,k,(),j,()) (out_,(t_0,t_1,()),())
def zYg (r:zLI):LTree ty:=.done (.exit 4) [.sl 28 r.1,.sl 28 r.2.1,.own 264,.lit (.int .i64 r.2.2.1),.lit (.int .i64 r.2.2.2.1),.ptr 265 0] [.arr 28 r.2.2.2.2.1 false,.box ([.lit (.int .i64 r.2.2.2.2.2.1),.sl 69 r.2.2.2.2.2.2]) false]
def zZc:LL ty zwq:=za (lSl 28) (za (lSl 28) (za (zes 264) (za zj (za zj (za (zfa 265 0) (za zj zm))))))
def zZ3:BL ty zwf:=zew 28 false (ziw (za (zO .i64) (za (lSl 69) zm)) false (zbg))
def z2a (a:yC) (b:yC) (i:Int) (k:Int) (out_:yC):Wy zv7 zhS zLr:=.i (decide (k<Int.ofNat b.length)) (.i (decide (0<=i)&&decide (i<Int.ofNat a.length)) (.i (decide (0<=k)&&decide (k<Int.ofNat b.length)) (.bn (zPA (a.getD i.toNat default).Cf (b.getD k.toNat default).Cf) λr4=>.i (decide (0<=i)&&decide (i<Int.ofNat a.length)) (.bn (z0w ((a.length+b.length+i.toNat +k.toNat +Int.toNat 0+out_.length+r4.toNat +(a.getD i.toNat default).Fs.length+1)+zdR a+zdR b+zdR out_+z6p (a.getD i.toNat default).Fs) a b i k 0 out_ r4 (a.getD i.toNat default).Fs) λr3=>.bn (zOc r3.2.2.2.2.1 (TO.mk r3.2.2.2.2.2.1 r3.2.2.2.2.2.2)) λr2=>.h ((r3.1),(r3.2.1),(),(r3.2.2.1),(IntKind.i64.wrap (r3.2.2.2.1+1)),()) ((r2),())) .d) .d) .d) (.k (a,b,i,out_))
def zMo (x:zv7) (y:zhS):=z2a x.1 x.2.1 x.2.2.2.1 x.2.2.2.2.1 y.1
def z18 (n:Nat) (a:yC) (b:yC) (i:Int) (k:Int) (out_:yC):=zH (zMo) default n (a,b,(),i,k,()) (out_,())
def z0h (r:zLr):LTree ty:=.done (.exit 2) [.sl 28 r.1,.sl 28 r.2.1,.own 264,.lit (.int .i64 r.2.2.1)] [.arr 28 r.2.2.2 false]
def z2A:LL ty zv7:=za (lSl 28) (za (lSl 28) (za (zes 264) (za zj (za zj zm))))
def z1r:BL ty zhS:=zew 28 false (zbg)
def z2U (a:yC) (b:yC) (i:Int) (out_:yC):Wy zv0 zhS (yC):=.i (decide (i<Int.ofNat a.length)) (.bn (z18 ((a.length+b.length+i.toNat +Int.toNat 0+out_.length+1)+zdR a+zdR b+zdR out_) a b i 0 out_) λr8=>.h ((r8.1),(r8.2.1),(),(IntKind.i64.wrap (r8.2.2.1+1)),()) ((r8.2.2.2),())) (.k out_)
def zLF (x:zv0) (y:zhS):=z2U x.1 x.2.1 x.2.2.2.1 y.1
def z2B (n:Nat) (a:yC) (b:yC) (i:Int) (out_:yC):=zH (zLF) default n (a,b,(),i,()) (out_,())
def zZy (r:yC):LTree ty:=.done (.exit 0) [.own 264] [.arr 28 r false]
def z10:LL ty zv0:=za (lSl 28) (za (lSl 28) (za (zes 264) (za zj zm)))
def zWO (x:zwq) (y:zwf):Nat:=((x.1.length+x.2.1.length+Int.toNat x.2.2.2.1+Int.toNat x.2.2.2.2.1+Int.toNat x.2.2.2.2.2.2.1+y.1.length+Int.toNat y.2.1.1+y.2.1.2.1.length+1)+zdR x.1+zdR x.2.1+zdR y.1+z6p y.2.1.2.1)
def zZC (x:zv7) (y:zhS):Nat:=((x.1.length+x.2.1.length+Int.toNat x.2.2.2.1+Int.toNat x.2.2.2.2.1+y.1.length+1)+zdR x.1+zdR x.2.1+zdR y.1)
def z0b (x:zv0) (y:zhS):Nat:=((x.1.length+x.2.1.length+Int.toNat x.2.2.2.1+y.1.length+1)+zdR x.1+zdR x.2.1+zdR y.1)
def zwg:=zbZ base 66 [(56,zKw),(57,zJi),(58,zFt)] [] [(3,(kpL [0,1,5,6])),(6,(kpL [0,1,5,6,7])),(10,(kpL [0,1,5,6,7,8,9]))] [(3,1,(kpL [5])),(6,3,(kpL [0,1,5,6])),(10,5,(kpL [0,1,5,6,7,8]))] [(10,spW zZc zZ3 (zJf) default zYg zWO),(6,spW z2A z1r (zMo) default z0h zZC),(3,spW z10 z1r (zLF) default zZy z0b)] []
theorem zWj:zD zwg (lp (body f17) 2):=zq (id:=10) (hl:=rfl)
theorem zZk:zD zwg (lp (body f17) 1):=zq (id:=6) (hl:=rfl)
theorem zZr:zD zwg (lp (body f17) 0):=zq (id:=3) (hl:=rfl)
def z5m (a:yC) (b:yC):Wy0 (yC):=.bn (z2B ((a.length+b.length+Int.toNat 0+0+1)+zdR a+zdR b+zdR []) a b 0 []) λr10=>.k r10
def zBB (a:yC) (b:yC):=(z5m a b).fin default
def zGW:=zh zSZ λx=>((zBB x.1 x.2.1).1,zOR (zBB x.1 x.2.1).2)
theorem zUv:SdP 17 zGW:=
 sT (cx':=zwg) (zi ⟨zZI,zYq,zN3,trivial⟩) call17 func17 (lOK (aC zZr (aC zZk (aC zWj aN)))) (sg:=⟨[.own 28],[]⟩)
abbrev zDK:=yC×yC×Int×Unit
def zbaB (a:yC) (b:yC) (i:Int):Wy zDK Unit (yC):=.i (decide (i<Int.ofNat b.length)) (.i (decide (0<=i)&&decide (i<Int.ofNat b.length)) (.bn (zOc a (b.getD i.toNat default)) λr0=>.h ((r0),b,(IntKind.i64.wrap (i+1)),()) ()) .d) (.k a)
def zWk (x:zDK) (y:Unit):=zbaB x.1 x.2.1 x.2.2.1
def z9F (n:Nat) (a:yC) (b:yC) (i:Int):=zH (zWk) default n (a,b,i,()) ()
def z7N (r:yC):LTree ty:=.done (.exit 0) [.sl 28 r] []
def z98:LL ty zDK:=za (lSl 28) (za (lSl 28) (za zj zm))
def z7W (x:zDK) (y:Unit):Nat:=(x.1.length+x.2.1.length+Int.toNat x.2.2.1+1)
def zYl:=zbZ base 19 [(58,zFt)] [] [(2,[(0,.sl 28),(1,.keep),(5,.keep)])] [(2,1,(kpL [0]))] [(2,spW z98 z8a (zWk) default z7N z7W)] []
theorem z7M:zD zYl (lp (body f45) 0):=zq (id:=2) (hl:=rfl)
def zbaN (a:yC) (b:yC):Wy0 (yC):=.bn (z9F (a.length+b.length+Int.toNat 0+1) a b 0) λr2=>.k r2
def zW3 (a:yC) (b:yC):=(zbaN a b).fin default
def z8s (r:yC):ARes ty:=⟨[.pure (.sl 28 r)],[]⟩
def zPZ:=zh zSZ λx=>((zW3 x.1 x.2.1).1,z8s (zW3 x.1 x.2.1).2)
theorem z49:SdP 45 zPZ:=
 sT (cx':=zYl) (zi ⟨zN3,trivial⟩) call45 func45 (lOK (aC z7M aN))
abbrev zoC:=yF×yF×Int×Unit
abbrev zDi:=Int⊕(yF×yF)
def zwA (a:yF) (b:yF) (i:Int):Wy zoC Unit zDi:=.i (decide (i<Int.ofNat a.length)) (.i (decide (i<Int.ofNat b.length)) (.i (decide (0<=i)&&decide (i<Int.ofNat a.length)) (.i (decide (0<=i)&&decide (i<Int.ofNat b.length)) (.bn (zhW (a.getD i.toNat default) (b.getD i.toNat default)) λr0=>.i (r0 != 0) (.k (.inl (r0))) (.h (a,b,(IntKind.i64.wrap (i+1)),()) ())) .d) .d) (.k (.inr (a,b)))) (.k (.inr (a,b)))
def zDG (x:zoC) (y:Unit):=zwA x.1 x.2.1 x.2.2.1
def zv5 (n:Nat) (a:yF) (b:yF) (i:Int):=zH (zDG) (.inl default) n (a,b,i,()) ()
def zQR (r:zDi):LTree ty:=.ite (isL r) (.done .ret [.lit (.int .i64 (getL r))] []) (.done (.exit 0) [.sl 49 (getR r).1,.sl 49 (getR r).2] [])
def zTk:LL ty zoC:=za (lSl 49) (za (lSl 49) (za zj zm))
def zRn (x:zoC) (y:Unit):Nat:=(x.1.length+x.2.1.length+Int.toNat x.2.2.1+1000)
def zDZ:=zbZ base 41 [(105,znt)] [] [(2,(kpL [0,1,5]))] [(2,1,(kpL [0,1])),(2,0,(kpL [4]))] [(2,spW zTk z8a (zDG) (.inl default) zQR zRn)] []
theorem zPF:zD zDZ (lp (body f76) 0):=zq (id:=2) (hl:=rfl)
def zEL (a:yF) (b:yF):Wy0 (Int):=.bn (zv5 (a.length+b.length+Int.toNat 0+1000) a b 0) λr2=>.i (isL r2) (.k (getL r2)) (.i (Int.ofNat (getR r2).1.length==Int.ofNat (getR r2).2.length) (.k 0) (.i (decide (Int.ofNat (getR r2).1.length<Int.ofNat (getR r2).2.length)) (.k (-1:Int)) (.k 1)))
def zk9 (a:yF) (b:yF):=(zEL a b).fin default
def ztf:=zh zzT λx=>((zk9 x.1 x.2.1).1,zOF (zk9 x.1 x.2.1).2)
theorem zAb:SdP 76 ztf:=
 sT (cx':=zDZ) (zi ⟨ztw,trivial⟩) call76 func76 (lOK (aC zPF aN))
abbrev zBC:=yB×yB×Int×Unit
def zw9 (a:yB) (b:yB) (i:Int):Wy zBC Unit (Bool⊕Unit):=.i (decide (i<Int.ofNat a.length)) (.i (decide (0<=i)&&decide (i<Int.ofNat a.length)) (.i (decide (0<=i)&&decide (i<Int.ofNat b.length)) (.bn (zk9 (a.getD i.toNat default) (b.getD i.toNat default)) λr0=>.i (r0 != 0) (.k (.inl false)) (.h (a,b,(IntKind.i64.wrap (i+1)),()) ())) .d) .d) (.k (.inr ()))
def zHX (x:zBC) (y:Unit):=zw9 x.1 x.2.1 x.2.2.1
def zTQ (n:Nat) (a:yB) (b:yB) (i:Int):=zH (zHX) (.inl default) n (a,b,i,()) ()
def z8F:LL ty zBC:=za (lSl 43) (za (lSl 43) (za zj zm))
def z57 (x:zBC) (y:Unit):Nat:=(x.1.length+x.2.1.length+Int.toNat x.2.2.1+1000)
def zUe:=zbZ base 27 [(76,ztf)] [] [(4,(kpL [0,1,5]))] [(4,1,[]),(4,0,(kpL [4]))] [(4,spW z8F z8a (zHX) (.inl default) zOn z57)] []
theorem z5N:zD zUe (lp (body f26) 0):=zq (id:=4) (hl:=rfl)
def zXq (a:yB) (b:yB):Wy0 (Bool):=.i (Int.ofNat a.length != Int.ofNat b.length) (.k false) (.bn (zTQ (a.length+b.length+Int.toNat 0+1000) a b 0) λr2=>.i (isL r2) (.k (getL r2)) (.k true))
def zz9 (a:yB) (b:yB):=(zXq a b).fin default
def zDH:=zh z1G λx=>((zz9 x.1 x.2.1).1,zVf (zz9 x.1 x.2.1).2)
theorem zMj:SdP 26 zDH:=
 sT (cx':=zUe) (zi ⟨zAb,trivial⟩) call26 func26 (lOK (aC z5N aN))
abbrev zFJ:=yC×yC×yC×Unit×Int×Unit×Unit×Unit×Unit
abbrev zFh:=yB×(Int×Int×Unit)×(Int×Int×Unit)×(Int×Int×Unit)×Unit
def z6I (x_:yC) (y_:yC) (a:yC) (e:Int) (l:yB) (one_0:Int) (one_1:Int) (two_0:Int) (two_1:Int) (three_0:Int) (three_1:Int):Wy zFJ zFh (Bool):=.bn (zAY a) λr7=>.bn (zBB y_ y_) λr6=>.bn (zW3 x_ r6) λr5=>.bn (zwB r7 r5) λr4=>.i (r4) (.i (e==0) (.bn (zz9 l [[RowID.mk one_0 one_1,RowID.mk two_0 two_1],[RowID.mk one_0 one_1,RowID.mk three_0 three_1]]) λr3=>.i (r3) (.bn (zAU a a) λr2=>.i (r2) (.i (decide ((0:Int)<=(0:Int))&&decide (0<Int.ofNat x_.length)) (.bn (zBB x_ y_) λr1=>.i (decide ((0:Int)<=(0:Int))&&decide (0<Int.ofNat r1.length)) (.bn (zjN (x_.getD (Int.toNat 0) default) (r1.getD (Int.toNat 0) default)) λr0=>.k r0) .d) .d) (.k false)) (.k false)) (.k false)) (.k false)
def z6h (x:zFJ) (y:zFh):=z6I x.1 x.2.1 x.2.2.1 x.2.2.2.2.1 y.1 y.2.1.1 y.2.1.2.1 y.2.2.1.1 y.2.2.1.2.1 y.2.2.2.1.1 y.2.2.2.1.2.1
def z4P (r:Bool):LTree ty:=.done .ret [.lit (.bool r)] []
def z6a:LL ty zFJ:=za (lSl 28) (za (lSl 28) (za (lSl 28) (za (zes 328) (za zj (za (zfa 329 0) (za (zfa 330 0) (za (zfa 331 0) zm)))))))
def z6G:BL ty zFh:=zew 43 false (ziw (za (zO .i64) (za (zO .i64) zm)) false (ziw (za (zO .i64) (za (zO .i64) zm)) false (ziw (za (zO .i64) (za (zO .i64) zm)) false (zbg))))
def zRv:=z8H zbU 82 [(14,zlA),(17,zGW),(18,zBk),(22,zBi),(24,zop),(26,zDH),(30,zDV),(44,zER),(45,zPZ),(46,zLh),(47,zK7)] [] [(6,[(1,.sl 28),(2,.sl 28),(4,.sl 28),(7,.keep),(8,.keep),(9,.keep),(10,.keep),(11,.keep)])] [(6,0,(kpL [0]))] [] [] [(6,spW z6a z6G (z6h) default z4P λx y=>(1))]
theorem z3U:zPY zRv (jn (body f12) 6):=z2E (id:=6) (hl:=rfl)
def z8w:Wy0 (Bool):=.k true
def z09:Bool×Bool:=(z8w).fin default
def z8j:AL zbU (Unit):=zp
def zLM:=zh z8j λx=>((z09 ).1,zVf (z09 ).2)
theorem zZ2:Sound Tryz.prog zbU 12 zLM:=
 zYL (cx':=zRv) zDg zLp zbbp (z9M ⟨zqn.nodr,zUv.nodr,zMY.nodr,zMC,zxg.nodr,zMj.nodr,zLs.nodr,zSJ.nodr,z49.nodr,zZq.nodr,z0n.nodr,trivial⟩) call12 func12 (c:=body f12) (by kernel_rfl) (zTP (l:=[]) (by kernel_rfl) trivial (js:=[jn (body f12) 6]) (by kernel_rfl) ⟨z3U,trivial⟩) (sg:=⟨[.pure],[]⟩)
def z6d:AL base (yC×Int×Int×Unit):=zd (ze (vSl 28)) (zd (ze (zhM .i64)) (zd (ze (zhM .i64)) zp))
def zu8 (F:yC->Int->Int->Bool×Int):Ab.Spec ty:=zh z6d λx=>((F x.1 x.2.1 x.2.2.1).1,zOF (F x.1 x.2.1 x.2.2.1).2)
abbrev zi7:=yC×Int×Int×Int×Int×Int×Unit×Int×Unit
abbrev zNJ:=yC×Int×Int×Int×Int×Int×At
abbrev zNo:=yC×Int×Int×Int×Int×Int
abbrev zyp:=yC×Int×Int×Int×Int×Int×Unit
abbrev zN5:=yC×Int×Int×Int×Int
abbrev zx6:=yC×Int×Int×Int×Int×Unit
def zzD (zI:yC->Int->Int->Bool×Int) (a:yC) (limit:Int) (zdf:Int) (n_:Int) (i:Int) (k:Int) (j:Int) (x_:At):Wy zi7 (At×Unit) zNJ:=.i (decide (j<Int.ofNat x_.Ag.length)) (.i (decide (n_<=limit)) (.i (decide (0<=j)&&decide (j<Int.ofNat x_.Ag.length)) (.bn (zI (x_.Ag.getD j.toNat default) (IntKind.i64.wrap (limit - n_)) (IntKind.i64.wrap (zdf - 1))) λr0=>.h (a,limit,zdf,(IntKind.i64.wrap (n_+r0)),i,k,(),(IntKind.i64.wrap (j+1)),()) (x_,())) .d) (.k (a,limit,zdf,n_,i,k,x_))) (.k (a,limit,zdf,n_,i,k,x_))
def zGq (zI:yC->Int->Int->Bool×Int) (x:zi7) (y:At×Unit):=zzD zI x.1 x.2.1 x.2.2.1 x.2.2.2.1 x.2.2.2.2.1 x.2.2.2.2.2.1 x.2.2.2.2.2.2.2.1 y.1
def zzd (zI:yC->Int->Int->Bool×Int) (n:Nat) (a:yC) (limit:Int) (zdf:Int) (n_:Int) (i:Int) (k:Int) (j:Int) (x_:At):=zH (zGq zI) default n (a,limit,zdf,n_,i,k,(),j,()) (x_,())
def zUl (r:zNJ):LTree ty:=.done (.exit 4) [.sl 28 r.1,.lit (.int .i64 r.2.1),.lit (.int .i64 r.2.2.1),.lit (.int .i64 r.2.2.2.1),.lit (.int .i64 r.2.2.2.2.1),.lit (.int .i64 r.2.2.2.2.2.1),.ptr 544 0] [.box (base.enc 67 r.2.2.2.2.2.2) false]
def zW9:LL ty zi7:=za (lSl 28) (za zj (za zj (za zj (za zj (za zj (za (zfa 544 0) (za zj zm)))))))
def zzB (zI:yC->Int->Int->Bool×Int) (a:yC) (limit:Int) (zdf:Int) (n_:Int) (i:Int) (k:Int) (j:Int) (x_:At):Wy zi7 (At×Unit) zNo:=.i (decide (j<Int.ofNat x_.Items.length)) (.i (decide (n_<=limit)) (.i (decide (0<=j)&&decide (j<Int.ofNat x_.Items.length)) (.i (decide (0<=j)&&decide (j<Int.ofNat x_.Items.length)) (.bn (zI (x_.Items.getD j.toNat default).Ann (IntKind.i64.wrap (limit - n_)) (IntKind.i64.wrap (zdf - 1))) λr2=>.h (a,limit,zdf,(IntKind.i64.wrap (IntKind.i64.wrap (n_+Int.ofNat (x_.Items.getD j.toNat default).Value.Text.size)+r2)),i,k,(),(IntKind.i64.wrap (j+1)),()) (x_,())) .d) .d) (.k (a,limit,zdf,n_,i,k))) (.k (a,limit,zdf,n_,i,k))
def zHl (zI:yC->Int->Int->Bool×Int) (x:zi7) (y:At×Unit):=zzB zI x.1 x.2.1 x.2.2.1 x.2.2.2.1 x.2.2.2.2.1 x.2.2.2.2.2.1 x.2.2.2.2.2.2.2.1 y.1
def zyL (zI:yC->Int->Int->Bool×Int) (n:Nat) (a:yC) (limit:Int) (zdf:Int) (n_:Int) (i:Int) (k:Int) (j:Int) (x_:At):=zH (zHl zI) default n (a,limit,zdf,n_,i,k,(),j,()) (x_,())
def zVw (r:zNo):LTree ty:=.done (.exit 6) [.sl 28 r.1,.lit (.int .i64 r.2.1),.lit (.int .i64 r.2.2.1),.lit (.int .i64 r.2.2.2.1),.lit (.int .i64 r.2.2.2.2.1),.lit (.int .i64 r.2.2.2.2.2)] []
def zAN (zI:yC->Int->Int->Bool×Int) (a:yC) (limit:Int) (zdf:Int) (n_:Int) (i:Int) (k:Int):Wy zyp Unit zN5:=.i (decide (0<=i)&&decide (i<Int.ofNat a.length)) (.i (decide (k<Int.ofNat (a.getD i.toNat default).Fs.length)) (.i (decide (n_<=limit)) (.i (decide (0<=i)&&decide (i<Int.ofNat a.length)) (.i (decide (0<=k)&&decide (k<Int.ofNat (a.getD i.toNat default).Fs.length)) (.bn (zzd zI (a.length+limit.toNat +zdf.toNat +(IntKind.i64.wrap (IntKind.i64.wrap (IntKind.i64.wrap (n_+Int.ofNat ((a.getD i.toNat default).Fs.getD k.toNat default).At.Items.length)+Int.ofNat ((a.getD i.toNat default).Fs.getD k.toNat default).At.Ag.length)+Int.ofNat ((a.getD i.toNat default).Fs.getD k.toNat default).At.Bd.Text.size)).toNat +i.toNat +k.toNat +Int.toNat 0+((a.getD i.toNat default).Fs.getD k.toNat default).At.Ag.length+((a.getD i.toNat default).Fs.getD k.toNat default).At.Items.length+1) a limit zdf (IntKind.i64.wrap (IntKind.i64.wrap (IntKind.i64.wrap (n_+Int.ofNat ((a.getD i.toNat default).Fs.getD k.toNat default).At.Items.length)+Int.ofNat ((a.getD i.toNat default).Fs.getD k.toNat default).At.Ag.length)+Int.ofNat ((a.getD i.toNat default).Fs.getD k.toNat default).At.Bd.Text.size)) i k 0 (At.mk ((a.getD i.toNat default).Fs.getD k.toNat default).At.Kind ((a.getD i.toNat default).Fs.getD k.toNat default).At.Row ((a.getD i.toNat default).Fs.getD k.toNat default).At.Ag ((a.getD i.toNat default).Fs.getD k.toNat default).At.Func ((a.getD i.toNat default).Fs.getD k.toNat default).At.Items ((a.getD i.toNat default).Fs.getD k.toNat default).At.Op ((a.getD i.toNat default).Fs.getD k.toNat default).At.Bd)) λr5=>.bn (zyL zI (r5.1.length+r5.2.1.toNat +r5.2.2.1.toNat +r5.2.2.2.1.toNat +r5.2.2.2.2.1.toNat +r5.2.2.2.2.2.1.toNat +Int.toNat 0+r5.2.2.2.2.2.2.Ag.length+r5.2.2.2.2.2.2.Items.length+1) r5.1 r5.2.1 r5.2.2.1 r5.2.2.2.1 r5.2.2.2.2.1 r5.2.2.2.2.2.1 0 (At.mk r5.2.2.2.2.2.2.Kind r5.2.2.2.2.2.2.Row r5.2.2.2.2.2.2.Ag r5.2.2.2.2.2.2.Func r5.2.2.2.2.2.2.Items r5.2.2.2.2.2.2.Op r5.2.2.2.2.2.2.Bd)) λr4=>.h ((r4.1),(r4.2.1),(r4.2.2.1),(r4.2.2.2.1),(r4.2.2.2.2.1),(IntKind.i64.wrap (r4.2.2.2.2.2+1)),()) ()) .d) .d) (.k (a,limit,zdf,n_,i))) (.k (a,limit,zdf,n_,i))) .d
def zI6 (zI:yC->Int->Int->Bool×Int) (x:zyp) (y:Unit):=zAN zI x.1 x.2.1 x.2.2.1 x.2.2.2.1 x.2.2.2.2.1 x.2.2.2.2.2.1
def zAz (zI:yC->Int->Int->Bool×Int) (n:Nat) (a:yC) (limit:Int) (zdf:Int) (n_:Int) (i:Int) (k:Int):=zH (zI6 zI) default n (a,limit,zdf,n_,i,k,()) ()
def zXR (r:zN5):LTree ty:=.done (.exit 2) [.sl 28 r.1,.lit (.int .i64 r.2.1),.lit (.int .i64 r.2.2.1),.lit (.int .i64 r.2.2.2.1),.lit (.int .i64 r.2.2.2.2)] []
def z0B:LL ty zyp:=za (lSl 28) (za zj (za zj (za zj (za zj (za zj zm)))))
def zA0 (zI:yC->Int->Int->Bool×Int) (a:yC) (limit:Int) (zdf:Int) (n_:Int) (i:Int):Wy zx6 Unit (Int):=.i (decide (i<Int.ofNat a.length)) (.i (decide (n_<=limit)) (.i (decide (0<=i)&&decide (i<Int.ofNat a.length)) (.bn (zAz zI (a.length+limit.toNat +zdf.toNat +(IntKind.i64.wrap (IntKind.i64.wrap (n_+1)+Int.ofNat (a.getD i.toNat default).Fs.length)).toNat +i.toNat +Int.toNat 0+1) a limit zdf (IntKind.i64.wrap (IntKind.i64.wrap (n_+1)+Int.ofNat (a.getD i.toNat default).Fs.length)) i 0) λr8=>.h ((r8.1),(r8.2.1),(r8.2.2.1),(r8.2.2.2.1),(IntKind.i64.wrap (r8.2.2.2.2+1)),()) ()) .d) (.k n_)) (.k n_)
def zJe (zI:yC->Int->Int->Bool×Int) (x:zx6) (y:Unit):=zA0 zI x.1 x.2.1 x.2.2.1 x.2.2.2.1 x.2.2.2.2.1
def zAQ (zI:yC->Int->Int->Bool×Int) (n:Nat) (a:yC) (limit:Int) (zdf:Int) (n_:Int) (i:Int):=zH (zJe zI) default n (a,limit,zdf,n_,i,()) ()
def z0C:LL ty zx6:=za (lSl 28) (za zj (za zj (za zj (za zj zm))))
def zUC (x:zi7) (y:At×Unit):Nat:=(x.1.length+Int.toNat x.2.1+Int.toNat x.2.2.1+Int.toNat x.2.2.2.1+Int.toNat x.2.2.2.2.1+Int.toNat x.2.2.2.2.2.1+Int.toNat x.2.2.2.2.2.2.2.1+y.1.Ag.length+y.1.Items.length+1)
def zVY (x:zyp) (y:Unit):Nat:=(x.1.length+Int.toNat x.2.1+Int.toNat x.2.2.1+Int.toNat x.2.2.2.1+Int.toNat x.2.2.2.2.1+Int.toNat x.2.2.2.2.2.1+1)
def zYj (x:zx6) (y:Unit):Nat:=(x.1.length+Int.toNat x.2.1+Int.toNat x.2.2.1+Int.toNat x.2.2.2.1+Int.toNat x.2.2.2.2.1+1)
def zn8 (zI:yC->Int->Int->Bool×Int):=zbZ base 136 [(48,(zu8 zI))] [] [(5,(kpL [0,1,2,7,8])),(9,(kpL [0,1,2,7,8,9])),(14,(kpL [0,1,2,7,8,9,10,11])),(18,(kpL [0,1,2,7,8,9,10,12]))] [(5,1,(kpL [7])),(9,3,(kpL [0,1,2,7,8])),(14,5,(kpL [0,1,2,7,8,9,10])),(18,7,(kpL [0,1,2,7,8,9]))] [(14,spW zW9 zUH (zGq zI) default zUl zUC),(18,spW zW9 zUH (zHl zI) default zVw zUC),(9,spW z0B z8a (zI6 zI) default zXR zVY),(5,spW z0C z8a (zJe zI) default zP6 zYj)] []
theorem zUG (zI:yC->Int->Int->Bool×Int):zD (zn8 zI) (lp (body f48) 2):=zq (id:=14) (hl:=rfl)
theorem zVd (zI:yC->Int->Int->Bool×Int):zD (zn8 zI) (lp (body f48) 3):=zq (id:=18) (hl:=rfl)
theorem zXC (zI:yC->Int->Int->Bool×Int):zD (zn8 zI) (lp (body f48) 1):=zq (id:=9) (hl:=rfl)
theorem zV4 (zI:yC->Int->Int->Bool×Int):zD (zn8 zI) (lp (body f48) 0):=zq (id:=5) (hl:=rfl)
def zBX (zI:yC->Int->Int->Bool×Int) (a:yC) (limit:Int) (zdf:Int):Wy0 (Int):=.i (zdf==0) (.k (IntKind.i64.wrap (limit+1))) (.bn (zAQ zI (a.length+limit.toNat +zdf.toNat +Int.toNat 0+Int.toNat 0+1) a limit zdf 0 0) λr10=>.k r10)
def zuZ (zI:yC->Int->Int->Bool×Int) (a:yC) (limit:Int) (zdf:Int):=(zBX zI a limit zdf).fin default
theorem zTt (zI:yC->Int->Int->Bool×Int) (z2g:SdP 48 (zu8 zI)):SdP 48 (zu8 (zuZ zI)):=
 sT (cx':=(zn8 zI)) (zi ⟨z2g,trivial⟩) call48 func48 (lOK (aC (zV4 zI) (aC (zXC zI) (aC (zUG zI) (aC (zVd zI) aN)))))
def z0R:Nat->(yC->Int->Int->Bool×Int)
 | 0=>λ_ _ _=>(false,default)
 | n+1=>zuZ (z0R n)
def zpE (n:Nat):yC->Int->Int->Bool×Int:=z0R n
theorem zJc (n:Nat):zpE (n+1)=zuZ (zpE n):=rfl
theorem zT2:∀ n,SdP 48 (zu8 (zpE n))
 | 0=>zba call48 (λ_=>rfl)
 | n+1=>by
  have ih:=zT2 n;exact zTt _ (ih)
def zLe:yC->Int->Int->Bool×Int:=zpE 1000
def zIY:Ab.Spec ty:=zu8 zLe
theorem zWV:SdP 48 zIY:=(zT2 1000)
abbrev zD5:=Int×yA×Int×Unit
def zLX (limit:Int) (l:yA) (i:Int):Wy zD5 Unit (Bool⊕Unit):=.i (decide (i<Int.ofNat l.length)) (.i (decide (0<=i)&&decide (i<Int.ofNat l.length)) (.bn (zLe (l.getD i.toNat default) limit 12) λr0=>.i (decide (r0>limit)) (.k (.inl false)) (.h (limit,l,(IntKind.i64.wrap (i+1)),()) ())) .d) (.k (.inr ()))
def zWT (x:zD5) (y:Unit):=zLX x.1 x.2.1 x.2.2.1
def zLz (n:Nat) (limit:Int) (l:yA) (i:Int):=zH (zWT) (.inl default) n (limit,l,i,()) ()
def zbay:LL ty zD5:=za zj (za (lSl 23) (za zj zm))
def z8B (x:zD5) (y:Unit):Nat:=(Int.toNat x.1+x.2.1.length+Int.toNat x.2.2.1+1)
def zV7:=zbZ base 20 [(48,zIY)] [] [(2,(kpL [0,1,5]))] [(2,1,[]),(2,0,(kpL [4]))] [(2,spW zbay z8a (zWT) (.inl default) zOn z8B)] []
theorem z8x:zD zV7 (lp (body f13) 0):=zq (id:=2) (hl:=rfl)
def z0P (limit:Int) (l:yA):Wy0 (Bool):=.bn (zLz (limit.toNat +l.length+Int.toNat 0+1) limit l 0) λr2=>.i (isL r2) (.k (getL r2)) (.k true)
def zzC (limit:Int) (l:yA):=(z0P limit l).fin default
def zbaU:AL base (Int×yA×Unit):=zd (ze zha) (zd (ze (vSl 23)) zp)
def zP7:=zh zbaU λx=>((zzC x.1 x.2.1).1,zVf (zzC x.1 x.2.1).2)
theorem z4I:SdP 13 zP7:=
 sT (cx':=zV7) (zi ⟨zWV,trivial⟩) call13 func13 (lOK (aC z8x aN))
def z1X (r:yB×Bool):ARes ty:=⟨[.pure (.sl 43 r.1),.pure (.lit (.bool r.2))],[]⟩
def zvg (F:yC->Bool×(yB×Bool)):Ab.Spec ty:=zh zWH λx=>((F x.1).1,z1X (F x.1).2)
abbrev zDc:=yF×Unit×Int×Unit
abbrev zNE:=yF×Int×RowID
def zsj (l:yF) (i:Int) (id:RowID):Wy zDc (RowID×Unit) zNE:=.i (decide (i<Int.ofNat l.length)) (.i (decide (0<=i)&&decide (i<Int.ofNat l.length)) (.bn (zhW (l.getD i.toNat default) id) λr0=>.i (decide (r0<0)) (.h (l,(),(IntKind.i64.wrap (i+1)),()) (id,())) (.k (l,i,id))) .d) (.k (l,i,id))
def zDe (x:zDc) (y:RowID×Unit):=zsj x.1 x.2.2.1 y.1
def zNs (n:Nat) (l:yF) (i:Int) (id:RowID):=zH (zDe) default n (l,(),i,()) (id,())
def z2t (r:zNE):LTree ty:=.done (.exit 0) [.sl 49 r.1,.ptr 184 0,.lit (.int .i64 r.2.1)] [.box (base.enc 49 r.2.2) false]
def z3o:LL ty zDc:=za (lSl 49) (za (zfa 184 0) (za zj zm))
def zN4:=zbZ base 46 [(105,znt)] [] [(2,(kpL [0,3,5]))] [(2,1,(kpL [0,3,5]))] [(2,spW z3o zzE (zDe) default z2t λx y=>(x.1.length+Int.toNat x.2.2.1+1))] []
theorem z2d:zD zN4 (lp (body f147) 0):=zq (id:=2) (hl:=rfl)
def zQ1 (l:yF) (id:RowID):Wy0 (yF):=.bn (zNs (l.length+Int.toNat 0+1) l 0 id) λr2=>.i (decide (r2.2.1<Int.ofNat r2.1.length)) (.i (decide (0<=r2.2.1)&&decide (r2.2.1<Int.ofNat r2.1.length)) (.i ((r2.1.getD r2.2.1.toNat default).Table==r2.2.2.Table&&((r2.1.getD r2.2.1.toNat default).Seq==r2.2.2.Seq&&true)) (.k r2.1) (.i (decide ((0:Int)<=(0:Int))&&decide (0<=r2.2.1)&&decide (r2.2.1<=Int.ofNat r2.1.length)) (.i (decide ((0+(List.take (r2.2.1.toNat - Int.toNat 0) (List.drop (Int.toNat 0) r2.1)).length)*16<=z7)) (.i (decide ((([]++List.take (r2.2.1.toNat - Int.toNat 0) (List.drop (Int.toNat 0) r2.1)).length+[r2.2.2].length)*16<=z7)) (.i (decide (0<=r2.2.1)&&decide (r2.2.1<=Int.ofNat r2.1.length)&&decide (Int.ofNat r2.1.length<=Int.ofNat r2.1.length)) (.i (decide ((([]++List.take (r2.2.1.toNat - Int.toNat 0) (List.drop (Int.toNat 0) r2.1)++[r2.2.2]).length+(List.take ((Int.ofNat r2.1.length).toNat - r2.2.1.toNat) (List.drop r2.2.1.toNat r2.1)).length)*16<=z7)) (.k ([]++List.take (r2.2.1.toNat - Int.toNat 0) (List.drop (Int.toNat 0) r2.1)++[r2.2.2]++List.take ((Int.ofNat r2.1.length).toNat - r2.2.1.toNat) (List.drop r2.2.1.toNat r2.1))) .d) .d) .d) .d) .d)) .d) (.i (decide ((0:Int)<=(0:Int))&&decide (0<=r2.2.1)&&decide (r2.2.1<=Int.ofNat r2.1.length)) (.i (decide ((0+(List.take (r2.2.1.toNat - Int.toNat 0) (List.drop (Int.toNat 0) r2.1)).length)*16<=z7)) (.i (decide ((([]++List.take (r2.2.1.toNat - Int.toNat 0) (List.drop (Int.toNat 0) r2.1)).length+[r2.2.2].length)*16<=z7)) (.i (decide (0<=r2.2.1)&&decide (r2.2.1<=Int.ofNat r2.1.length)&&decide (Int.ofNat r2.1.length<=Int.ofNat r2.1.length)) (.i (decide ((([]++List.take (r2.2.1.toNat - Int.toNat 0) (List.drop (Int.toNat 0) r2.1)++[r2.2.2]).length+(List.take ((Int.ofNat r2.1.length).toNat - r2.2.1.toNat) (List.drop r2.2.1.toNat r2.1)).length)*16<=z7)) (.k ([]++List.take (r2.2.1.toNat - Int.toNat 0) (List.drop (Int.toNat 0) r2.1)++[r2.2.2]++List.take ((Int.ofNat r2.1.length).toNat - r2.2.1.toNat) (List.drop r2.2.1.toNat r2.1))) .d) .d) .d) .d) .d)
def zyR (l:yF) (id:RowID):=(zQ1 l id).fin default
def z1C (r:yF):ARes ty:=⟨[.pure (.sl 49 r)],[]⟩
def zIO:=zh zzN λx=>((zyR x.1 x.2.1).1,z1C (zyR x.1 x.2.1).2)
theorem zWJ:SdP 147 zIO:=
 sT (cx':=zN4) (zi ⟨ztw,trivial⟩) call147 func147 (lOK (aC z2d aN))
abbrev zz8:=yF×yF×Int×Unit
def zxs (a:yF) (b:yF) (i:Int):Wy zz8 Unit (yF):=.i (decide (i<Int.ofNat b.length)) (.i (decide (0<=i)&&decide (i<Int.ofNat b.length)) (.bn (zyR a (b.getD i.toNat default)) λr0=>.h ((r0),b,(IntKind.i64.wrap (i+1)),()) ()) .d) (.k a)
def zIL (x:zz8) (y:Unit):=zxs x.1 x.2.1 x.2.2.1
def zTS (n:Nat) (a:yF) (b:yF) (i:Int):=zH (zIL) default n (a,b,i,()) ()
def z5T (r:yF):LTree ty:=.done (.exit 0) [.sl 49 r] []
def z8c:LL ty zz8:=za (lSl 49) (za (lSl 49) (za zj zm))
def z6K (x:zz8) (y:Unit):Nat:=(x.1.length+x.2.1.length+Int.toNat x.2.2.1+1)
def zUc:=zbZ base 19 [(147,zIO)] [] [(2,(kpL [0,1,5]))] [(2,1,(kpL [0]))] [(2,spW z8c z8a (zIL) default z5T z6K)] []
theorem z5O:zD zUc (lp (body f146) 0):=zq (id:=2) (hl:=rfl)
def zYh (a:yF) (b:yF):Wy0 (yF):=.bn (zTS (a.length+b.length+Int.toNat 0+1) a b 0) λr2=>.k r2
def zzW (a:yF) (b:yF):=(zYh a b).fin default
def zNu:=zh zzT λx=>((zzW x.1 x.2.1).1,z1C (zzW x.1 x.2.1).2)
theorem z15:SdP 146 zNu:=
 sT (cx':=zUc) (zi ⟨zWJ,trivial⟩) call146 func146 (lOK (aC z5O aN))
abbrev zx4:=yF×yF×Int×Bool×Int×Unit
abbrev zNZ:=yF×yF×Int×Bool
abbrev zyf:=yF×yF×Int×Unit
def zsW (a:yF) (b:yF) (i:Int) (found:Bool) (k:Int):Wy zx4 Unit zNZ:=.i (decide (k<Int.ofNat b.length)) (.i (found) (.h (a,b,i,true,(IntKind.i64.wrap (k+1)),()) ()) (.i (decide (0<=i)&&decide (i<Int.ofNat a.length)) (.i (decide (0<=k)&&decide (k<Int.ofNat b.length)) (.h (a,b,i,((a.getD i.toNat default).Table==(b.getD k.toNat default).Table&&((a.getD i.toNat default).Seq==(b.getD k.toNat default).Seq&&true)),(IntKind.i64.wrap (k+1)),()) ()) .d) .d)) (.k (a,b,i,found))
def zEa (x:zx4) (y:Unit):=zsW x.1 x.2.1 x.2.2.1 x.2.2.2.1 x.2.2.2.2.1
def zEj (n:Nat) (a:yF) (b:yF) (i:Int) (found:Bool) (k:Int):=zH (zEa) default n (a,b,i,found,k,()) ()
def z1Y (r:zNZ):LTree ty:=.done (.exit 2) [.sl 49 r.1,.sl 49 r.2.1,.lit (.int .i64 r.2.2.1),.lit (.bool r.2.2.2)] []
def z4S:LL ty zx4:=za (lSl 49) (za (lSl 49) (za zj (za zbfm (za zj zm))))
def zsX (a:yF) (b:yF) (i:Int):Wy zyf Unit (Bool⊕Unit):=.i (decide (i<Int.ofNat a.length)) (.bn (zEj (a.length+b.length+i.toNat +Int.toNat 0+1000) a b i false 0) λr0=>.i (!r0.2.2.2) (.k (.inl false)) (.h ((r0.1),(r0.2.1),(IntKind.i64.wrap (r0.2.2.1+1)),()) ())) (.k (.inr ()))
def zDX (x:zyf) (y:Unit):=zsX x.1 x.2.1 x.2.2.1
def zNz (n:Nat) (a:yF) (b:yF) (i:Int):=zH (zDX) (.inl default) n (a,b,i,()) ()
def z32:LL ty zyf:=za (lSl 49) (za (lSl 49) (za zj zm))
def z1p (x:zx4) (y:Unit):Nat:=(x.1.length+x.2.1.length+Int.toNat x.2.2.1+Int.toNat x.2.2.2.2.1+1000)
def z2J (x:zyf) (y:Unit):Nat:=(x.1.length+x.2.1.length+Int.toNat x.2.2.1+1000)
def zDl:=zbZ base 34 [] [] [(2,(kpL [0,1,5])),(6,(kpL [0,1,5,6,7]))] [(2,1,[]),(2,0,(kpL [4])),(6,3,(kpL [0,1,5,6]))] [(6,spW z4S z8a (zEa) default z1Y z1p),(2,spW z32 z8a (zDX) (.inl default) zOn z2J)] []
theorem z19:zD zDl (lp (body f80) 1):=zq (id:=6) (hl:=rfl)
theorem z2W:zD zDl (lp (body f80) 0):=zq (id:=2) (hl:=rfl)
def zQZ (a:yF) (b:yF):Wy0 (Bool):=.bn (zNz (a.length+b.length+Int.toNat 0+1000) a b 0) λr2=>.i (isL r2) (.k (getL r2)) (.k true)
def zuN (a:yF) (b:yF):=(zQZ a b).fin default
def zI1:=zh zzT λx=>((zuN x.1 x.2.1).1,zVf (zuN x.1 x.2.1).2)
theorem zWs:SdP 80 zI1:=
 sT (cx':=zDl) (zi trivial) call80 func80 (lOK (aC z2W (aC z19 aN)))
abbrev zyn:=yB×yF×Unit×Int×Unit
abbrev zjb:=yB×Unit
abbrev zNk:=yB⊕(yB×yF×yB)
abbrev zx3:=yB×yF×Unit×Bool×Int×Unit
abbrev zNR:=yF×Bool×yB
def zsz (l:yB) (s:yF) (i:Int) (out_:yB):Wy zyn zjb zNk:=.i (decide (i<Int.ofNat l.length)) (.i (decide (0<=i)&&decide (i<Int.ofNat l.length)) (.bn (zuN (l.getD i.toNat default) s) λr0=>.i (r0) (.k (.inl l)) (.h (l,s,(),(IntKind.i64.wrap (i+1)),()) (out_,()))) .d) (.k (.inr (l,s,out_)))
def zDt (x:zyn) (y:zjb):=zsz x.1 x.2.1 x.2.2.2.1 y.1
def zOb (n:Nat) (l:yB) (s:yF) (i:Int) (out_:yB):=zH (zDt) (.inl default) n (l,s,(),i,()) (out_,())
def z26 (r:zNk):LTree ty:=.ite (isL r) (.done .ret [.sl 43 (getL r)] []) (.done (.exit 0) [.sl 43 (getR r).1,.sl 49 (getR r).2.1,.own 256] [.arr 43 (getR r).2.2 false])
def z3t:LL ty zyn:=za (lSl 43) (za (lSl 49) (za (zes 256) (za zj zm)))
def z34:BL ty zjb:=zew 43 false (zbg)
def zso (l:yB) (s:yF) (done:Bool) (i:Int) (out_:yB):Wy zx3 zjb zNR:=.i (decide (i<Int.ofNat l.length)) (.i (decide (0<=i)&&decide (i<Int.ofNat l.length)) (.bn (zuN s (l.getD i.toNat default)) λr3=>.i (r3) (.h (l,s,(),done,(IntKind.i64.wrap (i+1)),()) (out_,())) (.i (!done) (.i (decide (0<=i)&&decide (i<Int.ofNat l.length)) (.bn (zk9 s (l.getD i.toNat default)) λr2=>.i (decide (r2<0)) (.i (decide ((out_.length+[s].length)*24<=z7)) (.i (decide (0<=i)&&decide (i<Int.ofNat l.length)) (.i (decide (((out_++[s]).length+[l.getD i.toNat default].length)*24<=z7)) (.h (l,s,(),true,(IntKind.i64.wrap (i+1)),()) ((out_++[s]++[l.getD i.toNat default]),())) .d) .d) .d) (.i (decide (0<=i)&&decide (i<Int.ofNat l.length)) (.i (decide ((out_.length+[l.getD i.toNat default].length)*24<=z7)) (.h (l,s,(),done,(IntKind.i64.wrap (i+1)),()) ((out_++[l.getD i.toNat default]),())) .d) .d)) .d) (.i (decide (0<=i)&&decide (i<Int.ofNat l.length)) (.i (decide ((out_.length+[l.getD i.toNat default].length)*24<=z7)) (.h (l,s,(),done,(IntKind.i64.wrap (i+1)),()) ((out_++[l.getD i.toNat default]),())) .d) .d))) .d) (.k (s,done,out_))
def zDo (x:zx3) (y:zjb):=zso x.1 x.2.1 x.2.2.2.1 x.2.2.2.2.1 y.1
def zN9 (n:Nat) (l:yB) (s:yF) (done:Bool) (i:Int) (out_:yB):=zH (zDo) default n (l,s,(),done,i,()) (out_,())
def z2u (r:zNR):LTree ty:=.done (.exit 2) [.sl 49 r.1,.own 256,.lit (.bool r.2.1)] [.arr 43 r.2.2 false]
def z4t:LL ty zx3:=za (lSl 43) (za (lSl 49) (za (zes 256) (za zbfm (za zj zm))))
def z2M (x:zyn) (y:zjb):Nat:=(x.1.length+x.2.1.length+Int.toNat x.2.2.2.1+y.1.length+1000)
def z1M (x:zx3) (y:zjb):Nat:=(x.1.length+x.2.1.length+Int.toNat x.2.2.2.2.1+y.1.length+1000)
def zEc:=zbZ base 64 [(76,ztf),(80,zI1)] [] [(3,(kpL [0,1,5,6])),(9,(kpL [0,1,5,7,8]))] [(3,1,(kpL [0,1,5])),(3,0,(kpL [4])),(9,3,(kpL [1,5,7]))] [(3,spW z3t z34 (zDt) (.inl default) z26 z2M),(9,spW z4t z34 (zDo) default z2u z1M)] []
theorem z2x:zD zEc (lp (body f145) 0):=zq (id:=3) (hl:=rfl)
theorem z1E:zD zEc (lp (body f145) 1):=zq (id:=9) (hl:=rfl)
def zQt (l:yB) (s:yF):Wy0 (yB):=.bn (zOb (l.length+s.length+Int.toNat 0+0+1000) l s 0 []) λr7=>.i (isL r7) (.k (getL r7)) (.bn (zN9 ((getR r7).1.length+(getR r7).2.1.length+Int.toNat 0+(getR r7).2.2.length+1000) (getR r7).1 (getR r7).2.1 false 0 (getR r7).2.2) λr6=>.i (!r6.2.1) (.i (decide ((r6.2.2.length+[r6.1].length)*24<=z7)) (.k (r6.2.2++[r6.1])) .d) (.k r6.2.2))
def zuI (l:yB) (s:yF):=(zQt l s).fin default
def z2z (r:yB):ARes ty:=⟨[.pure (.sl 43 r)],[]⟩
def z6X:AL base (yB×yF×Unit):=zd (ze (vSl 43)) (zd (ze (vSl 49)) zp)
def zJg:=zh z6X λx=>((zuI x.1 x.2.1).1,z2z (zuI x.1 x.2.1).2)
theorem zWb:SdP 145 zJg:=
 sT (cx':=zEc) (zi ⟨zAb,zWs,trivial⟩) call145 func145 (lOK (aC z2x (aC z1E aN)))
abbrev zym:=yC×yB×Int×yB×Int×yB×yB×Int×Int×Unit
abbrev zNS:=yC×yB×Int×yB×Int×yB×yB×Int
abbrev zyh:=yC×yB×Int×yB×Int×yB×yB×Int×Unit
abbrev zNr:=yC×yB×Int×Int×yB
abbrev zi6:=yC×yB×Int×yB×Int×Unit
abbrev zN1:=Bool⊕(yC×yB×Int×yB)
abbrev zNy:=yC×yB×Int
abbrev zyv:=yC×yB×Int×Unit
abbrev zOe:=Bool⊕yB
def zmJ (zu:yC->Bool×(yB×Bool)) (a:yC) (out_:yB) (i:Int) (sets:yB) (k:Int) (own:yB) (next:yB) (j:Int) (n_:Int):Wy zym Unit zNS:=.i (decide (n_<Int.ofNat own.length)) (.i (decide (0<=j)&&decide (j<Int.ofNat sets.length)) (.i (decide (0<=n_)&&decide (n_<Int.ofNat own.length)) (.bn (zzW (sets.getD j.toNat default) (own.getD n_.toNat default)) λr37=>.bn (zuI next r37) λr36=>.h (a,out_,i,sets,k,own,(r36),j,(IntKind.i64.wrap (n_+1)),()) ()) .d) .d) (.k (a,out_,i,sets,k,own,next,j))
def zyS (zu:yC->Bool×(yB×Bool)) (x:zym) (y:Unit):=zmJ zu x.1 x.2.1 x.2.2.1 x.2.2.2.1 x.2.2.2.2.1 x.2.2.2.2.2.1 x.2.2.2.2.2.2.1 x.2.2.2.2.2.2.2.1 x.2.2.2.2.2.2.2.2.1
def zGG (zu:yC->Bool×(yB×Bool)) (n:Nat) (a:yC) (out_:yB) (i:Int) (sets:yB) (k:Int) (own:yB) (next:yB) (j:Int) (n_:Int):=zH (zyS zu) default n (a,out_,i,sets,k,own,next,j,n_,()) ()
def zUq (r:zNS):LTree ty:=.done (.exit 6) [.sl 28 r.1,.sl 43 r.2.1,.lit (.int .i64 r.2.2.1),.sl 43 r.2.2.2.1,.lit (.int .i64 r.2.2.2.2.1),.sl 43 r.2.2.2.2.2.1,.sl 43 r.2.2.2.2.2.2.1,.lit (.int .i64 r.2.2.2.2.2.2.2)] []
def zXO:LL ty zym:=za (lSl 28) (za (lSl 43) (za zj (za (lSl 43) (za zj (za (lSl 43) (za (lSl 43) (za zj (za zj zm))))))))
def zmM (zu:yC->Bool×(yB×Bool)) (a:yC) (out_:yB) (i:Int) (sets:yB) (k:Int) (own:yB) (next:yB) (j:Int):Wy zyh Unit zNr:=.i (decide (j<Int.ofNat sets.length)) (.bn (zGG zu (a.length+out_.length+i.toNat +sets.length+k.toNat +own.length+next.length+j.toNat +Int.toNat 0+1000) a out_ i sets k own next j 0) λr40=>.h ((r40.1),(r40.2.1),(r40.2.2.1),(r40.2.2.2.1),(r40.2.2.2.2.1),(r40.2.2.2.2.2.1),(r40.2.2.2.2.2.2.1),(IntKind.i64.wrap (r40.2.2.2.2.2.2.2+1)),()) ()) (.k (a,out_,i,k,next))
def zy9 (zu:yC->Bool×(yB×Bool)) (x:zyh) (y:Unit):=zmM zu x.1 x.2.1 x.2.2.1 x.2.2.2.1 x.2.2.2.2.1 x.2.2.2.2.2.1 x.2.2.2.2.2.2.1 x.2.2.2.2.2.2.2.1
def zsP (zu:yC->Bool×(yB×Bool)) (n:Nat) (a:yC) (out_:yB) (i:Int) (sets:yB) (k:Int) (own:yB) (next:yB) (j:Int):=zH (zy9 zu) default n (a,out_,i,sets,k,own,next,j,()) ()
def zVj (r:zNr):LTree ty:=.done (.exit 4) [.sl 28 r.1,.sl 43 r.2.1,.lit (.int .i64 r.2.2.1),.lit (.int .i64 r.2.2.2.1),.sl 43 r.2.2.2.2] []
def zWU:LL ty zyh:=za (lSl 28) (za (lSl 43) (za zj (za (lSl 43) (za zj (za (lSl 43) (za (lSl 43) (za zj zm)))))))
def zn0 (zu:yC->Bool×(yB×Bool)) (a:yC) (out_:yB) (i:Int) (sets:yB) (k:Int):Wy zi6 Unit zN1:=.i (decide (0<=i)&&decide (i<Int.ofNat a.length)) (.i (decide (k<Int.ofNat (a.getD i.toNat default).Fs.length)) (.i (decide (0<=i)&&decide (i<Int.ofNat a.length)) (.i (decide (0<=k)&&decide (k<Int.ofNat (a.getD i.toNat default).Fs.length)) (.i (((a.getD i.toNat default).Fs.getD k.toNat default).At.Kind==2) (.i (decide ((0:Int)<=(0:Int))&&decide (0<Int.ofNat ((a.getD i.toNat default).Fs.getD k.toNat default).At.Ag.length)) (.bn (zu (((a.getD i.toNat default).Fs.getD k.toNat default).At.Ag.getD (Int.toNat 0) default)) λr43=>.i (!r43.2) (.k (.inl false)) (.bn (zsP zu (a.length+out_.length+i.toNat +sets.length+k.toNat +r43.1.length+0+Int.toNat 0+1000) a out_ i sets k r43.1 [] 0) λr42=>.h ((r42.1),(r42.2.1),(r42.2.2.1),(r42.2.2.2.2),(IntKind.i64.wrap (r42.2.2.2.1+1)),()) ())) .d) (.i (((a.getD i.toNat default).Fs.getD k.toNat default).At.Kind != 0) (.k (.inl false)) (.bn (zsP zu (a.length+out_.length+i.toNat +sets.length+k.toNat +[[((a.getD i.toNat default).Fs.getD k.toNat default).At.Row]].length+0+Int.toNat 0+1000) a out_ i sets k [[((a.getD i.toNat default).Fs.getD k.toNat default).At.Row]] [] 0) λr44=>.h ((r44.1),(r44.2.1),(r44.2.2.1),(r44.2.2.2.2),(IntKind.i64.wrap (r44.2.2.2.1+1)),()) ()))) .d) .d) (.k (.inr (a,out_,i,sets)))) .d
def zAZ (zu:yC->Bool×(yB×Bool)) (x:zi6) (y:Unit):=zn0 zu x.1 x.2.1 x.2.2.1 x.2.2.2.1 x.2.2.2.2.1
def zAI (zu:yC->Bool×(yB×Bool)) (n:Nat) (a:yC) (out_:yB) (i:Int) (sets:yB) (k:Int):=zH (zAZ zu) (.inl default) n (a,out_,i,sets,k,()) ()
def zYz (r:zN1):LTree ty:=.ite (isL r) (.done .ret [.lit (.slice none 0 0),.lit (.bool (getL r))] []) (.done (.exit 2) [.sl 28 (getR r).1,.sl 43 (getR r).2.1,.lit (.int .i64 (getR r).2.2.1),.sl 43 (getR r).2.2.2] [])
def zZM:LL ty zi6:=za (lSl 28) (za (lSl 43) (za zj (za (lSl 43) (za zj zm))))
def zmw (zu:yC->Bool×(yB×Bool)) (a:yC) (out_:yB) (i:Int) (sets:yB) (j:Int):Wy zi6 Unit zNy:=.i (decide (j<Int.ofNat sets.length)) (.i (decide (0<=j)&&decide (j<Int.ofNat sets.length)) (.bn (zuI out_ (sets.getD j.toNat default)) λr48=>.h (a,(r48),i,sets,(IntKind.i64.wrap (j+1)),()) ()) .d) (.k (a,out_,i))
def zzr (zu:yC->Bool×(yB×Bool)) (x:zi6) (y:Unit):=zmw zu x.1 x.2.1 x.2.2.1 x.2.2.2.1 x.2.2.2.2.1
def zHF (zu:yC->Bool×(yB×Bool)) (n:Nat) (a:yC) (out_:yB) (i:Int) (sets:yB) (j:Int):=zH (zzr zu) default n (a,out_,i,sets,j,()) ()
def zU7 (r:zNy):LTree ty:=.done (.exit 8) [.sl 28 r.1,.sl 43 r.2.1,.lit (.int .i64 r.2.2)] []
def zoh (zu:yC->Bool×(yB×Bool)) (a:yC) (out_:yB) (i:Int):Wy zyv Unit zOe:=.i (decide (i<Int.ofNat a.length)) (.bn (zAI zu (a.length+out_.length+i.toNat +1+Int.toNat 0+1000) a out_ i [[]] 0) λr51=>.i (isL r51) (.k (.inl (getL r51))) (.bn (zHF zu ((getR r51).1.length+(getR r51).2.1.length+(getR r51).2.2.1.toNat +(getR r51).2.2.2.length+Int.toNat 0+1000) (getR r51).1 (getR r51).2.1 (getR r51).2.2.1 (getR r51).2.2.2 0) λr50=>.h ((r50.1),(r50.2.1),(IntKind.i64.wrap (r50.2.2+1)),()) ())) (.k (.inr out_))
def zA4 (zu:yC->Bool×(yB×Bool)) (x:zyv) (y:Unit):=zoh zu x.1 x.2.1 x.2.2.1
def zI0 (zu:yC->Bool×(yB×Bool)) (n:Nat) (a:yC) (out_:yB) (i:Int):=zH (zA4 zu) (.inl default) n (a,out_,i,()) ()
def zVZ (r:zOe):LTree ty:=.ite (isL r) (.done .ret [.lit (.slice none 0 0),.lit (.bool (getL r))] []) (.done (.exit 0) [.sl 43 (getR r)] [])
def zZj:LL ty zyv:=za (lSl 28) (za (lSl 43) (za zj zm))
def zUA (x:zym) (y:Unit):Nat:=(x.1.length+x.2.1.length+Int.toNat x.2.2.1+x.2.2.2.1.length+Int.toNat x.2.2.2.2.1+x.2.2.2.2.2.1.length+x.2.2.2.2.2.2.1.length+Int.toNat x.2.2.2.2.2.2.2.1+Int.toNat x.2.2.2.2.2.2.2.2.1+1000)
def zUP (x:zyh) (y:Unit):Nat:=(x.1.length+x.2.1.length+Int.toNat x.2.2.1+x.2.2.2.1.length+Int.toNat x.2.2.2.2.1+x.2.2.2.2.2.1.length+x.2.2.2.2.2.2.1.length+Int.toNat x.2.2.2.2.2.2.2.1+1000)
def zWo (x:zi6) (y:Unit):Nat:=(x.1.length+x.2.1.length+Int.toNat x.2.2.1+x.2.2.2.1.length+Int.toNat x.2.2.2.2.1+1000)
def zWS (x:zyv) (y:Unit):Nat:=(x.1.length+x.2.1.length+Int.toNat x.2.2.1+1000)
def zk8 (zu:yC->Bool×(yB×Bool)):=zbZ base 103 [(75,(zvg zu)),(145,zJg),(146,zNu)] [] [(3,[(0,.keep),(4,.sl 43),(5,.keep)]),(7,[(0,.keep),(4,.keep),(5,.keep),(6,.sl 43),(7,.keep)]),(20,[(0,.keep),(4,.keep),(5,.keep),(6,.keep),(7,.keep),(9,.sl 43),(12,.sl 43),(13,.keep)]),(23,[(0,.keep),(4,.keep),(5,.keep),(6,.keep),(7,.keep),(9,.keep),(12,.sl 43),(13,.keep),(14,.keep)]),(28,[(0,.keep),(4,.sl 43),(5,.keep),(6,.keep),(15,.keep)])] [(3,1,(kpL [4])),(3,0,(kpL [2,3])),(7,3,(kpL [0,4,5,6])),(7,0,(kpL [2,3])),(20,5,(kpL [0,4,5,7,12])),(23,7,(kpL [0,4,5,6,7,9,12,13])),(28,9,(kpL [0,4,5]))] [(23,spW zXO z8a (zyS zu) default zUq zUA),(20,spW zWU z8a (zy9 zu) default zVj zUP),(7,spW zZM z8a (zAZ zu) (.inl default) zYz zWo),(28,spW zZM z8a (zzr zu) default zU7 zWo),(3,spW zZj z8a (zA4 zu) (.inl default) zVZ zWS)] []
theorem zVt (zu:yC->Bool×(yB×Bool)):zD (zk8 zu) (lp (body f75) 3):=zq (id:=23) (hl:=rfl)
theorem zUk (zu:yC->Bool×(yB×Bool)):zD (zk8 zu) (lp (body f75) 2):=zq (id:=20) (hl:=rfl)
theorem zYy (zu:yC->Bool×(yB×Bool)):zD (zk8 zu) (lp (body f75) 1):=zq (id:=7) (hl:=rfl)
theorem zUI (zu:yC->Bool×(yB×Bool)):zD (zk8 zu) (lp (body f75) 4):=zq (id:=28) (hl:=rfl)
theorem zW1 (zu:yC->Bool×(yB×Bool)):zD (zk8 zu) (lp (body f75) 0):=zq (id:=3) (hl:=rfl)
def zK1 (zu:yC->Bool×(yB×Bool)) (a:yC):Wy0 (yB×Bool):=.bn (zI0 zu (a.length+0+Int.toNat 0+1000) a [] 0) λr54=>.i (isL r54) (.k ([],getL r54)) (.k (getR r54,true))
def zzR (zu:yC->Bool×(yB×Bool)) (a:yC):=(zK1 zu a).fin default
theorem zTA (zu:yC->Bool×(yB×Bool)) (z2b:SdP 75 (zvg zu)):SdP 75 (zvg (zzR zu)):=
 sT (cx':=(zk8 zu)) (zi ⟨z2b,zWb,z15,trivial⟩) call75 func75 (lOK (aC (zW1 zu) (aC (zYy zu) (aC (zUk zu) (aC (zVt zu) (aC (zUI zu) aN)))))) (sg:=⟨[.pure,.pure],[]⟩)
def z4N:Nat->(yC->Bool×(yB×Bool))
 | 0=>λ_=>(false,default)
 | n+1=>zzR (z4N n)
def zfH (n:Nat):yC->Bool×(yB×Bool):=z4N n
theorem zZS (n:Nat):zfH (n+1)=zzR (zfH n):=rfl
theorem zWa:∀ n,SdP 75 (zvg (zfH n))
 | 0=>zba call75 (λ_=>rfl)
 | n+1=>by
  have ih:=zWa n;exact zTA _ (ih)
def zLu:yC->Bool×(yB×Bool):=zfH 1000
def zIQ:Ab.Spec ty:=zvg zLu
theorem zWA:SdP 75 zIQ:=(zWa 1000)
def zV1:=zbq base 20 [(16,zB1),(75,zIQ)]
def zIU (a:yC):Wy0 (yB×Int):=.bn (zBe a) λr1=>.i (!r1) (.k ([],1)) (.bn (zLu a) λr0=>.i (!r0.2) (.k ([],13)) (.i (decide (Int.ofNat r0.1.length>512)) (.k ([],6)) (.k (r0.1,0))))
def zsC (a:yC):=(zIU a).fin default
def zUF (r:yB×Int):ARes ty:=⟨[.pure (.sl 43 r.1),.pure (.lit (.int .i64 r.2))],[]⟩
def zDj:=zh zWH λx=>((zsC x.1).1,zUF (zsC x.1).2)
theorem zPV:SdP 25 zDj:=
 sT (cx':=zV1) (zi ⟨zIZ,zWA,trivial⟩) call25 func25 (lOK aN) (sg:=⟨[.pure,.pure],[]⟩)
abbrev zdz:=yC×Unit
def zl1 (a:yC):Wy zdz Unit (Bool):=.bn (zk4 a) λr2=>.bn (zsC a) λr1=>.i (r2.2==r1.2) (.bn (zz9 r2.1 r1.1) λr0=>.k r0) (.k false)
def zl0 (x:zdz) (y:Unit):=zl1 x.1
def zuy (n:Nat) (a:yC):=zH (zl0) default n (a,()) ()
def zFA:LL ty zdz:=za (lSl 28) zm
def zl9 (a:yC):Wy zdz Unit (Bool):=.bn (zzC 40 [a]) λr7=>.i (!r7) (.k true) (.bn (zuy 1 a) λr6=>.k r6)
def zlZ (x:zdz) (y:Unit):=zl9 x.1
def zuJ (n:Nat) (a:yC):=zH (zlZ) default n (a,()) ()
def zl8:=z8H zbU 31 [(12,zLM),(13,zP7),(24,zop),(25,zDj),(26,zDH)] [] [(3,(kpL [0])),(5,(kpL [0]))] [(3,0,(kpL [2])),(5,0,(kpL [2]))] [] [] [(5,spW zFA z8a (zl0) default z4P λx y=>(1)),(3,spW zFA z8a (zlZ) default z4P λx y=>(1))]
theorem zEp:zPY zl8 (jn (body f5) 5):=z2E (id:=5) (hl:=rfl)
theorem zEC:zPY zl8 (jn (body f5) 3):=z2E (id:=3) (hl:=rfl)
def zvR (a:yC):Wy0 (Bool):=.bn (zuJ 1 a) λr10=>.k r10
def ze9 (a:yC):=(zvR a).fin default
def zGz:AL zbU zdz:=zd (ze (vSl 28)) zp
def zkI:=zh zGz λx=>((ze9 x.1).1,zVf (ze9 x.1).2)
theorem zCU:Sound Tryz.prog zbU 5 zkI:=
 zYL (cx':=zl8) zDg zLp zbbp (z9M ⟨zZ2,z4I.nodr,zxg.nodr,zPV.nodr,zMj.nodr,trivial⟩) call5 func5 (c:=body f5) (by kernel_rfl) (zTP (l:=[]) (by kernel_rfl) trivial (js:=[jn (body f5) 3,jn (body f5) 5]) (by kernel_rfl) ⟨zEC,zEp,trivial⟩) (sg:=⟨[.pure],[]⟩)
def trV (v:Value):TT:=.l [.i v.Kind,.i v.Int,trB v.Text]
mutual
def zfg:At->TT
 | ⟨k,r,a,f,i,o,b⟩=>.l [.i k,.i r.Table,.i r.Seq,.l (zwS a),.i f,.l (zhd i),.i o,trV b]
def zp7:Fc->TT
 | ⟨x,e⟩=>.l [zfg x,.i e]
def zb0:yD->List TT
 | []=>[]
 | x::r=>zp7 x::zb0 r
def zzA:Term->TT
 | ⟨c,fs⟩=>.l [.l (zb0 fs),.i c]
def zdr:yC->List TT
 | []=>[]
 | x::r=>zzA x::zdr r
def zwS:yA->List TT
 | []=>[]
 | x::r=>.l (zdr x)::zwS r
def zgm:Wd->TT
 | ⟨v,a⟩=>.l [trV v,.l (zdr a)]
def zhd:yE->List TT
 | []=>[]
 | x::r=>zgm x::zhd r
end
theorem zxq:∀ l,zb0 l=l.map zp7
 | []=>by rw [zb0]; rfl
 | x::r=>by rw [zb0,zxq r]; rfl
theorem zG8:∀ l,zdr l=l.map zzA
 | []=>by rw [zdr]; rfl
 | x::r=>by rw [zdr,zG8 r]; rfl
theorem zDS:∀ l,zwS l=l.map λx=>.l (zdr x)
 | []=>by rw [zwS]; rfl
 | x::r=>by rw [zwS,zDS r]; rfl
theorem ztm:∀ l,zhd l=l.map zgm
 | []=>by rw [zhd]; rfl
 | x::r=>by rw [zhd,ztm r]; rfl
theorem zHZ:∀ a b:List UInt8,(a.map λx=>TT.i (x.toNat:Int))=(b.map λx=>TT.i (x.toNat:Int))->a=b
 | [],[]=>λ_=>rfl
 | [],_::_=>λh=>by simp at h
 | _::_,[]=>λh=>by simp at h
 | x::a,y::b=>λh=>by
  simp only [List.map,qj,TT.i.injEq] at h;rw [zHZ a b h.2,UInt8.toNat_inj.1 (Int.ofNat.inj h.1)]
theorem zbbJ {a b:Value} (h:trV a=trV b):a=b:=by
 obtain ⟨k,n,s⟩:=a; obtain ⟨k',n',s'⟩:=b;simp only [trV,trB,TT.l.injEq,qj,TT.i.injEq,and_true] at h;obtain ⟨rfl,rfl,h⟩:=h;have:=zHZ _ _ h;obtain ⟨⟨l⟩⟩:=s; obtain ⟨⟨l'⟩⟩:=s';simp only at this; subst this; rfl
mutual
theorem z5o:∀ a b:At,zfg a=zfg b->a=b
 | ⟨k,r,a,f,i,o,v⟩,⟨k',r',a',f',i',o',v'⟩=>λh=>by
  simp only [zfg,TT.l.injEq,qj,TT.i.injEq,and_true] at h;obtain ⟨rfl,h1,h2,h3,rfl,h4,rfl,h5⟩:=h;obtain ⟨t,s⟩:=r; obtain ⟨t',s'⟩:=r';simp only at h1 h2; subst h1 h2;rw [z4L a a' h3,z1d i i' h4,zbbJ h5]
theorem zbaE:∀ a b:Fc,zp7 a=zp7 b->a=b
 | ⟨x,e⟩,⟨x',e'⟩=>λh=>by
  simp only [zp7,TT.l.injEq,qj,TT.i.injEq,and_true] at h;rw [z5o x x' h.1,h.2]
theorem zBD:∀ a b:yD,zb0 a=zb0 b->a=b
 | [],[]=>λ_=>rfl
 | [],_::_=>λh=>by simp [zb0] at h
 | _::_,[]=>λh=>by simp [zb0] at h
 | x::a,y::b=>λh=>by
  simp only [zb0,qj] at h;rw [zbaE x y h.1,zBD a b h.2]
theorem zbcI:∀ a b:Term,zzA a=zzA b->a=b
 | ⟨c,l⟩,⟨c',l'⟩=>λh=>by
  simp only [zzA,TT.l.injEq,qj,TT.i.injEq,and_true] at h;rw [zBD l l' h.1,h.2]
theorem zG4:∀ a b:yC,zdr a=zdr b->a=b
 | [],[]=>λ_=>rfl
 | [],_::_=>λh=>by simp [zdr] at h
 | _::_,[]=>λh=>by simp [zdr] at h
 | x::a,y::b=>λh=>by
  simp only [zdr,qj] at h;rw [zbcI x y h.1,zG4 a b h.2]
theorem z4L:∀ a b:yA,zwS a=zwS b->a=b
 | [],[]=>λ_=>rfl
 | [],_::_=>λh=>by simp [zwS] at h
 | _::_,[]=>λh=>by simp [zwS] at h
 | x::a,y::b=>λh=>by
  simp only [zwS,qj,TT.l.injEq] at h;rw [zG4 x y h.1,z4L a b h.2]
theorem zbcV:∀ a b:Wd,zgm a=zgm b->a=b
 | ⟨c,l⟩,⟨c',l'⟩=>λh=>by
  simp only [zgm,TT.l.injEq,qj,and_true] at h;rw [zbbJ h.1,zG4 l l' h.2]
theorem z1d:∀ a b:yE,zhd a=zhd b->a=b
 | [],[]=>λ_=>rfl
 | [],_::_=>λh=>by simp [zhd] at h
 | _::_,[]=>λh=>by simp [zhd] at h
 | x::a,y::b=>λh=>by
  simp only [zhd,qj] at h;rw [zbcV x y h.1,z1d a b h.2]
end
def zex (P:yC->Prop) (x:At):Prop:=
 (x.Ag.length<=1000000/\x.Items.length<=1000000/\x.Bd.Text.size<=1000000000000)/\(∀ a∈x.Ag,P a)/\∀ w∈x.Items,w.Value.Text.size<=1000000000000/\P w.Ann
def zgv (P:yC->Prop) (l:yD):Prop:=l.length<=1000000/\∀ f∈l,zex P f.At
def zF:Nat->yC->Prop
 | 0,_=>False
 | n+1,a=>a.length<=1000000/\∀ t∈a,zgv (zF n) t.Fs
theorem zex.imp {P Q:yC->Prop} (h:∀ a,P a->Q a) {x:At} (hx:zex P x):zex Q x:=⟨hx.1,λa ha=>h a (hx.2.1 a ha),λw hw=>⟨(hx.2.2 w hw).1,h _ (hx.2.2 w hw).2⟩⟩
theorem zF.succ:∀ (n:Nat) (a:yC),zF n a->zF (n+1) a
 | 0,_,h=>h.elim
 | n+1,a,h=>⟨h.1,λt ht=>⟨(h.2 t ht).1,λf hf=>((h.2 t ht).2 f hf).imp (zF.succ n)⟩⟩
theorem zF.mono {n m:Nat} {a:yC} (h:zF n a) (hm:n<=m):zF m a:=by
 obtain ⟨k,rfl⟩:=Nat.exists_eq_add_of_le hm;clear hm;induction k with
 | zero=>exact h
 | succ k ih=>exact zF.succ _ _ ih
end Go.Proofs.YtljlfiomikifjaaGreatDoor
end
