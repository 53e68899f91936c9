/- Texts of this claim, joined (the program, its functions in plain words, and what they compute). -/
import Derived.Test.YtljlfiomikifjaaGreatDoorGC5
set_option autoImplicit false
set_option linter.unusedVariables false
set_option linter.unusedSectionVars false
set_option linter.unusedSimpArgs false
set_option maxRecDepth 1000000
set_option maxHeartbeats 0
noncomputable section
namespace Go.Proofs.YtljlfiomikifjaaGreatDoor
open Go Go.Ab
open Go.Proofs.Tryz
abbrev zA5:=yC×Int×Unit×Int×Unit
abbrev zRG:=Bool⊕(yC×Int)
abbrev zA1:=yC×Int×Unit
def zoD (zZ:At→Bool×Bool) (a:yC) (i:Int) (k:Int) (t:Term):Wy zA5 (Term×Unit) zRG:=.i (decide (k<Int.ofNat t.Fs.length)) (.i (decide (0≤k)&&decide (k<Int.ofNat t.Fs.length)) (.i (decide ((t.Fs.getD k.toNat default).Exp<1)) (.k (.inl false)) (.i (decide ((t.Fs.getD k.toNat default).Exp>1)) (.i (decide ((t.Fs.getD k.toNat default).At.Kind≥3)) (.k (.inl false)) (.bn (zZ (At.mk (t.Fs.getD k.toNat default).At.Kind (t.Fs.getD k.toNat default).At.Row (t.Fs.getD k.toNat default).At.Ag (t.Fs.getD k.toNat default).At.Func (t.Fs.getD k.toNat default).At.Items (t.Fs.getD k.toNat default).At.Op (t.Fs.getD k.toNat default).At.Bd)) fun r1=>.i (!r1) (.k (.inl false)) (.i (decide (k>0)) (.i (decide (0≤IntKind.i64.wrap (k - 1))&&decide (IntKind.i64.wrap (k - 1)<Int.ofNat t.Fs.length)) (.bn (zlI (At.mk (t.Fs.getD (IntKind.i64.wrap (k - 1)).toNat default).At.Kind (t.Fs.getD (IntKind.i64.wrap (k - 1)).toNat default).At.Row (t.Fs.getD (IntKind.i64.wrap (k - 1)).toNat default).At.Ag (t.Fs.getD (IntKind.i64.wrap (k - 1)).toNat default).At.Func (t.Fs.getD (IntKind.i64.wrap (k - 1)).toNat default).At.Items (t.Fs.getD (IntKind.i64.wrap (k - 1)).toNat default).At.Op (t.Fs.getD (IntKind.i64.wrap (k - 1)).toNat default).At.Bd) (At.mk (t.Fs.getD k.toNat default).At.Kind (t.Fs.getD k.toNat default).At.Row (t.Fs.getD k.toNat default).At.Ag (t.Fs.getD k.toNat default).At.Func (t.Fs.getD k.toNat default).At.Items (t.Fs.getD k.toNat default).At.Op (t.Fs.getD k.toNat default).At.Bd)) fun r0=>.i (decide (r0≥0)) (.k (.inl false)) (.h (a,i,(),(IntKind.i64.wrap (k+1)),()) (t,()))) .d) (.h (a,i,(),(IntKind.i64.wrap (k+1)),()) (t,()))))) (.bn (zZ (At.mk (t.Fs.getD k.toNat default).At.Kind (t.Fs.getD k.toNat default).At.Row (t.Fs.getD k.toNat default).At.Ag (t.Fs.getD k.toNat default).At.Func (t.Fs.getD k.toNat default).At.Items (t.Fs.getD k.toNat default).At.Op (t.Fs.getD k.toNat default).At.Bd)) fun r3=>.i (!r3) (.k (.inl false)) (.i (decide (k>0)) (.i (decide (0≤IntKind.i64.wrap (k - 1))&&decide (IntKind.i64.wrap (k - 1)<Int.ofNat t.Fs.length)) (.bn (zlI (At.mk (t.Fs.getD (IntKind.i64.wrap (k - 1)).toNat default).At.Kind (t.Fs.getD (IntKind.i64.wrap (k - 1)).toNat default).At.Row (t.Fs.getD (IntKind.i64.wrap (k - 1)).toNat default).At.Ag (t.Fs.getD (IntKind.i64.wrap (k - 1)).toNat default).At.Func (t.Fs.getD (IntKind.i64.wrap (k - 1)).toNat default).At.Items (t.Fs.getD (IntKind.i64.wrap (k - 1)).toNat default).At.Op (t.Fs.getD (IntKind.i64.wrap (k - 1)).toNat default).At.Bd) (At.mk (t.Fs.getD k.toNat default).At.Kind (t.Fs.getD k.toNat default).At.Row (t.Fs.getD k.toNat default).At.Ag (t.Fs.getD k.toNat default).At.Func (t.Fs.getD k.toNat default).At.Items (t.Fs.getD k.toNat default).At.Op (t.Fs.getD k.toNat default).At.Bd)) fun r2=>.i (decide (r2≥0)) (.k (.inl false)) (.h (a,i,(),(IntKind.i64.wrap (k+1)),()) (t,()))) .d) (.h (a,i,(),(IntKind.i64.wrap (k+1)),()) (t,())))))) .d) (.k (.inr (a,i)))
def zBX (zZ:At→Bool×Bool) (x:zA5) (y:Term×Unit):=zoD zZ x.1 x.2.1 x.2.2.2.1 y.1
def zBD (zZ:At→Bool×Bool) (n:Nat) (a:yC) (i:Int) (k:Int) (t:Term):=zH (zBX zZ) (.inl default) n (a,i,(),k,()) (t,())
def zWz (r:zRG):LTree ty:=.ite (isL r) (.done .ret [.lit (.bool (getL r))] []) (.done (.exit 2) [.sl 28 (getR r).1,.lit (.int .i64 (getR r).2)] [])
def zZC:LL ty zA5:=za (lSl 28) (za zj (za (zft 372 0) (za zj zn)))
def zqG (zZ:At→Bool×Bool) (a:yC) (i:Int):Wy zA1 (Unit) (Bool⊕Unit):=.i (decide (i<Int.ofNat a.length)) (.i (decide (0≤i)&&decide (i<Int.ofNat a.length)) (.i (decide ((a.getD i.toNat default).Cf<1)) (.k (.inl false)) (.i (decide ((a.getD i.toNat default).Cf>1152921504606846976)) (.k (.inl false)) (.i (decide (i>0)) (.i (decide (0≤IntKind.i64.wrap (i - 1))&&decide (IntKind.i64.wrap (i - 1)<Int.ofNat a.length)) (.bn (zls (a.getD (IntKind.i64.wrap (i - 1)).toNat default).Fs (a.getD i.toNat default).Fs) fun r9=>.i (decide (r9≥0)) (.k (.inl false)) (.bn (zBD zZ ((a.length+i.toNat +Int.toNat 0+(a.getD i.toNat default).Fs.length+1)+zb2 a) a i 0 (a.getD i.toNat default)) fun r8=>.i (isL r8) (.k (.inl (getL r8))) (.h ((getR r8).1,(IntKind.i64.wrap ((getR r8).2+1)),()) ()))) .d) (.bn (zBD zZ ((a.length+i.toNat +Int.toNat 0+(a.getD i.toNat default).Fs.length+1)+zb2 a) a i 0 (a.getD i.toNat default)) fun r10=>.i (isL r10) (.k (.inl (getL r10))) (.h ((getR r10).1,(IntKind.i64.wrap ((getR r10).2+1)),()) ()))))) .d) (.k (.inr ()))
def zCR (zZ:At→Bool×Bool) (x:zA1) (y:Unit):=zqG zZ x.1 x.2.1
def zLB (zZ:At→Bool×Bool) (n:Nat) (a:yC) (i:Int):=zH (zCR zZ) (.inl default) n (a,i,()) ()
def z2R:LL ty zA1:=za (lSl 28) (za zj zn)
def zWW (x:zA5) (y:Term×Unit):Nat:=((x.1.length+Int.toNat x.2.1+Int.toNat x.2.2.2.1+y.1.Fs.length+1)+zb2 x.1)
def z0r (x:zA1) (y:Unit):Nat:=((x.1.length+Int.toNat x.2.1+1)+zb2 x.1)
def zCQ (zZ:At→Bool×Bool):=zb5 base 93 [(34,zo7),(53,zuD),(54,zE0),(55,(zmS zZ))] [] [(4,(kpL [0,3])),(10,(kpL [0,3,4,5]))] [(4,1,[]),(4,0,(kpL [2])),(10,3,(kpL [0,3])),(10,0,(kpL [2]))] [(10,spW zZC zRX (zBX zZ) (.inl default) zWz zWW),(4,spW z2R z7V (zCR zZ) (.inl default) zQe z0r)] []
theorem zXa (zZ:At→Bool×Bool):zM (zCQ zZ) (lp (body f16) 1):=zw (id:=10) (hl:=rfl)
theorem z0t (zZ:At→Bool×Bool):zM (zCQ zZ) (lp (body f16) 0):=zw (id:=4) (hl:=rfl)
def zOE (zZ:At→Bool×Bool) (a:yC):Wy0 (Bool):=.bn (zA2 a) fun r15=>.i (!r15) (.k false) (.bn (zLB zZ ((a.length+Int.toNat 0+1)+zb2 a) a 0) fun r14=>.i (isL r14) (.k (getL r14)) (.k true))
def zxO (zZ:At→Bool×Bool) (a:yC):=(zOE zZ a).fin default
theorem zVD (zZ:At→Bool×Bool) (zVq:SdP 55 (zmS zZ)):SdP 16 (zhF (zxO zZ)):=
 sT (cx':=(zCQ zZ)) (zi ⟨zxC,zBb,zMC,zVq,trivial⟩) call16 func16 (lOK (aC (z0t zZ) (aC (zXa zZ) aN)))
def z7p:=zbq base 9 [(89,zHh)]
def zWo (a:yC) (b:yC):Wy0 (Bool):=.bn (zIy a b) fun r0=>.k (r0==0)
def ztn (a:yC) (b:yC):=(zWo a b).fin default
def zEt:=zh zTM fun x=>((ztn x.1 x.2.1).1,zVj (ztn x.1 x.2.1).2)
theorem zML:SdP 30 zEt:=
 sT (cx':=z7p) (zi ⟨zVL,trivial⟩) call30 func30 (lOK aN)
def z4A:=zbq base 42 []
def zRR (a:yC):Wy0 (Bool):=.i (Int.ofNat a.length==1) (.i (decide ((0:Int)≤(0:Int))&&decide (0<Int.ofNat a.length)) (.i ((a.getD (Int.toNat 0) default).Cf==1) (.i (decide ((0:Int)≤(0:Int))&&decide (0<Int.ofNat a.length)) (.i (Int.ofNat (a.getD (Int.toNat 0) default).Fs.length==1) (.i (decide ((0:Int)≤(0:Int))&&decide (0<Int.ofNat a.length)) (.i (decide ((0:Int)≤(0:Int))&&decide (0<Int.ofNat (a.getD (Int.toNat 0) default).Fs.length)) (.i (decide (((a.getD (Int.toNat 0) default).Fs.getD (Int.toNat 0) default).At.Kind≥2)) (.i (decide ((0:Int)≤(0:Int))&&decide (0<Int.ofNat a.length)) (.i (decide ((0:Int)≤(0:Int))&&decide (0<Int.ofNat (a.getD (Int.toNat 0) default).Fs.length)) (.k (((a.getD (Int.toNat 0) default).Fs.getD (Int.toNat 0) default).Exp==1)) .d) .d) (.k false)) .d) .d) (.k false)) .d) (.k false)) .d) (.k false)
def zq8 (a:yC):=(zRR a).fin default
def zBF:=zh zXg fun x=>((zq8 x.1).1,zVj (zq8 x.1).2)
theorem zHc:SdP 99 zBF:=
 sT (cx':=z4A) (zi trivial) call99 func99 (lOK aN)
abbrev zBV:=yC×Int×Unit
def zoU (a:yC) (i:Int):Wy zBV (Unit) (Bool⊕Unit):=.i (decide (i<Int.ofNat a.length)) (.i (decide (0≤i)&&decide (i<Int.ofNat a.length)) (.i (Int.ofNat (a.getD i.toNat default).Fs.length==0) (.k (.inl true)) (.h (a,(IntKind.i64.wrap (i+1)),()) ())) .d) (.k (.inr ()))
def zBZ (x:zBV) (y:Unit):=zoU x.1 x.2.1
def zJw (n:Nat) (a:yC) (i:Int):=zH (zBZ) (.inl default) n (a,i,()) ()
def zZA:LL ty zBV:=za (lSl 28) (za zj zn)
def zJD:=zb5 base 17 [] [] [(2,(kpL [0,3]))] [(2,1,[]),(2,0,(kpL [2]))] [(2,spW zZA z7V (zBZ) (.inl default) zQe fun x y=>(x.1.length+Int.toNat x.2.1+1))] []
theorem zYo:zM zJD (lp (body f100) 0):=zw (id:=2) (hl:=rfl)
def zMW (a:yC):Wy0 (Bool):=.bn (zJw (a.length+Int.toNat 0+1) a 0) fun r0=>.i (isL r0) (.k (getL r0)) (.k false)
def ziD (a:yC):=(zMW a).fin default
def zyx:=zh zXg fun x=>((ziD x.1).1,zVj (ziD x.1).2)
theorem zE1:SdP 100 zyx:=
 sT (cx':=zJD) (zi trivial) call100 func100 (lOK (aC zYo aN))
def z5J:=zbq base 36 []
def zU3 (v:Value):Wy0 (Bool):=.i (v.Kind==0) (.k (v.Text.toList==(ByteArray.mk #[]).toList)) (.i (v.Kind==1) (.i (v.Int==0) (.k (decide (Int.ofNat v.Text.size≤255))) (.k false)) (.i (v.Kind==2) (.i (v.Text.toList==(ByteArray.mk #[]).toList) (.i (v.Int==0) (.k true) (.k (v.Int==1))) (.k false)) (.k false)))
def zyn (v:Value):=(zU3 v).fin default
def zLZ:=zh z7Y fun x=>((zyn x.1).1,zVj (zyn x.1).2)
theorem zZV:SdP 158 zLZ:=
 sT (cx':=z5J) (zi trivial) call158 func158 (lOK aN)
abbrev zAM:=Int×yE×Unit×Int×Unit
def zvr (fn:Int) (items:yE) (i:Int) (bound:Value):Wy zAM (Value×Unit) (Bool⊕Unit):=.i (decide (i<Int.ofNat items.length)) (.i (decide (0≤i)&&decide (i<Int.ofNat items.length)) (.bn (zyn (items.getD i.toNat default).Value) fun r0=>.i (!r0) (.k (.inl false)) (.i ((items.getD i.toNat default).Value.Kind != bound.Kind) (.k (.inl false)) (.i (fn==0) (.i ((items.getD i.toNat default).Value.Int != 1) (.k (.inl false)) (.h (fn,items,(),(IntKind.i64.wrap (i+1)),()) (bound,()))) (.h (fn,items,(),(IntKind.i64.wrap (i+1)),()) (bound,()))))) .d) (.k (.inr ()))
def zGK (x:zAM) (y:Value×Unit):=zvr x.1 x.2.1 x.2.2.2.1 y.1
def zGC (n:Nat) (fn:Int) (items:yE) (i:Int) (bound:Value):=zH (zGK) (.inl default) n (fn,items,(),i,()) (bound,())
def z5H:LL ty zAM:=za zj (za (lSl 100) (za (zft 276 0) (za zj zn)))
def z4X:BL ty (Value×Unit):=zjh (zhh (fun x=>(⟨x.1,x.2.1,x.2.2.1⟩:Value)) (fun x=>(x.Kind,x.Int,x.Text,())) (fun _=>rfl) (za (zR .i64) (za (zR .i64) (za zrl zn)))) false (zbl)
def z3n (x:zAM) (y:Value×Unit):Nat:=(Int.toNat x.1+x.2.1.length+Int.toNat x.2.2.2.1+1)
def zRJ:=zb5 base 69 [(158,zLZ)] [] [(4,(kpL [0,1,7,9]))] [(4,1,[]),(4,0,(kpL [8]))] [(4,spW z5H z4X (zGK) (.inl default) zQe z3n)] []
theorem z3U:zM zRJ (lp (body f111) 0):=zw (id:=4) (hl:=rfl)
def zUH (fn:Int) (items:yE) (op:Int) (bound:Value):Wy0 (Bool):=.i (decide (fn<0)) (.k false) (.i (decide (fn>3)) (.k false) (.i (decide (op<5)) (.k false) (.i (decide (op>10)) (.k false) (.bn (zyn bound) fun r4=>.i (!r4) (.k false) (.i (decide (fn≤1)) (.i (bound.Kind != 0) (.k false) (.bn (zGC (fn.toNat +items.length+Int.toNat 0+1) fn items 0 bound) fun r2=>.i (isL r2) (.k (getL r2)) (.k true))) (.bn (zGC (fn.toNat +items.length+Int.toNat 0+1) fn items 0 bound) fun r3=>.i (isL r3) (.k (getL r3)) (.k true)))))))
def zyj (fn:Int) (items:yE) (op:Int) (bound:Value):=(zUH fn items op bound).fin default
def zLs:=zh zTQ fun x=>((zyj x.1 x.2.1 x.2.2.1 x.2.2.2.1).1,zVj (zyj x.1 x.2.1 x.2.2.1 x.2.2.2.1).2)
theorem z0E:SdP 111 zLs:=
 sT (cx':=zRJ) (zi ⟨zZV,trivial⟩) call111 func111 (lOK (aC z3U aN))
def z5j:=zbq base 23 []
def zUF (x_:At):Wy0 (Bool):=.i (x_.Func==0) (.i (Int.ofNat x_.Items.length==0) (.i (x_.Op==0) (.k (x_.Bd.Kind==0&&(x_.Bd.Int==0&&(x_.Bd.Text.toList==(ByteArray.mk #[]).toList&&true)))) (.k false)) (.k false)) (.k false)
def zpS (x_:At):=(zUF x_).fin default
def zLL:=zh zCb fun x=>((zpS x.1).1,zVj (zpS x.1).2)
theorem zZ8:SdP 110 zLL:=
 sT (cx':=z5j) (zi trivial) call110 func110 (lOK aN)
abbrev zf1:=Unit×Int×Unit
def zk2 (zby:yC→Bool×Bool) (i:Int) (x_:At):Wy zf1 (At×Unit) (Bool⊕At):=.i (decide (i<Int.ofNat x_.Ag.length)) (.i (decide (0≤i)&&decide (i<Int.ofNat x_.Ag.length)) (.i (Int.ofNat (List.length (x_.Ag.getD i.toNat default))==0) (.k (.inl false)) (.i (decide (0≤i)&&decide (i<Int.ofNat x_.Ag.length)) (.bn (zby (x_.Ag.getD i.toNat default)) fun r0=>.i (!r0) (.k (.inl false)) (.h ((),(IntKind.i64.wrap (i+1)),()) (x_,()))) .d)) .d) (.k (.inr x_))
def zw2 (zby:yC→Bool×Bool) (x:zf1) (y:At×Unit):=zk2 zby x.2.1 y.1
def zxy (zby:yC→Bool×Bool) (n:Nat) (i:Int) (x_:At):=zH (zw2 zby) (.inl default) n ((),i,()) (x_,())
def zQJ (r:Bool⊕At):LTree ty:=.ite (isL r) (.done .ret [.lit (.bool (getL r))] []) (.done (.exit 0) [.ptr 824 0] [.box (base.enc 67 (getR r)) false])
def zTL:LL ty zf1:=za (zft 824 0) (za zj zn)
def zks (zby:yC→Bool×Bool) (i:Int) (x_:At):Wy zf1 (At×Unit) (Bool⊕Unit):=.i (decide (i<Int.ofNat x_.Items.length)) (.i (decide (0≤i)&&decide (i<Int.ofNat x_.Items.length)) (.i (Int.ofNat (x_.Items.getD i.toNat default).Ann.length==0) (.k (.inl false)) (.i (decide (0≤i)&&decide (i<Int.ofNat x_.Items.length)) (.bn (zby (x_.Items.getD i.toNat default).Ann) fun r3=>.i (!r3) (.k (.inl false)) (.i (decide (i>0)) (.i (decide (0≤IntKind.i64.wrap (i - 1))&&decide (IntKind.i64.wrap (i - 1)≤i)&&decide (i≤Int.ofNat x_.Items.length)) (.i (decide (0≤i)&&decide (i≤IntKind.i64.wrap (i+1))&&decide (IntKind.i64.wrap (i+1)≤Int.ofNat x_.Items.length)) (.bn (ztr (List.take (i.toNat - (IntKind.i64.wrap (i - 1)).toNat) (List.drop (IntKind.i64.wrap (i - 1)).toNat x_.Items)) (List.take ((IntKind.i64.wrap (i+1)).toNat - i.toNat) (List.drop i.toNat x_.Items))) fun r2=>.i (decide (r2>0)) (.k (.inl false)) (.h ((),(IntKind.i64.wrap (i+1)),()) (x_,()))) .d) .d) (.h ((),(IntKind.i64.wrap (i+1)),()) (x_,())))) .d)) .d) (.k (.inr ()))
def zvg (zby:yC→Bool×Bool) (x:zf1) (y:At×Unit):=zks zby x.2.1 y.1
def zDi (zby:yC→Bool×Bool) (n:Nat) (i:Int) (x_:At):=zH (zvg zby) (.inl default) n ((),i,()) (x_,())
def zO9 (r:Bool⊕Unit):LTree ty:=.ite (isL r) (.done .ret [.lit (.bool (getL r))] []) (.done (.exit 3) [] [])
def zQ0 (x:zf1) (y:At×Unit):Nat:=(Int.toNat x.2.1+y.1.Ag.length+y.1.Items.length+1)
def zwV (zby:yC→Bool×Bool):=zb5 base 206 [(16,(zhF zby)),(30,zEt),(99,zBF),(100,zyx),(106,zBo),(110,zLL),(111,zLs)] [] [(6,(kpL [1,3])),(21,(kpL [1,4]))] [(6,1,(kpL [1])),(6,0,(kpL [2])),(21,4,[]),(21,0,(kpL [2]))] [(6,spW zTL zV7 (zw2 zby) (.inl default) zQJ zQ0),(21,spW zTL zV7 (zvg zby) (.inl default) zO9 zQ0)] []
theorem zRU (zby:yC→Bool×Bool):zM (zwV zby) (lp (body f55) 0):=zw (id:=6) (hl:=rfl)
theorem zQf (zby:yC→Bool×Bool):zM (zwV zby) (lp (body f55) 1):=zw (id:=21) (hl:=rfl)
def zFE (zby:yC→Bool×Bool) (x_:At):Wy0 (Bool):=.i (x_.Kind==0) (.i (decide (x_.Row.Table≥1)) (.i (decide (x_.Row.Seq≥1)) (.i (Int.ofNat x_.Ag.length==0) (.bn (zpS (At.mk x_.Kind x_.Row x_.Ag x_.Func x_.Items x_.Op x_.Bd)) fun r6=>.k r6) (.k false)) (.k false)) (.k false)) (.i (!(x_.Row.Table==0&&(x_.Row.Seq==0&&true))) (.k false) (.bn (zxy zby (Int.toNat 0+x_.Ag.length+x_.Items.length+1) 0 (At.mk x_.Kind x_.Row x_.Ag x_.Func x_.Items x_.Op x_.Bd)) fun r17=>.i (isL r17) (.k (getL r17)) (.i ((getR r17).Kind==1) (.i (Int.ofNat (getR r17).Ag.length==2) (.bn (zpS (At.mk (getR r17).Kind (getR r17).Row (getR r17).Ag (getR r17).Func (getR r17).Items (getR r17).Op (getR r17).Bd)) fun r8=>.i (r8) (.i (decide ((0:Int)≤(0:Int))&&decide (0<Int.ofNat (getR r17).Ag.length)) (.i (decide ((0:Int)≤(1:Int))&&decide (1<Int.ofNat (getR r17).Ag.length)) (.bn (ztn ((getR r17).Ag.getD (Int.toNat 0) default) ((getR r17).Ag.getD (Int.toNat 1) default)) fun r7=>.k (!r7)) .d) .d) (.k false)) (.k false)) (.i ((getR r17).Kind==2) (.i (Int.ofNat (getR r17).Ag.length==1) (.bn (zpS (At.mk (getR r17).Kind (getR r17).Row (getR r17).Ag (getR r17).Func (getR r17).Items (getR r17).Op (getR r17).Bd)) fun r12=>.i (r12) (.i (decide ((0:Int)≤(0:Int))&&decide (0<Int.ofNat (getR r17).Ag.length)) (.i (Int.ofNat (List.length ((getR r17).Ag.getD (Int.toNat 0) default))==1) (.i (decide ((0:Int)≤(0:Int))&&decide (0<Int.ofNat (getR r17).Ag.length)) (.bn (ziD ((getR r17).Ag.getD (Int.toNat 0) default)) fun r10=>.i (!r10) (.i (decide ((0:Int)≤(0:Int))&&decide (0<Int.ofNat (getR r17).Ag.length)) (.bn (zq8 ((getR r17).Ag.getD (Int.toNat 0) default)) fun r9=>.k (!r9)) .d) (.k false)) .d) (.i (decide ((0:Int)≤(0:Int))&&decide (0<Int.ofNat (getR r17).Ag.length)) (.bn (zq8 ((getR r17).Ag.getD (Int.toNat 0) default)) fun r11=>.k (!r11)) .d)) .d) (.k false)) (.k false)) (.i ((getR r17).Kind==3) (.i (Int.ofNat (getR r17).Ag.length==1) (.bn (zpS (At.mk (getR r17).Kind (getR r17).Row (getR r17).Ag (getR r17).Func (getR r17).Items (getR r17).Op (getR r17).Bd)) fun r14=>.i (r14) (.i (decide ((0:Int)≤(0:Int))&&decide (0<Int.ofNat (getR r17).Ag.length)) (.bn (ziD ((getR r17).Ag.getD (Int.toNat 0) default)) fun r13=>.k (!r13)) .d) (.k false)) (.k false)) (.i ((getR r17).Kind==4) (.i (Int.ofNat (getR r17).Ag.length != 0) (.k false) (.i (Int.ofNat (getR r17).Items.length==0) (.k false) (.i (decide (Int.ofNat (getR r17).Items.length>1024)) (.k false) (.bn (zyj (getR r17).Func (getR r17).Items (getR r17).Op (getR r17).Bd) fun r16=>.i (!r16) (.k false) (.bn (zDi zby (Int.toNat 0+(getR r17).Ag.length+(getR r17).Items.length+1) 0 (At.mk (getR r17).Kind (getR r17).Row (getR r17).Ag (getR r17).Func (getR r17).Items (getR r17).Op (getR r17).Bd)) fun r15=>.i (isL r15) (.k (getL r15)) (.k true)))))) (.k false)))))))
def zo2 (zby:yC→Bool×Bool) (x_:At):=(zFE zby x_).fin default
theorem zNG (zby:yC→Bool×Bool) (z3X:SdP 16 (zhF zby)):SdP 55 (zmS (zo2 zby)):=
 sT (cx':=(zwV zby)) (zi ⟨z3X,zML,zHc,zE1,zM2,zZ8,z0E,trivial⟩) call55 func55 (lOK (aC (zRU zby) (aC (zQf zby) aN)))
def zJ7:Nat→(yC→Bool×Bool)×(At→Bool×Bool)
 | 0=>(fun _=>(false,default),fun _=>(false,default))
 | n+1=>(zxO ((zJ7 n).2),zo2 ((zJ7 n).1))
def zxI (n:Nat):yC→Bool×Bool:=(zJ7 n).1
def zu5 (n:Nat):At→Bool×Bool:=(zJ7 n).2
theorem z16 (n:Nat):zxI (n+1)=zxO (zu5 n):=rfl
theorem zTa (n:Nat):zu5 (n+1)=zo2 (zxI n):=rfl
theorem zYq:∀ n,SdP 16 (zhF (zxI n))∧SdP 55 (zmS (zu5 n))
 | 0=>⟨z8 call16 (fun _=>rfl),z8 call55 (fun _=>rfl)⟩
 | n+1=>by
  have ih:=zYq n;exact ⟨zVD _ (ih.2),zNG _ (ih.1)⟩
def zfS:yC→Bool×Bool:=zxI 1000
def zL9:Ab.Spec ty:=zhF zfS
theorem zZ7:SdP 16 zL9:=(zYq 1000).1
def zbae:=zbq base 3 []
def zbaW:Wy0 (yC):=.k [TO.mk 1 []]
def zIj:Bool×yC:=(zbaW).fin default
def zQN:=zh zPh fun x=>((zIj ).1,zPo (zIj ).2)
theorem z4P:SdP 77 zQN:=
 sT (cx':=zbae) (zi trivial) call77 func77 (lOK aN) (sg:=⟨[.own 28],[]⟩)
def zban:=zbq base 8 [(54,zE0)]
def z01 (a:yC):Wy0 (yC×Int):=.bn (zA2 a) fun r0=>.i (!r0) (.k ([],6)) (.k (a,0))
def znb (a:yC):=(z01 a).fin default
def z7Z (r:yC×Int):ARes ty:=⟨[.pure (.sl 28 r.1),.pure (.lit (.int .i64 r.2))],[]⟩
def zSl:=zh zXg fun x=>((znb x.1).1,z7Z (znb x.1).2)
theorem z4h:SdP 101 zSl:=
 sT (cx':=zban) (zi ⟨zMC,trivial⟩) call101 func101 (lOK aN) (sg:=⟨[.pure,.pure],[]⟩)
def z6o:=zbq base 30 [(16,zL9),(77,zQN),(99,zBF),(100,zyx),(101,zSl),(102,zEj)]
def zUW (a:yC):Wy0 (yC×Int):=.bn (zfS a) fun r4=>.i (!r4) (.k ([],1)) (.i (Int.ofNat a.length==0) (.k (a,0)) (.bn (zq8 a) fun r3=>.i (r3) (.k (a,0)) (.i (Int.ofNat a.length==1) (.bn (ziD a) fun r1=>.i (r1) (.k (zIj.2,0)) (.bn (znb (zm8 (At.mk 2 (RowID.mk 0 0) [a] 0 [] 0 (Value.mk 0 0 (ByteArray.mk #[])))).2) fun r0=>.k (r0.1,r0.2))) (.bn (znb (zm8 (At.mk 2 (RowID.mk 0 0) [a] 0 [] 0 (Value.mk 0 0 (ByteArray.mk #[])))).2) fun r2=>.k (r2.1,r2.2)))))
def zB2 (a:yC):=(zUW a).fin default
def zMY:=zh zXg fun x=>((zB2 x.1).1,z7Z (zB2 x.1).2)
theorem zZQ:SdP 47 zMY:=
 sT (cx':=z6o) (zi ⟨zZ7,z4P,zHc,zE1,z4h,zLM,trivial⟩) call47 func47 (lOK aN) (sg:=⟨[.pure,.pure],[]⟩)
def z7I:=zbq base 9 []
def zWO (a:Int) (b:Int):Wy0 (Int):=.k (if 1152921504606846976<IntKind.i64.wrap (a+b) then 1152921504606846976 else IntKind.i64.wrap (a+b))
def zw9 (a:Int) (b:Int):=(zWO a b).fin default
def zOH:=zh zVI fun x=>((zw9 x.1 x.2.1).1,zPQ (zw9 x.1 x.2.1).2)
theorem z1X:SdP 112 zOH:=
 sT (cx':=z7I) (zi trivial) call112 func112 (lOK aN)
abbrev zE7:=yC×Unit×Int×Unit
abbrev zW7:=yC×Int×Term
def zzI (a:yC) (i:Int) (t:Term):Wy zE7 (Term×Unit) zW7:=.i (decide (i<Int.ofNat a.length)) (.i (decide (0≤i)&&decide (i<Int.ofNat a.length)) (.bn (zls (a.getD i.toNat default).Fs t.Fs) fun r0=>.i (decide (r0<0)) (.h (a,(),(IntKind.i64.wrap (i+1)),()) (t,())) (.k (a,i,t))) .d) (.k (a,i,t))
def zMK (x:zE7) (y:Term×Unit):=zzI x.1 x.2.2.1 y.1
def zWh (n:Nat) (a:yC) (i:Int) (t:Term):=zH (zMK) default n (a,(),i,()) (t,())
def z7W (r:zW7):LTree ty:=.done (.exit 0) [.sl 28 r.1,.ptr 288 0,.lit (.int .i64 r.2.1)] [.box (base.enc 28 r.2.2) false]
def z9h:LL ty zE7:=za (lSl 28) (za (zft 288 0) (za zj zn))
def z7y (x:zE7) (y:Term×Unit):Nat:=(x.1.length+Int.toNat x.2.2.1+y.1.Fs.length+1)
def zW4:=zb5 base 72 [(34,zo7),(112,zOH)] [] [(2,(kpL [0,3,5]))] [(2,1,(kpL [0,3,5]))] [(2,spW z9h zRX (zMK) default z7W z7y)] []
theorem z7s:zM zW4 (lp (body f58) 0):=zw (id:=2) (hl:=rfl)
def z1b (a:yC) (t:Term):Wy0 (yC):=.bn (zWh (a.length+Int.toNat 0+t.Fs.length+1) a 0 t) fun r3=>.i (decide ((0:Int)≤(0:Int))&&decide (0≤r3.2.1)&&decide (r3.2.1≤Int.ofNat r3.1.length)) (.i (decide ((0+(List.take (r3.2.1.toNat - Int.toNat 0) (List.drop (Int.toNat 0) r3.1)).length)*32≤zK)) (.i (decide (r3.2.1<Int.ofNat r3.1.length)) (.i (decide (0≤r3.2.1)&&decide (r3.2.1<Int.ofNat r3.1.length)) (.bn (zls (r3.1.getD r3.2.1.toNat default).Fs r3.2.2.Fs) fun r2=>.i (r2==0) (.i (decide (0≤r3.2.1)&&decide (r3.2.1<Int.ofNat r3.1.length)) (.i (decide ((([]++List.take (r3.2.1.toNat - Int.toNat 0) (List.drop (Int.toNat 0) r3.1)).length+[TO.mk (zw9 (r3.1.getD r3.2.1.toNat default).Cf r3.2.2.Cf).2 r3.2.2.Fs].length)*32≤zK)) (.i (decide (0≤IntKind.i64.wrap (r3.2.1+1))&&decide (IntKind.i64.wrap (r3.2.1+1)≤Int.ofNat r3.1.length)&&decide (Int.ofNat r3.1.length≤Int.ofNat r3.1.length)) (.i (decide ((([]++List.take (r3.2.1.toNat - Int.toNat 0) (List.drop (Int.toNat 0) r3.1)++[TO.mk (zw9 (r3.1.getD r3.2.1.toNat default).Cf r3.2.2.Cf).2 r3.2.2.Fs]).length+(List.take ((Int.ofNat r3.1.length).toNat - (IntKind.i64.wrap (r3.2.1+1)).toNat) (List.drop (IntKind.i64.wrap (r3.2.1+1)).toNat r3.1)).length)*32≤zK)) (.k ([]++List.take (r3.2.1.toNat - Int.toNat 0) (List.drop (Int.toNat 0) r3.1)++[TO.mk (zw9 (r3.1.getD r3.2.1.toNat default).Cf r3.2.2.Cf).2 r3.2.2.Fs]++List.take ((Int.ofNat r3.1.length).toNat - (IntKind.i64.wrap (r3.2.1+1)).toNat) (List.drop (IntKind.i64.wrap (r3.2.1+1)).toNat r3.1))) .d) .d) .d) .d) (.i (decide ((([]++List.take (r3.2.1.toNat - Int.toNat 0) (List.drop (Int.toNat 0) r3.1)).length+[r3.2.2].length)*32≤zK)) (.i (decide (0≤r3.2.1)&&decide (r3.2.1≤Int.ofNat r3.1.length)&&decide (Int.ofNat r3.1.length≤Int.ofNat r3.1.length)) (.i (decide ((([]++List.take (r3.2.1.toNat - Int.toNat 0) (List.drop (Int.toNat 0) r3.1)++[r3.2.2]).length+(List.take ((Int.ofNat r3.1.length).toNat - r3.2.1.toNat) (List.drop r3.2.1.toNat r3.1)).length)*32≤zK)) (.k ([]++List.take (r3.2.1.toNat - Int.toNat 0) (List.drop (Int.toNat 0) r3.1)++[r3.2.2]++List.take ((Int.ofNat r3.1.length).toNat - r3.2.1.toNat) (List.drop r3.2.1.toNat r3.1))) .d) .d) .d)) .d) (.i (decide ((([]++List.take (r3.2.1.toNat - Int.toNat 0) (List.drop (Int.toNat 0) r3.1)).length+[r3.2.2].length)*32≤zK)) (.i (decide (0≤r3.2.1)&&decide (r3.2.1≤Int.ofNat r3.1.length)&&decide (Int.ofNat r3.1.length≤Int.ofNat r3.1.length)) (.i (decide ((([]++List.take (r3.2.1.toNat - Int.toNat 0) (List.drop (Int.toNat 0) r3.1)++[r3.2.2]).length+(List.take ((Int.ofNat r3.1.length).toNat - r3.2.1.toNat) (List.drop r3.2.1.toNat r3.1)).length)*32≤zK)) (.k ([]++List.take (r3.2.1.toNat - Int.toNat 0) (List.drop (Int.toNat 0) r3.1)++[r3.2.2]++List.take ((Int.ofNat r3.1.length).toNat - r3.2.1.toNat) (List.drop r3.2.1.toNat r3.1))) .d) .d) .d)) .d) .d
def zDE (a:yC) (t:Term):=(z1b a t).fin default
def zbay:AL base (yC×Term×Unit):=zd (ze (vSl 28)) (zd (ze (zcG 28)) zr)
def zGA:=zh zbay fun x=>((zDE x.1 x.2.1).1,zPo (zDE x.1 x.2.1).2)
theorem zOR:SdP 58 zGA:=
 sT (cx':=zW4) (zi ⟨zxC,z1X,trivial⟩) call58 func58 (lOK (aC z7s aN)) (sg:=⟨[.own 28],[]⟩)
abbrev zyY:=yD×Unit×Int×Unit
abbrev zOO:=yD×Int×Fc
def zt4 (l:yD) (i:Int) (f:Fc):Wy zyY (Fc×Unit) zOO:=.i (decide (i<Int.ofNat l.length)) (.i (decide (0≤i)&&decide (i<Int.ofNat l.length)) (.bn (zlI (At.mk (l.getD i.toNat default).At.Kind (l.getD i.toNat default).At.Row (l.getD i.toNat default).At.Ag (l.getD i.toNat default).At.Func (l.getD i.toNat default).At.Items (l.getD i.toNat default).At.Op (l.getD i.toNat default).At.Bd) (At.mk f.At.Kind f.At.Row f.At.Ag f.At.Func f.At.Items f.At.Op f.At.Bd)) fun r0=>.i (decide (r0<0)) (.h (l,(),(IntKind.i64.wrap (i+1)),()) (f,())) (.k (l,i,f))) .d) (.k (l,i,f))
def zEQ (x:zyY) (y:Fc×Unit):=zt4 x.1 x.2.2.1 y.1
def zOz (n:Nat) (l:yD) (i:Int) (f:Fc):=zH (zEQ) default n (l,(),i,()) (f,())
def z2P (r:zOO):LTree ty:=.done (.exit 0) [.sl 69 r.1,.ptr 296 0,.lit (.int .i64 r.2.1)] [.box (base.enc 69 r.2.2) false]
def z4F:LL ty zyY:=za (lSl 69) (za (zft 296 0) (za zj zn))
def z2D (x:zyY) (y:Fc×Unit):Nat:=(x.1.length+Int.toNat x.2.2.1+y.1.At.Ag.length+y.1.At.Items.length+1)
def zOh:=zb5 base 74 [(53,zuD)] [] [(2,(kpL [0,3,5]))] [(2,1,(kpL [0,3,5]))] [(2,spW z4F zSj (zEQ) default z2P z2D)] []
theorem z2B:zM zOh (lp (body f57) 0):=zw (id:=2) (hl:=rfl)
def zRQ (l:yD) (f:Fc):Wy0 (yD):=.bn (zOz (l.length+Int.toNat 0+f.At.Ag.length+f.At.Items.length+1) l 0 (FO.mk (At.mk f.At.Kind f.At.Row f.At.Ag f.At.Func f.At.Items f.At.Op f.At.Bd) f.Exp)) fun r3=>.i (decide ((0:Int)≤(0:Int))&&decide (0≤r3.2.1)&&decide (r3.2.1≤Int.ofNat r3.1.length)) (.i (decide ((0+(List.take (r3.2.1.toNat - Int.toNat 0) (List.drop (Int.toNat 0) r3.1)).length)*128≤zK)) (.i (decide (r3.2.1<Int.ofNat r3.1.length)) (.i (decide (0≤r3.2.1)&&decide (r3.2.1<Int.ofNat r3.1.length)) (.bn (zlI (At.mk (r3.1.getD r3.2.1.toNat default).At.Kind (r3.1.getD r3.2.1.toNat default).At.Row (r3.1.getD r3.2.1.toNat default).At.Ag (r3.1.getD r3.2.1.toNat default).At.Func (r3.1.getD r3.2.1.toNat default).At.Items (r3.1.getD r3.2.1.toNat default).At.Op (r3.1.getD r3.2.1.toNat default).At.Bd) (At.mk r3.2.2.At.Kind r3.2.2.At.Row r3.2.2.At.Ag r3.2.2.At.Func r3.2.2.At.Items r3.2.2.At.Op r3.2.2.At.Bd)) fun r2=>.i (r2==0) (.i (decide (r3.2.2.At.Kind<3)) (.i (decide (0≤r3.2.1)&&decide (r3.2.1<Int.ofNat r3.1.length)) (.i (decide ((([]++List.take (r3.2.1.toNat - Int.toNat 0) (List.drop (Int.toNat 0) r3.1)).length+[FO.mk (At.mk r3.2.2.At.Kind r3.2.2.At.Row r3.2.2.At.Ag r3.2.2.At.Func r3.2.2.At.Items r3.2.2.At.Op r3.2.2.At.Bd) (IntKind.i64.wrap ((r3.1.getD r3.2.1.toNat default).Exp+r3.2.2.Exp))].length)*128≤zK)) (.i (decide (0≤IntKind.i64.wrap (r3.2.1+1))&&decide (IntKind.i64.wrap (r3.2.1+1)≤Int.ofNat r3.1.length)&&decide (Int.ofNat r3.1.length≤Int.ofNat r3.1.length)) (.i (decide ((([]++List.take (r3.2.1.toNat - Int.toNat 0) (List.drop (Int.toNat 0) r3.1)++[FO.mk (At.mk r3.2.2.At.Kind r3.2.2.At.Row r3.2.2.At.Ag r3.2.2.At.Func r3.2.2.At.Items r3.2.2.At.Op r3.2.2.At.Bd) (IntKind.i64.wrap ((r3.1.getD r3.2.1.toNat default).Exp+r3.2.2.Exp))]).length+(List.take ((Int.ofNat r3.1.length).toNat - (IntKind.i64.wrap (r3.2.1+1)).toNat) (List.drop (IntKind.i64.wrap (r3.2.1+1)).toNat r3.1)).length)*128≤zK)) (.k ([]++List.take (r3.2.1.toNat - Int.toNat 0) (List.drop (Int.toNat 0) r3.1)++[FO.mk (At.mk r3.2.2.At.Kind r3.2.2.At.Row r3.2.2.At.Ag r3.2.2.At.Func r3.2.2.At.Items r3.2.2.At.Op r3.2.2.At.Bd) (IntKind.i64.wrap ((r3.1.getD r3.2.1.toNat default).Exp+r3.2.2.Exp))]++List.take ((Int.ofNat r3.1.length).toNat - (IntKind.i64.wrap (r3.2.1+1)).toNat) (List.drop (IntKind.i64.wrap (r3.2.1+1)).toNat r3.1))) .d) .d) .d) .d) (.i (decide ((([]++List.take (r3.2.1.toNat - Int.toNat 0) (List.drop (Int.toNat 0) r3.1)).length+[FO.mk (At.mk r3.2.2.At.Kind r3.2.2.At.Row r3.2.2.At.Ag r3.2.2.At.Func r3.2.2.At.Items r3.2.2.At.Op r3.2.2.At.Bd) r3.2.2.Exp].length)*128≤zK)) (.i (decide (0≤IntKind.i64.wrap (r3.2.1+1))&&decide (IntKind.i64.wrap (r3.2.1+1)≤Int.ofNat r3.1.length)&&decide (Int.ofNat r3.1.length≤Int.ofNat r3.1.length)) (.i (decide ((([]++List.take (r3.2.1.toNat - Int.toNat 0) (List.drop (Int.toNat 0) r3.1)++[FO.mk (At.mk r3.2.2.At.Kind r3.2.2.At.Row r3.2.2.At.Ag r3.2.2.At.Func r3.2.2.At.Items r3.2.2.At.Op r3.2.2.At.Bd) r3.2.2.Exp]).length+(List.take ((Int.ofNat r3.1.length).toNat - (IntKind.i64.wrap (r3.2.1+1)).toNat) (List.drop (IntKind.i64.wrap (r3.2.1+1)).toNat r3.1)).length)*128≤zK)) (.k ([]++List.take (r3.2.1.toNat - Int.toNat 0) (List.drop (Int.toNat 0) r3.1)++[FO.mk (At.mk r3.2.2.At.Kind r3.2.2.At.Row r3.2.2.At.Ag r3.2.2.At.Func r3.2.2.At.Items r3.2.2.At.Op r3.2.2.At.Bd) r3.2.2.Exp]++List.take ((Int.ofNat r3.1.length).toNat - (IntKind.i64.wrap (r3.2.1+1)).toNat) (List.drop (IntKind.i64.wrap (r3.2.1+1)).toNat r3.1))) .d) .d) .d)) (.i (decide ((([]++List.take (r3.2.1.toNat - Int.toNat 0) (List.drop (Int.toNat 0) r3.1)).length+[FO.mk (At.mk r3.2.2.At.Kind r3.2.2.At.Row r3.2.2.At.Ag r3.2.2.At.Func r3.2.2.At.Items r3.2.2.At.Op r3.2.2.At.Bd) r3.2.2.Exp].length)*128≤zK)) (.i (decide (0≤r3.2.1)&&decide (r3.2.1≤Int.ofNat r3.1.length)&&decide (Int.ofNat r3.1.length≤Int.ofNat r3.1.length)) (.i (decide ((([]++List.take (r3.2.1.toNat - Int.toNat 0) (List.drop (Int.toNat 0) r3.1)++[FO.mk (At.mk r3.2.2.At.Kind r3.2.2.At.Row r3.2.2.At.Ag r3.2.2.At.Func r3.2.2.At.Items r3.2.2.At.Op r3.2.2.At.Bd) r3.2.2.Exp]).length+(List.take ((Int.ofNat r3.1.length).toNat - r3.2.1.toNat) (List.drop r3.2.1.toNat r3.1)).length)*128≤zK)) (.k ([]++List.take (r3.2.1.toNat - Int.toNat 0) (List.drop (Int.toNat 0) r3.1)++[FO.mk (At.mk r3.2.2.At.Kind r3.2.2.At.Row r3.2.2.At.Ag r3.2.2.At.Func r3.2.2.At.Items r3.2.2.At.Op r3.2.2.At.Bd) r3.2.2.Exp]++List.take ((Int.ofNat r3.1.length).toNat - r3.2.1.toNat) (List.drop r3.2.1.toNat r3.1))) .d) .d) .d)) .d) (.i (decide ((([]++List.take (r3.2.1.toNat - Int.toNat 0) (List.drop (Int.toNat 0) r3.1)).length+[FO.mk (At.mk r3.2.2.At.Kind r3.2.2.At.Row r3.2.2.At.Ag r3.2.2.At.Func r3.2.2.At.Items r3.2.2.At.Op r3.2.2.At.Bd) r3.2.2.Exp].length)*128≤zK)) (.i (decide (0≤r3.2.1)&&decide (r3.2.1≤Int.ofNat r3.1.length)&&decide (Int.ofNat r3.1.length≤Int.ofNat r3.1.length)) (.i (decide ((([]++List.take (r3.2.1.toNat - Int.toNat 0) (List.drop (Int.toNat 0) r3.1)++[FO.mk (At.mk r3.2.2.At.Kind r3.2.2.At.Row r3.2.2.At.Ag r3.2.2.At.Func r3.2.2.At.Items r3.2.2.At.Op r3.2.2.At.Bd) r3.2.2.Exp]).length+(List.take ((Int.ofNat r3.1.length).toNat - r3.2.1.toNat) (List.drop r3.2.1.toNat r3.1)).length)*128≤zK)) (.k ([]++List.take (r3.2.1.toNat - Int.toNat 0) (List.drop (Int.toNat 0) r3.1)++[FO.mk (At.mk r3.2.2.At.Kind r3.2.2.At.Row r3.2.2.At.Ag r3.2.2.At.Func r3.2.2.At.Items r3.2.2.At.Op r3.2.2.At.Bd) r3.2.2.Exp]++List.take ((Int.ofNat r3.1.length).toNat - r3.2.1.toNat) (List.drop r3.2.1.toNat r3.1))) .d) .d) .d)) .d) .d
def zzO (l:yD) (f:Fc):=(zRQ l f).fin default
def z1T (r:yD):ARes ty:=⟨[.pure (.sl 69 r)],[]⟩
def z5r:AL base (yD×Fc×Unit):=zd (ze (vSl 69)) (zd (ze (zcG 69)) zr)
def zJC:=zh z5r fun x=>((zzO x.1 x.2.1).1,z1T (zzO x.1 x.2.1).2)
theorem zWJ:SdP 57 zJC:=
 sT (cx':=zOh) (zi ⟨zBb,trivial⟩) call57 func57 (lOK (aC z2B aN))
def z49:=zbq base 12 []
def zUO (a:Int) (b:Int):Wy0 (Int):=.i (!decide (b=0)) (.i (decide (a>IntKind.i64.wrap (Int.tdiv 1152921504606846976 b))) (.k 1152921504606846976) (.k (IntKind.i64.wrap (a*b)))) .d
def zCh (a:Int) (b:Int):=(zUO a b).fin default
def zLG:=zh zVI fun x=>((zCh x.1 x.2.1).1,zPQ (zCh x.1 x.2.1).2)
theorem zZw:SdP 56 zLG:=
 sT (cx':=z49) (zi trivial) call56 func56 (lOK aN)
abbrev zxi:=yC×yC×Unit×Int×Int×Unit×Int×Unit
abbrev zwX:=yC×(Int×yD×Unit)×Unit
abbrev zLN:=yC×yC×Int×Int×yC×Int×yD
abbrev zxb:=yC×yC×Unit×Int×Int×Unit
abbrev zh8:=yC×Unit
abbrev zLP:=yC×yC×Int×yC
abbrev zxl:=yC×yC×Unit×Int×Unit
def zoV (a:yC) (b:yC) (i:Int) (k:Int) (j:Int) (out_:yC) (t_0:Int) (t_1:yD):Wy zxi zwX zLN:=.i (decide (0≤k)&&decide (k<Int.ofNat b.length)) (.i (decide (j<Int.ofNat (b.getD k.toNat default).Fs.length)) (.i (decide (0≤k)&&decide (k<Int.ofNat b.length)) (.i (decide (0≤j)&&decide (j<Int.ofNat (b.getD k.toNat default).Fs.length)) (.bn (zzO t_1 (FO.mk (At.mk ((b.getD k.toNat default).Fs.getD j.toNat default).At.Kind ((b.getD k.toNat default).Fs.getD j.toNat default).At.Row ((b.getD k.toNat default).Fs.getD j.toNat default).At.Ag ((b.getD k.toNat default).Fs.getD j.toNat default).At.Func ((b.getD k.toNat default).Fs.getD j.toNat default).At.Items ((b.getD k.toNat default).Fs.getD j.toNat default).At.Op ((b.getD k.toNat default).Fs.getD j.toNat default).At.Bd) ((b.getD k.toNat default).Fs.getD j.toNat default).Exp)) fun r0=>.h (a,b,(),i,k,(),(IntKind.i64.wrap (j+1)),()) (out_,(t_0,(r0),()),())) .d) .d) (.k (a,b,i,k,out_,t_0,t_1))) .d
def zBG (x:zxi) (y:zwX):=zoV x.1 x.2.1 x.2.2.2.1 x.2.2.2.2.1 x.2.2.2.2.2.2.1 y.1 y.2.1.1 y.2.1.2.1
def zJq (n:Nat) (a:yC) (b:yC) (i:Int) (k:Int) (j:Int) (out_:yC) (t_0:Int) (t_1:yD):=zH (zBG) default n (a,b,(),i,k,(),j,()) (out_,(t_0,t_1,()),())
def zWm (r:zLN):LTree ty:=.done (.exit 4) [.sl 28 r.1,.sl 28 r.2.1,.own 264,.lit (.int .i64 r.2.2.1),.lit (.int .i64 r.2.2.2.1),.ptr 265 0] [.arr 28 r.2.2.2.2.1 false,.box ([.lit (.int .i64 r.2.2.2.2.2.1),.sl 69 r.2.2.2.2.2.2]) false]
def zZI:LL ty zxi:=za (lSl 28) (za (lSl 28) (za (zd3 264) (za zj (za zj (za (zft 265 0) (za zj zn))))))
def z0a:BL ty zwX:=zed 28 false (zjh (za (zR .i64) (za (lSl 69) zn)) false (zbl))
def zrm (a:yC) (b:yC) (i:Int) (k:Int) (out_:yC):Wy zxb zh8 zLP:=.i (decide (k<Int.ofNat b.length)) (.i (decide (0≤i)&&decide (i<Int.ofNat a.length)) (.i (decide (0≤k)&&decide (k<Int.ofNat b.length)) (.bn (zCh (a.getD i.toNat default).Cf (b.getD k.toNat default).Cf) fun r4=>.i (decide (0≤i)&&decide (i<Int.ofNat a.length)) (.bn (zJq ((a.length+b.length+i.toNat +k.toNat +Int.toNat 0+out_.length+r4.toNat +(a.getD i.toNat default).Fs.length+1)+zb2 a+zb2 b+zb2 out_+zIq (a.getD i.toNat default).Fs) a b i k 0 out_ r4 (a.getD i.toNat default).Fs) fun r3=>.bn (zDE r3.2.2.2.2.1 (TO.mk r3.2.2.2.2.2.1 r3.2.2.2.2.2.2)) fun r2=>.h ((r3.1),(r3.2.1),(),(r3.2.2.1),(IntKind.i64.wrap (r3.2.2.2.1+1)),()) ((r2),())) .d) .d) .d) (.k (a,b,i,out_))
def zCT (x:zxb) (y:zh8):=zrm x.1 x.2.1 x.2.2.2.1 x.2.2.2.2.1 y.1
def zMb (n:Nat) (a:yC) (b:yC) (i:Int) (k:Int) (out_:yC):=zH (zCT) default n (a,b,(),i,k,()) (out_,())
def z0y (r:zLP):LTree ty:=.done (.exit 2) [.sl 28 r.1,.sl 28 r.2.1,.own 264,.lit (.int .i64 r.2.2.1)] [.arr 28 r.2.2.2 false]
def z2i:LL ty zxb:=za (lSl 28) (za (lSl 28) (za (zd3 264) (za zj (za zj zn))))
def z2T:BL ty zh8:=zed 28 false (zbl)
def zq1 (a:yC) (b:yC) (i:Int) (out_:yC):Wy zxl zh8 (yC):=.i (decide (i<Int.ofNat a.length)) (.bn (zMb ((a.length+b.length+i.toNat +Int.toNat 0+out_.length+1)+zb2 a+zb2 b+zb2 out_) a b i 0 out_) fun r8=>.h ((r8.1),(r8.2.1),(),(IntKind.i64.wrap (r8.2.2.1+1)),()) ((r8.2.2.2),())) (.k out_)
def zCN (x:zxl) (y:zh8):=zq1 x.1 x.2.1 x.2.2.2.1 y.1
def zL3 (n:Nat) (a:yC) (b:yC) (i:Int) (out_:yC):=zH (zCN) default n (a,b,(),i,()) (out_,())
def zZ0 (r:yC):LTree ty:=.done (.exit 0) [.own 264] [.arr 28 r false]
def z2g:LL ty zxl:=za (lSl 28) (za (lSl 28) (za (zd3 264) (za zj zn)))
def zYZ (x:zxi) (y:zwX):Nat:=((x.1.length+x.2.1.length+Int.toNat x.2.2.2.1+Int.toNat x.2.2.2.2.1+Int.toNat x.2.2.2.2.2.2.1+y.1.length+Int.toNat y.2.1.1+y.2.1.2.1.length+1)+zb2 x.1+zb2 x.2.1+zb2 y.1+zIq y.2.1.2.1)
def zZJ (x:zxb) (y:zh8):Nat:=((x.1.length+x.2.1.length+Int.toNat x.2.2.2.1+Int.toNat x.2.2.2.2.1+y.1.length+1)+zb2 x.1+zb2 x.2.1+zb2 y.1)
def z0o (x:zxl) (y:zh8):Nat:=((x.1.length+x.2.1.length+Int.toNat x.2.2.2.1+y.1.length+1)+zb2 x.1+zb2 x.2.1+zb2 y.1)
def zw6:=zb5 base 66 [(56,zLG),(57,zJC),(58,zGA)] [] [(3,(kpL [0,1,5,6])),(6,(kpL [0,1,5,6,7])),(10,(kpL [0,1,5,6,7,8,9]))] [(3,1,(kpL [5])),(6,3,(kpL [0,1,5,6])),(10,5,(kpL [0,1,5,6,7,8]))] [(10,spW zZI z0a (zBG) default zWm zYZ),(6,spW z2i z2T (zCT) default z0y zZJ),(3,spW z2g z2T (zCN) default zZ0 z0o)] []
theorem zXe:zM zw6 (lp (body f17) 2):=zw (id:=10) (hl:=rfl)
theorem zZp:zM zw6 (lp (body f17) 1):=zw (id:=6) (hl:=rfl)
theorem zZL:zM zw6 (lp (body f17) 0):=zw (id:=3) (hl:=rfl)
def zOS (a:yC) (b:yC):Wy0 (yC):=.bn (zL3 ((a.length+b.length+Int.toNat 0+0+1)+zb2 a+zb2 b+zb2 []) a b 0 []) fun r10=>.k r10
def zou (a:yC) (b:yC):=(zOS a b).fin default
def zHN:=zh zTM fun x=>((zou x.1 x.2.1).1,zPo (zou x.1 x.2.1).2)
theorem zVE:SdP 17 zHN:=
 sT (cx':=zw6) (zi ⟨zZw,zWJ,zOR,trivial⟩) call17 func17 (lOK (aC zZL (aC zZp (aC zXe aN)))) (sg:=⟨[.own 28],[]⟩)
abbrev zD6:=yC×yC×Int×Unit
def zz8 (a:yC) (b:yC) (i:Int):Wy zD6 (Unit) (yC):=.i (decide (i<Int.ofNat b.length)) (.i (decide (0≤i)&&decide (i<Int.ofNat b.length)) (.bn (zDE a (b.getD i.toNat default)) fun r0=>.h ((r0),b,(IntKind.i64.wrap (i+1)),()) ()) .d) (.k a)
def zLn (x:zD6) (y:Unit):=zz8 x.1 x.2.1 x.2.2.1
def zYT (n:Nat) (a:yC) (b:yC) (i:Int):=zH (zLn) default n (a,b,i,()) ()
def z79 (r:yC):LTree ty:=.done (.exit 0) [.sl 28 r] []
def zbab:LL ty zD6:=za (lSl 28) (za (lSl 28) (za zj zn))
def z7n (x:zD6) (y:Unit):Nat:=(x.1.length+x.2.1.length+Int.toNat x.2.2.1+1)
def zX3:=zb5 base 19 [(58,zGA)] [] [(2,[(0,.sl 28),(1,.keep),(5,.keep)])] [(2,1,(kpL [0]))] [(2,spW zbab z7V (zLn) default z79 z7n)] []
theorem z73:zM zX3 (lp (body f45) 0):=zw (id:=2) (hl:=rfl)
def z0O (a:yC) (b:yC):Wy0 (yC):=.bn (zYT (a.length+b.length+Int.toNat 0+1) a b 0) fun r2=>.k r2
def zDx (a:yC) (b:yC):=(z0O a b).fin default
def z78 (r:yC):ARes ty:=⟨[.pure (.sl 28 r)],[]⟩
def zR5:=zh zTM fun x=>((zDx x.1 x.2.1).1,z78 (zDx x.1 x.2.1).2)
theorem z32:SdP 45 zR5:=
 sT (cx':=zX3) (zi ⟨zOR,trivial⟩) call45 func45 (lOK (aC z73 aN))
abbrev zpo:=yF×yF×Int×Unit
abbrev zDW:=Int⊕(yF×yF)
def zTU (a:yF) (b:yF) (i:Int):Wy zpo (Unit) zDW:=.i (decide (i<Int.ofNat a.length)) (.i (decide (i<Int.ofNat b.length)) (.i (decide (0≤i)&&decide (i<Int.ofNat a.length)) (.i (decide (0≤i)&&decide (i<Int.ofNat b.length)) (.bn (zmN (a.getD i.toNat default) (b.getD i.toNat default)) fun r0=>.i (r0 != 0) (.k (.inl (r0))) (.h (a,b,(IntKind.i64.wrap (i+1)),()) ())) .d) .d) (.k (.inr (a,b)))) (.k (.inr (a,b)))
def zEa (x:zpo) (y:Unit):=zTU x.1 x.2.1 x.2.2.1
def zUg (n:Nat) (a:yF) (b:yF) (i:Int):=zH (zEa) (.inl default) n (a,b,i,()) ()
def zSa (r:zDW):LTree ty:=.ite (isL r) (.done .ret [.lit (.int .i64 (getL r))] []) (.done (.exit 0) [.sl 49 (getR r).1,.sl 49 (getR r).2] [])
def zSG:LL ty zpo:=za (lSl 49) (za (lSl 49) (za zj zn))
def zRP (x:zpo) (y:Unit):Nat:=(x.1.length+x.2.1.length+Int.toNat x.2.2.1+1000)
def zEo:=zb5 base 41 [(105,zv6)] [] [(2,(kpL [0,1,5]))] [(2,1,(kpL [0,1])),(2,0,(kpL [4]))] [(2,spW zSG z7V (zEa) (.inl default) zSa zRP)] []
theorem zRo:zM zEo (lp (body f76) 0):=zw (id:=2) (hl:=rfl)
def zVi (a:yF) (b:yF):Wy0 (Int):=.bn (zUg (a.length+b.length+Int.toNat 0+1000) a b 0) fun r2=>.i (isL r2) (.k (getL r2)) (.i (Int.ofNat (getR r2).1.length==Int.ofNat (getR r2).2.length) (.k 0) (.i (decide (Int.ofNat (getR r2).1.length<Int.ofNat (getR r2).2.length)) (.k (-1:Int)) (.k 1)))
def zBT (a:yF) (b:yF):=(zVi a b).fin default
def zCj:=zh zAP fun x=>((zBT x.1 x.2.1).1,zPQ (zBT x.1 x.2.1).2)
theorem zNU:SdP 76 zCj:=
 sT (cx':=zEo) (zi ⟨zCd,trivial⟩) call76 func76 (lOK (aC zRo aN))
abbrev zCy:=yB×yB×Int×Unit
def z7R (a:yB) (b:yB) (i:Int):Wy zCy (Unit) (Bool⊕Unit):=.i (decide (i<Int.ofNat a.length)) (.i (decide (0≤i)&&decide (i<Int.ofNat a.length)) (.i (decide (0≤i)&&decide (i<Int.ofNat b.length)) (.bn (zBT (a.getD i.toNat default) (b.getD i.toNat default)) fun r0=>.i (r0 != 0) (.k (.inl false)) (.h (a,b,(IntKind.i64.wrap (i+1)),()) ())) .d) .d) (.k (.inr ()))
def zUw (x:zCy) (y:Unit):=z7R x.1 x.2.1 x.2.2.1
def z7P (n:Nat) (a:yB) (b:yB) (i:Int):=zH (zUw) (.inl default) n (a,b,i,()) ()
def z7w:LL ty zCy:=za (lSl 43) (za (lSl 43) (za zj zn))
def z5D (x:zCy) (y:Unit):Nat:=(x.1.length+x.2.1.length+Int.toNat x.2.2.1+1000)
def zUD:=zb5 base 27 [(76,zCj)] [] [(4,(kpL [0,1,5]))] [(4,1,[]),(4,0,(kpL [4]))] [(4,spW z7w z7V (zUw) (.inl default) zQe z5D)] []
theorem z6m:zM zUD (lp (body f26) 0):=zw (id:=4) (hl:=rfl)
def z8y (a:yB) (b:yB):Wy0 (Bool):=.i (Int.ofNat a.length != Int.ofNat b.length) (.k false) (.bn (z7P (a.length+b.length+Int.toNat 0+1000) a b 0) fun r2=>.i (isL r2) (.k (getL r2)) (.k true))
def zTJ (a:yB) (b:yB):=(z8y a b).fin default
def zOx:=zh z1Z fun x=>((zTJ x.1 x.2.1).1,zVj (zTJ x.1 x.2.1).2)
theorem z1J:SdP 26 zOx:=
 sT (cx':=zUD) (zi ⟨zNU,trivial⟩) call26 func26 (lOK (aC z6m aN))
abbrev zGf:=yC×yC×yC×Unit×Int×Unit×Unit×Unit×Unit
abbrev zGN:=yB×(Int×Int×Unit)×(Int×Int×Unit)×(Int×Int×Unit)×Unit
def z6i (x_:yC) (y_:yC) (a:yC) (e:Int) (l:yB) (one_0:Int) (one_1:Int) (two_0:Int) (two_1:Int) (three_0:Int) (three_1:Int):Wy zGf zGN (Bool):=.bn (zfs a) fun r7=>.bn (zou y_ y_) fun r6=>.bn (zDx x_ r6) fun r5=>.bn (ztn r7 r5) fun r4=>.i (r4) (.i (e==0) (.bn (zTJ l [[RowID.mk one_0 one_1,RowID.mk two_0 two_1],[RowID.mk one_0 one_1,RowID.mk three_0 three_1]]) fun r3=>.i (r3) (.bn (zBP a a) fun r2=>.i (r2) (.i (decide ((0:Int)≤(0:Int))&&decide (0<Int.ofNat x_.length)) (.bn (zou x_ y_) fun r1=>.i (decide ((0:Int)≤(0:Int))&&decide (0<Int.ofNat r1.length)) (.bn (zf0 (x_.getD (Int.toNat 0) default) (r1.getD (Int.toNat 0) default)) fun r0=>.k r0) .d) .d) (.k false)) (.k false)) (.k false)) (.k false)
def z6f (x:zGf) (y:zGN):=z6i x.1 x.2.1 x.2.2.1 x.2.2.2.2.1 y.1 y.2.1.1 y.2.1.2.1 y.2.2.1.1 y.2.2.1.2.1 y.2.2.2.1.1 y.2.2.2.1.2.1
def z4T (r:Bool):LTree ty:=.done .ret [.lit (.bool r)] []
def z5y:LL ty zGf:=za (lSl 28) (za (lSl 28) (za (lSl 28) (za (zd3 328) (za zj (za (zft 329 0) (za (zft 330 0) (za (zft 331 0) zn)))))))
def z4Z:BL ty zGN:=zed 43 false (zjh (za (zR .i64) (za (zR .i64) zn)) false (zjh (za (zR .i64) (za (zR .i64) zn)) false (zjh (za (zR .i64) (za (zR .i64) zn)) false (zbl))))
def zRE:=z8m zbP 82 [(14,zl7),(17,zHN),(18,zCc),(22,zjZ),(24,zzg),(26,zOx),(30,zEt),(44,zFt),(45,zR5),(46,zMe),(47,zMY)] [] [(6,[(1,.sl 28),(2,.sl 28),(4,.sl 28),(7,.keep),(8,.keep),(9,.keep),(10,.keep),(11,.keep)])] [(6,0,(kpL [0]))] [] [] [(6,spW z5y z4Z (z6f) default z4T fun x y=>(1))]
theorem z4w:zIg zRE (jn (body f12) 6):=zLe (id:=6) (hl:=rfl)
def z7O:Wy0 (Bool):=.k true
def z1c:Bool×Bool:=(z7O).fin default
def z7r:AL zbP (Unit):=zr
def zMv:=zh z7r fun x=>((z1c ).1,zVj (z1c ).2)
theorem zZY:Sound Tryz.prog zbP 12 zMv:=
 zZj (cx':=zRE) zEi zLm zbbg (z8Q ⟨zq7.nodr,zVE.nodr,zNN.nodr,zma,zIQ.nodr,z1J.nodr,zML.nodr,zSB.nodr,z32.nodr,z0h.nodr,zZQ.nodr,trivial⟩) call12 func12 (c:=body f12) (by kernel_rfl) (zUt (l:=[]) (by kernel_rfl) trivial (js:=[jn (body f12) 6]) (by kernel_rfl) ⟨z4w,trivial⟩) (sg:=⟨[.pure],[]⟩)
def z5g:AL base (yC×Int×Int×Unit):=zd (ze (vSl 28)) (zd (ze (zhQ .i64)) (zd (ze (zhQ .i64)) zr))
def zv7 (F:yC→Int→Int→Bool×Int):Ab.Spec ty:=zh z5g fun x=>((F x.1 x.2.1 x.2.2.1).1,zPQ (F x.1 x.2.1 x.2.2.1).2)
abbrev zjo:=yC×Int×Int×Int×Int×Int×Unit×Int×Unit
abbrev zOC:=yC×Int×Int×Int×Int×Int×At
abbrev zOr:=yC×Int×Int×Int×Int×Int
abbrev zzj:=yC×Int×Int×Int×Int×Int×Unit
abbrev zOT:=yC×Int×Int×Int×Int
abbrev zy6:=yC×Int×Int×Int×Int×Unit
def zAl (zG:yC→Int→Int→Bool×Int) (a:yC) (limit:Int) (zdg:Int) (n_:Int) (i:Int) (k:Int) (j:Int) (x_:At):Wy zjo (At×Unit) zOC:=.i (decide (j<Int.ofNat x_.Ag.length)) (.i (decide (n_≤limit)) (.i (decide (0≤j)&&decide (j<Int.ofNat x_.Ag.length)) (.bn (zG (x_.Ag.getD j.toNat default) (IntKind.i64.wrap (limit - n_)) (IntKind.i64.wrap (zdg - 1))) fun r0=>.h (a,limit,zdg,(IntKind.i64.wrap (n_+r0)),i,k,(),(IntKind.i64.wrap (j+1)),()) (x_,())) .d) (.k (a,limit,zdg,n_,i,k,x_))) (.k (a,limit,zdg,n_,i,k,x_))
def zG1 (zG:yC→Int→Int→Bool×Int) (x:zjo) (y:At×Unit):=zAl zG x.1 x.2.1 x.2.2.1 x.2.2.2.1 x.2.2.2.2.1 x.2.2.2.2.2.1 x.2.2.2.2.2.2.2.1 y.1
def zAw (zG:yC→Int→Int→Bool×Int) (n:Nat) (a:yC) (limit:Int) (zdg:Int) (n_:Int) (i:Int) (k:Int) (j:Int) (x_:At):=zH (zG1 zG) default n (a,limit,zdg,n_,i,k,(),j,()) (x_,())
def zVT (r:zOC):LTree ty:=.done (.exit 4) [.sl 28 r.1,.lit (.int .i64 r.2.1),.lit (.int .i64 r.2.2.1),.lit (.int .i64 r.2.2.2.1),.lit (.int .i64 r.2.2.2.2.1),.lit (.int .i64 r.2.2.2.2.2.1),.ptr 544 0] [.box (base.enc 67 r.2.2.2.2.2.2) false]
def zYO:LL ty zjo:=za (lSl 28) (za zj (za zj (za zj (za zj (za zj (za (zft 544 0) (za zj zn)))))))
def zz5 (zG:yC→Int→Int→Bool×Int) (a:yC) (limit:Int) (zdg:Int) (n_:Int) (i:Int) (k:Int) (j:Int) (x_:At):Wy zjo (At×Unit) zOr:=.i (decide (j<Int.ofNat x_.Items.length)) (.i (decide (n_≤limit)) (.i (decide (0≤j)&&decide (j<Int.ofNat x_.Items.length)) (.i (decide (0≤j)&&decide (j<Int.ofNat x_.Items.length)) (.bn (zG (x_.Items.getD j.toNat default).Ann (IntKind.i64.wrap (limit - n_)) (IntKind.i64.wrap (zdg - 1))) fun r2=>.h (a,limit,zdg,(IntKind.i64.wrap (IntKind.i64.wrap (n_+Int.ofNat (x_.Items.getD j.toNat default).Value.Text.size)+r2)),i,k,(),(IntKind.i64.wrap (j+1)),()) (x_,())) .d) .d) (.k (a,limit,zdg,n_,i,k))) (.k (a,limit,zdg,n_,i,k))
def zHx (zG:yC→Int→Int→Bool×Int) (x:zjo) (y:At×Unit):=zz5 zG x.1 x.2.1 x.2.2.1 x.2.2.2.1 x.2.2.2.2.1 x.2.2.2.2.2.1 x.2.2.2.2.2.2.2.1 y.1
def zAt (zG:yC→Int→Int→Bool×Int) (n:Nat) (a:yC) (limit:Int) (zdg:Int) (n_:Int) (i:Int) (k:Int) (j:Int) (x_:At):=zH (zHx zG) default n (a,limit,zdg,n_,i,k,(),j,()) (x_,())
def zV1 (r:zOr):LTree ty:=.done (.exit 6) [.sl 28 r.1,.lit (.int .i64 r.2.1),.lit (.int .i64 r.2.2.1),.lit (.int .i64 r.2.2.2.1),.lit (.int .i64 r.2.2.2.2.1),.lit (.int .i64 r.2.2.2.2.2)] []
def zBA (zG:yC→Int→Int→Bool×Int) (a:yC) (limit:Int) (zdg:Int) (n_:Int) (i:Int) (k:Int):Wy zzj (Unit) zOT:=.i (decide (0≤i)&&decide (i<Int.ofNat a.length)) (.i (decide (k<Int.ofNat (a.getD i.toNat default).Fs.length)) (.i (decide (n_≤limit)) (.i (decide (0≤i)&&decide (i<Int.ofNat a.length)) (.i (decide (0≤k)&&decide (k<Int.ofNat (a.getD i.toNat default).Fs.length)) (.bn (zAw zG (a.length+limit.toNat +zdg.toNat +(IntKind.i64.wrap (IntKind.i64.wrap (IntKind.i64.wrap (n_+Int.ofNat ((a.getD i.toNat default).Fs.getD k.toNat default).At.Items.length)+Int.ofNat ((a.getD i.toNat default).Fs.getD k.toNat default).At.Ag.length)+Int.ofNat ((a.getD i.toNat default).Fs.getD k.toNat default).At.Bd.Text.size)).toNat +i.toNat +k.toNat +Int.toNat 0+((a.getD i.toNat default).Fs.getD k.toNat default).At.Ag.length+((a.getD i.toNat default).Fs.getD k.toNat default).At.Items.length+1) a limit zdg (IntKind.i64.wrap (IntKind.i64.wrap (IntKind.i64.wrap (n_+Int.ofNat ((a.getD i.toNat default).Fs.getD k.toNat default).At.Items.length)+Int.ofNat ((a.getD i.toNat default).Fs.getD k.toNat default).At.Ag.length)+Int.ofNat ((a.getD i.toNat default).Fs.getD k.toNat default).At.Bd.Text.size)) i k 0 (At.mk ((a.getD i.toNat default).Fs.getD k.toNat default).At.Kind ((a.getD i.toNat default).Fs.getD k.toNat default).At.Row ((a.getD i.toNat default).Fs.getD k.toNat default).At.Ag ((a.getD i.toNat default).Fs.getD k.toNat default).At.Func ((a.getD i.toNat default).Fs.getD k.toNat default).At.Items ((a.getD i.toNat default).Fs.getD k.toNat default).At.Op ((a.getD i.toNat default).Fs.getD k.toNat default).At.Bd)) fun r5=>.bn (zAt zG (r5.1.length+r5.2.1.toNat +r5.2.2.1.toNat +r5.2.2.2.1.toNat +r5.2.2.2.2.1.toNat +r5.2.2.2.2.2.1.toNat +Int.toNat 0+r5.2.2.2.2.2.2.Ag.length+r5.2.2.2.2.2.2.Items.length+1) r5.1 r5.2.1 r5.2.2.1 r5.2.2.2.1 r5.2.2.2.2.1 r5.2.2.2.2.2.1 0 (At.mk r5.2.2.2.2.2.2.Kind r5.2.2.2.2.2.2.Row r5.2.2.2.2.2.2.Ag r5.2.2.2.2.2.2.Func r5.2.2.2.2.2.2.Items r5.2.2.2.2.2.2.Op r5.2.2.2.2.2.2.Bd)) fun r4=>.h ((r4.1),(r4.2.1),(r4.2.2.1),(r4.2.2.2.1),(r4.2.2.2.2.1),(IntKind.i64.wrap (r4.2.2.2.2.2+1)),()) ()) .d) .d) (.k (a,limit,zdg,n_,i))) (.k (a,limit,zdg,n_,i))) .d
def zJp (zG:yC→Int→Int→Bool×Int) (x:zzj) (y:Unit):=zBA zG x.1 x.2.1 x.2.2.1 x.2.2.2.1 x.2.2.2.2.1 x.2.2.2.2.2.1
def zBB (zG:yC→Int→Int→Bool×Int) (n:Nat) (a:yC) (limit:Int) (zdg:Int) (n_:Int) (i:Int) (k:Int):=zH (zJp zG) default n (a,limit,zdg,n_,i,k,()) ()
def zX0 (r:zOT):LTree ty:=.done (.exit 2) [.sl 28 r.1,.lit (.int .i64 r.2.1),.lit (.int .i64 r.2.2.1),.lit (.int .i64 r.2.2.2.1),.lit (.int .i64 r.2.2.2.2)] []
def zZS:LL ty zzj:=za (lSl 28) (za zj (za zj (za zj (za zj (za zj zn)))))
def zB1 (zG:yC→Int→Int→Bool×Int) (a:yC) (limit:Int) (zdg:Int) (n_:Int) (i:Int):Wy zy6 (Unit) (Int):=.i (decide (i<Int.ofNat a.length)) (.i (decide (n_≤limit)) (.i (decide (0≤i)&&decide (i<Int.ofNat a.length)) (.bn (zBB zG (a.length+limit.toNat +zdg.toNat +(IntKind.i64.wrap (IntKind.i64.wrap (n_+1)+Int.ofNat (a.getD i.toNat default).Fs.length)).toNat +i.toNat +Int.toNat 0+1) a limit zdg (IntKind.i64.wrap (IntKind.i64.wrap (n_+1)+Int.ofNat (a.getD i.toNat default).Fs.length)) i 0) fun r8=>.h ((r8.1),(r8.2.1),(r8.2.2.1),(r8.2.2.2.1),(IntKind.i64.wrap (r8.2.2.2.2+1)),()) ()) .d) (.k n_)) (.k n_)
def zJM (zG:yC→Int→Int→Bool×Int) (x:zy6) (y:Unit):=zB1 zG x.1 x.2.1 x.2.2.1 x.2.2.2.1 x.2.2.2.2.1
def zBL (zG:yC→Int→Int→Bool×Int) (n:Nat) (a:yC) (limit:Int) (zdg:Int) (n_:Int) (i:Int):=zH (zJM zG) default n (a,limit,zdg,n_,i,()) ()
def zZF:LL ty zy6:=za (lSl 28) (za zj (za zj (za zj (za zj zn))))
def zVz (x:zjo) (y:At×Unit):Nat:=(x.1.length+Int.toNat x.2.1+Int.toNat x.2.2.1+Int.toNat x.2.2.2.1+Int.toNat x.2.2.2.2.1+Int.toNat x.2.2.2.2.2.1+Int.toNat x.2.2.2.2.2.2.2.1+y.1.Ag.length+y.1.Items.length+1)
def zYx (x:zzj) (y:Unit):Nat:=(x.1.length+Int.toNat x.2.1+Int.toNat x.2.2.1+Int.toNat x.2.2.2.1+Int.toNat x.2.2.2.2.1+Int.toNat x.2.2.2.2.2.1+1)
def zXW (x:zy6) (y:Unit):Nat:=(x.1.length+Int.toNat x.2.1+Int.toNat x.2.2.1+Int.toNat x.2.2.2.1+Int.toNat x.2.2.2.2.1+1)
def zoR (zG:yC→Int→Int→Bool×Int):=zb5 base 136 [(48,(zv7 zG))] [] [(5,(kpL [0,1,2,7,8])),(9,(kpL [0,1,2,7,8,9])),(14,(kpL [0,1,2,7,8,9,10,11])),(18,(kpL [0,1,2,7,8,9,10,12]))] [(5,1,(kpL [7])),(9,3,(kpL [0,1,2,7,8])),(14,5,(kpL [0,1,2,7,8,9,10])),(18,7,(kpL [0,1,2,7,8,9]))] [(14,spW zYO zV7 (zG1 zG) default zVT zVz),(18,spW zYO zV7 (zHx zG) default zV1 zVz),(9,spW zZS z7V (zJp zG) default zX0 zYx),(5,spW zZF z7V (zJM zG) default zRh zXW)] []
theorem zVm (zG:yC→Int→Int→Bool×Int):zM (zoR zG) (lp (body f48) 2):=zw (id:=14) (hl:=rfl)
theorem zVw (zG:yC→Int→Int→Bool×Int):zM (zoR zG) (lp (body f48) 3):=zw (id:=18) (hl:=rfl)
theorem zXr (zG:yC→Int→Int→Bool×Int):zM (zoR zG) (lp (body f48) 1):=zw (id:=9) (hl:=rfl)
theorem zX2 (zG:yC→Int→Int→Bool×Int):zM (zoR zG) (lp (body f48) 0):=zw (id:=5) (hl:=rfl)
def zCV (zG:yC→Int→Int→Bool×Int) (a:yC) (limit:Int) (zdg:Int):Wy0 (Int):=.i (zdg==0) (.k (IntKind.i64.wrap (limit+1))) (.bn (zBL zG (a.length+limit.toNat +zdg.toNat +Int.toNat 0+Int.toNat 0+1) a limit zdg 0 0) fun r10=>.k r10)
def zvp (zG:yC→Int→Int→Bool×Int) (a:yC) (limit:Int) (zdg:Int):=(zCV zG a limit zdg).fin default
theorem zSI (zG:yC→Int→Int→Bool×Int) (z2A:SdP 48 (zv7 zG)):SdP 48 (zv7 (zvp zG)):=
 sT (cx':=(zoR zG)) (zi ⟨z2A,trivial⟩) call48 func48 (lOK (aC (zX2 zG) (aC (zXr zG) (aC (zVm zG) (aC (zVw zG) aN)))))
def z1f:Nat→(yC→Int→Int→Bool×Int)
 | 0=>fun _ _ _=>(false,default)
 | n+1=>zvp (z1f n)
def zp8 (n:Nat):yC→Int→Int→Bool×Int:=z1f n
theorem zJt (n:Nat):zp8 (n+1)=zvp (zp8 n):=rfl
theorem zUZ:∀ n,SdP 48 (zv7 (zp8 n))
 | 0=>z8 call48 (fun _=>rfl)
 | n+1=>by
  have ih:=zUZ n;exact zSI _ (ih)
def zM8:yC→Int→Int→Bool×Int:=zp8 1000
def zJz:Ab.Spec ty:=zv7 zM8
theorem zXJ:SdP 48 zJz:=(zUZ 1000)
abbrev zDZ:=Int×yA×Int×Unit
def zL6 (limit:Int) (l:yA) (i:Int):Wy zDZ (Unit) (Bool⊕Unit):=.i (decide (i<Int.ofNat l.length)) (.i (decide (0≤i)&&decide (i<Int.ofNat l.length)) (.bn (zM8 (l.getD i.toNat default) limit 12) fun r0=>.i (decide (r0>limit)) (.k (.inl false)) (.h (limit,l,(IntKind.i64.wrap (i+1)),()) ())) .d) (.k (.inr ()))
def zWu (x:zDZ) (y:Unit):=zL6 x.1 x.2.1 x.2.2.1
def zLS (n:Nat) (limit:Int) (l:yA) (i:Int):=zH (zWu) (.inl default) n (limit,l,i,()) ()
def z8M:LL ty zDZ:=za zj (za (lSl 23) (za zj zn))
def z7M (x:zDZ) (y:Unit):Nat:=(Int.toNat x.1+x.2.1.length+Int.toNat x.2.2.1+1)
def zYQ:=zb5 base 20 [(48,zJz)] [] [(2,(kpL [0,1,5]))] [(2,1,[]),(2,0,(kpL [4]))] [(2,spW z8M z7V (zWu) (.inl default) zQe z7M)] []
theorem z8d:zM zYQ (lp (body f13) 0):=zw (id:=2) (hl:=rfl)
def z03 (limit:Int) (l:yA):Wy0 (Bool):=.bn (zLS (limit.toNat +l.length+Int.toNat 0+1) limit l 0) fun r2=>.i (isL r2) (.k (getL r2)) (.k true)
def zAJ (limit:Int) (l:yA):=(z03 limit l).fin default
def zbaH:AL base (Int×yA×Unit):=zd (ze zhl) (zd (ze (vSl 23)) zr)
def zRD:=zh zbaH fun x=>((zAJ x.1 x.2.1).1,zVj (zAJ x.1 x.2.1).2)
theorem z3i:SdP 13 zRD:=
 sT (cx':=zYQ) (zi ⟨zXJ,trivial⟩) call13 func13 (lOK (aC z8d aN))
abbrev zsP:=yC×Unit×Unit×Int×Unit
abbrev zcP:=yC×yC×Unit
abbrev zsB:=yC×Unit×Unit×Int×Unit×Int×Unit×Int×Unit×Int×Unit
abbrev zsK:=yC×yC×yC×yC×yC×Unit
def zq9 (a:yC) (g:Int) (n_:yC) (p:yC):Wy zsP zcP (Bool):=.bn (ziK a p) fun r1=>.i (g != 0) (.k true) (.i (r1.2 != 0) (.k true) (.bn (zcv r1.1 n_) fun r0=>.k r0))
def zrv (x:zsP) (y:zcP):=zq9 x.1 x.2.2.2.1 y.1 y.2.1
def zhN (n:Nat) (a:yC) (g:Int) (n_:yC) (p:yC):=zH (zrv) default n (a,(),(),g,()) (n_,p,())
def zLc:LL ty zsP:=za (lSl 28) (za (zd3 556) (za (zd3 557) (za zj zn)))
def zMG:BL ty zcP:=zed 28 true (zed 28 false (zbl))
def zre (a:yC) (g:Int) (h:Int) (i:Int) (j:Int) (n_:yC) (p:yC) (q:yC) (s:yC) (t:yC):Wy zsB zsK (Bool):=.i (g==0) (.i (h != 0) (.k false) (.bn (zcv p q) fun r7=>.i (!r7) (.k false) (.i (i==0) (.i (j != 0) (.k false) (.bn (zcv s t) fun r5=>.i (!r5) (.k false) (.bn (zhN 1 a g n_ p) fun r4=>.k r4))) (.bn (zhN 1 a g n_ p) fun r6=>.k r6)))) (.i (i==0) (.i (j != 0) (.k false) (.bn (zcv s t) fun r9=>.i (!r9) (.k false) (.bn (zhN 1 a g n_ p) fun r8=>.k r8))) (.bn (zhN 1 a g n_ p) fun r10=>.k r10))
def zqM (x:zsB) (y:zsK):=zre x.1 x.2.2.2.1 x.2.2.2.2.2.1 x.2.2.2.2.2.2.2.1 x.2.2.2.2.2.2.2.2.2.1 y.1 y.2.1 y.2.2.1 y.2.2.2.1 y.2.2.2.2.1
def zia (n:Nat) (a:yC) (g:Int) (h:Int) (i:Int) (j:Int) (n_:yC) (p:yC) (q:yC) (s:yC) (t:yC):=zH (zqM) default n (a,(),(),g,(),h,(),i,(),j,()) (n_,p,q,s,t,())
def zLz:LL ty zsB:=za (lSl 28) (za (zd3 556) (za (zd3 557) (za zj (za (zd3 558) (za zj (za (zd3 559) (za zj (za (zd3 560) (za zj zn)))))))))
def zMc:BL ty zsK:=zed 28 true (zed 28 false (zed 28 false (zed 28 false (zed 28 false (zbl)))))
def zsx (a:yC) (b:yC):Wy zcP (Unit) (Bool):=.bn (zfs a) fun r32=>.bn (zfs b) fun r31=>.bn (ziK zki.2 a) fun r30=>.bn (ziK a a) fun r29=>.bn (zqj a b) fun r28=>.bn (zqj r32 r31) fun r27=>.bn (ziK a b) fun r26=>.bn (ziK r32 r31) fun r25=>.i (r30.2==0) (.bn (zcv r30.1 zki.2) fun r21=>.i (!r21) (.k false) (.i (r29.2==0) (.bn (zcv r29.1 r32) fun r19=>.i (!r19) (.k false) (.bn (zia 1 a r28.2 r27.2 r26.2 r25.2 r32 r28.1 r27.1 r26.1 r25.1) fun r18=>.k r18)) (.bn (zia 1 a r28.2 r27.2 r26.2 r25.2 r32 r28.1 r27.1 r26.1 r25.1) fun r20=>.k r20))) (.i (r29.2==0) (.bn (zcv r29.1 r32) fun r23=>.i (!r23) (.k false) (.bn (zia 1 a r28.2 r27.2 r26.2 r25.2 r32 r28.1 r27.1 r26.1 r25.1) fun r22=>.k r22)) (.bn (zia 1 a r28.2 r27.2 r26.2 r25.2 r32 r28.1 r27.1 r26.1 r25.1) fun r24=>.k r24))
def zs8 (x:zcP) (y:Unit):=zsx x.1 x.2.1
def zBf (n:Nat) (a:yC) (b:yC):=zH (zs8) default n (a,b,()) ()
def zNB:LL ty zcP:=za (lSl 28) (za (lSl 28) zn)
def zsn (a:yC) (b:yC):Wy zcP (Unit) (Bool):=.bn (zAJ 20 [a,b]) fun r51=>.i (!r51) (.k true) (.bn (zbX a) fun r50=>.i (!r50) (.k true) (.bn (zbX b) fun r49=>.i (!r49) (.k true) (.bn (zBf 1 a b) fun r48=>.k r48)))
def zsY (x:zcP) (y:Unit):=zsn x.1 x.2.1
def zBt (n:Nat) (a:yC) (b:yC):=zH (zsY) default n (a,b,()) ()
def zi8:=z8m zbP 139 [(12,zMv),(13,zRD),(20,zcb),(21,zkv),(22,zjZ),(35,zFp),(36,zms),(37,zFH)] [] [(3,(kpL [0,1])),(5,(kpL [0,1])),(14,(kpL [0,5,11,12,13,14,15,16,17,18])),(16,(kpL [0,5,11,12]))] [(3,0,(kpL [4])),(5,0,(kpL [4])),(14,0,(kpL [4])),(16,0,(kpL [4]))] [] [] [(16,spW zLc zMG (zrv) default z4T fun x y=>(1)),(14,spW zLz zMc (zqM) default z4T fun x y=>(1)),(5,spW zNB z7V (zs8) default z4T fun x y=>(1)),(3,spW zNB z7V (zsY) default z4T fun x y=>(1))]
theorem zJ2:zIg zi8 (jn (body f10) 16):=zLe (id:=16) (hl:=rfl)
theorem zKG:zIg zi8 (jn (body f10) 14):=zLe (id:=14) (hl:=rfl)
theorem zL4:zIg zi8 (jn (body f10) 5):=zLe (id:=5) (hl:=rfl)
theorem zME:zIg zi8 (jn (body f10) 3):=zLe (id:=3) (hl:=rfl)
def zCv (a:yC) (b:yC):Wy0 (Bool):=.bn (zBt 1 a b) fun r56=>.k r56
def ziG (a:yC) (b:yC):=(zCv a b).fin default
def zPp:AL zbP zcP:=zd (ze (vSl 28)) (zd (ze (vSl 28)) zr)
def zo5:=zh zPp fun x=>((ziG x.1 x.2.1).1,zVj (ziG x.1 x.2.1).2)
theorem zJn:Sound Tryz.prog zbP 10 zo5:=
 zZj (cx':=zi8) zEi zLm zbbg (z8Q ⟨zZY,z3i.nodr,zci.nodr,zm7.nodr,zma,zTv,zpm.nodr,zT6,trivial⟩) call10 func10 (c:=body f10) (by kernel_rfl) (zUt (l:=[]) (by kernel_rfl) trivial (js:=[jn (body f10) 3,jn (body f10) 5,jn (body f10) 14,jn (body f10) 16]) (by kernel_rfl) ⟨zME,zL4,zKG,zJ2,trivial⟩) (sg:=⟨[.pure],[]⟩)
def trV (v:Value):TT:=.l [.i v.Kind,.i v.Int,trB v.Text]
mutual
def zdD:At→TT
 | ⟨k,r,a,f,i,o,b⟩=>.l [.i k,.i r.Table,.i r.Seq,.l (zxZ a),.i f,.l (zhq i),.i o,trV b]
def zhR:Fc→TT
 | ⟨x,e⟩=>.l [zdD x,.i e]
def zbD:yD→List TT
 | []=>[]
 | x::r=>zhR x::zbD r
def zAG:Term→TT
 | ⟨c,fs⟩=>.l [.l (zbD fs),.i c]
def zdt:yC→List TT
 | []=>[]
 | x::r=>zAG x::zdt r
def zxZ:yA→List TT
 | []=>[]
 | x::r=>.l (zdt x)::zxZ r
def zbf:Wd→TT
 | ⟨v,a⟩=>.l [trV v,.l (zdt a)]
def zhq:yE→List TT
 | []=>[]
 | x::r=>zbf x::zhq r
end
theorem zxQ:∀ l,zbD l=l.map zhR
 | []=>by rw [zbD]; rfl
 | x::r=>by rw [zbD,zxQ r]; rfl
theorem zH0:∀ l,zdt l=l.map zAG
 | []=>by rw [zdt]; rfl
 | x::r=>by rw [zdt,zH0 r]; rfl
theorem zEI:∀ l,zxZ l=l.map fun x=>.l (zdt x)
 | []=>by rw [zxZ]; rfl
 | x::r=>by rw [zxZ,zEI r]; rfl
theorem zmX:∀ l,zhq l=l.map zbf
 | []=>by rw [zhq]; rfl
 | x::r=>by rw [zhq,zmX r]; rfl
theorem zIC:∀ a b:List UInt8,(a.map fun x=>TT.i (x.toNat:Int))=(b.map fun x=>TT.i (x.toNat:Int))→a=b
 | [],[]=>fun _=>rfl
 | [],_::_=>fun h=>by simp at h
 | _::_,[]=>fun h=>by simp at h
 | x::a,y::b=>fun h=>by
  simp only [List.map,qj,TT.i.injEq] at h;rw [zIC a b h.2,UInt8.toNat_inj.1 (Int.ofNat.inj h.1)]
theorem zbbF {a b:Value} (h:trV a=trV b):a=b:=by
 obtain ⟨k,n,s⟩:=a; obtain ⟨k',n',s'⟩:=b;simp only [trV,trB,TT.l.injEq,qj,TT.i.injEq,and_true] at h;obtain ⟨rfl,rfl,h⟩:=h;have:=zIC _ _ h;obtain ⟨⟨l⟩⟩:=s; obtain ⟨⟨l'⟩⟩:=s';simp only at this; subst this; rfl
mutual
theorem z4I:∀ a b:At,zdD a=zdD b→a=b
 | ⟨k,r,a,f,i,o,v⟩,⟨k',r',a',f',i',o',v'⟩=>fun h=>by
  simp only [zdD,TT.l.injEq,qj,TT.i.injEq,and_true] at h;obtain ⟨rfl,h1,h2,h3,rfl,h4,rfl,h5⟩:=h;obtain ⟨t,s⟩:=r; obtain ⟨t',s'⟩:=r';simp only at h1 h2; subst h1 h2;rw [z3r a a' h3,z1h i i' h4,zbbF h5]
theorem zYL:∀ a b:Fc,zhR a=zhR b→a=b
 | ⟨x,e⟩,⟨x',e'⟩=>fun h=>by
  simp only [zhR,TT.l.injEq,qj,TT.i.injEq,and_true] at h;rw [z4I x x' h.1,h.2]
theorem zCA:∀ a b:yD,zbD a=zbD b→a=b
 | [],[]=>fun _=>rfl
 | [],_::_=>fun h=>by simp [zbD] at h
 | _::_,[]=>fun h=>by simp [zbD] at h
 | x::a,y::b=>fun h=>by
  simp only [zbD,qj] at h;rw [zYL x y h.1,zCA a b h.2]
theorem zbcZ:∀ a b:Term,zAG a=zAG b→a=b
 | ⟨c,l⟩,⟨c',l'⟩=>fun h=>by
  simp only [zAG,TT.l.injEq,qj,TT.i.injEq,and_true] at h;rw [zCA l l' h.1,h.2]
theorem zHG:∀ a b:yC,zdt a=zdt b→a=b
 | [],[]=>fun _=>rfl
 | [],_::_=>fun h=>by simp [zdt] at h
 | _::_,[]=>fun h=>by simp [zdt] at h
 | x::a,y::b=>fun h=>by
  simp only [zdt,qj] at h;rw [zbcZ x y h.1,zHG a b h.2]
theorem z3r:∀ a b:yA,zxZ a=zxZ b→a=b
 | [],[]=>fun _=>rfl
 | [],_::_=>fun h=>by simp [zxZ] at h
 | _::_,[]=>fun h=>by simp [zxZ] at h
 | x::a,y::b=>fun h=>by
  simp only [zxZ,qj,TT.l.injEq] at h;rw [zHG x y h.1,z3r a b h.2]
theorem z3W:∀ a b:Wd,zbf a=zbf b→a=b
 | ⟨c,l⟩,⟨c',l'⟩=>fun h=>by
  simp only [zbf,TT.l.injEq,qj,and_true] at h;rw [zbbF h.1,zHG l l' h.2]
theorem z1h:∀ a b:yE,zhq a=zhq b→a=b
 | [],[]=>fun _=>rfl
 | [],_::_=>fun h=>by simp [zhq] at h
 | _::_,[]=>fun h=>by simp [zhq] at h
 | x::a,y::b=>fun h=>by
  simp only [zhq,qj] at h;rw [z3W x y h.1,z1h a b h.2]
end
def zcY (P:yC→Prop) (x:At):Prop:=
 (x.Ag.length≤1000000∧x.Items.length≤1000000∧x.Bd.Text.size≤1000000000000)∧(∀ a∈x.Ag,P a)∧∀ w∈x.Items,w.Value.Text.size≤1000000000000∧P w.Ann
def zdG (P:yC→Prop) (l:yD):Prop:=l.length≤1000000∧∀ f∈l,zcY P f.At
def zp:Nat→yC→Prop
 | 0,_=>False
 | n+1,a=>a.length≤1000000∧∀ t∈a,zdG (zp n) t.Fs
theorem zcY.imp {P Q:yC→Prop} (h:∀ a,P a→Q a) {x:At} (hx:zcY P x):zcY Q x:=⟨hx.1,fun a ha=>h a (hx.2.1 a ha),fun w hw=>⟨(hx.2.2 w hw).1,h _ (hx.2.2 w hw).2⟩⟩
theorem zp.succ:∀ (n:Nat) (a:yC),zp n a→zp (n+1) a
 | 0,_,h=>h.elim
 | n+1,a,h=>⟨h.1,fun t ht=>⟨(h.2 t ht).1,fun f hf=>((h.2 t ht).2 f hf).imp (zp.succ n)⟩⟩
theorem zp.mono {n m:Nat} {a:yC} (h:zp n a) (hm:n≤m):zp m a:=by
 obtain ⟨k,rfl⟩:=Nat.exists_eq_add_of_le hm;clear hm;induction k with
 | zero=>exact h
 | succ k ih=>exact zp.succ _ _ ih
def dvF (a b:yD):Bool:=a.all fun f=>b.any fun g=>decide (f.Exp≤g.Exp)&&decide (f.At=g.At)
theorem zF3 {a b:yD}:dvF a b=true↔∀ f∈a,∃ g∈b,f.Exp≤g.Exp∧f.At=g.At:=by
 unfold dvF;simp only [List.all_eq_true,List.any_eq_true,qc,qe]
theorem zMD (a:yD):dvF a a=true:=zF3.2 fun f hf=>⟨f,hf,Int.le_refl _,rfl⟩
theorem zOt {a b c:yD} (h1:dvF a b=true) (h2:dvF b c=true):dvF a c=true:=zF3.2 fun f hf=>by
 obtain ⟨g,hg,e1,e2⟩:=zF3.1 h1 f hf;obtain ⟨h,hh,e3,e4⟩:=zF3.1 h2 g hg;exact ⟨h,hh,Int.le_trans e1 e3,e2.trans e4⟩
def cFx (f g:Fc):Int:=zbc (zhR f) (zhR g)
theorem z4j {α:Type} (e:α→TT) (he:∀ a b,e a=e b→a=b):Ord3 fun a b=>zbc (e a) (e b) where
 eq x y:=⟨fun h=>he _ _ (zvk _ _ h),fun h=>by subst h; exact zHV _⟩
 swap x y:=by rw [zgX (e x) (e y)]; omega
 trans x y z h1 h2:=by
  have h3:zbc (e x) (e z)≤0:=zwQ _ _ _ (Int.le_of_lt h1) (Int.le_of_lt h2);by_cases h4:zbc (e x) (e z)=0
  ·have h5:=zvk _ _ h4;rw [h5,zgX (e y) (e z)] at h1;omega
  ·omega
theorem zbiy:Ord3 cFx:=z4j zhR zYL
abbrev zUn (l:yD):Prop:=l.Pairwise fun f g=>zbc (zdD f.At) (zdD g.At)<0
theorem zUn.sasc {l:yD} (h:zUn l):zbet cFx l:=h.imp fun {f g} hfg=>by
 obtain ⟨x,e⟩:=f; obtain ⟨y,e'⟩:=g;show zbc (zhR ⟨x,e⟩) (zhR ⟨y,e'⟩)<0;have hfg:zbc (zdD x) (zdD y)<0:=hfg;simp only [zhR,zbc,zbO];rw [if_neg (by omega)]
 exact hfg
theorem zUn.uniq {l:yD} (h:zUn l):∀ f∈l,∀ g∈l,f.At=g.At→f=g:=by
 induction l with
 | nil=>intro f hf; cases hf
 | cons x r ih=>
  have h:=qi.1 h
  have ne:∀ g∈r,x.At≠g.At:=fun g hg e=>by
   have:=h.1 g hg;rw [e,zHV] at this; omega
  intro f hf g hg e;rcases qd.1 hf with e1 | hf1
  ·rcases qd.1 hg with e2 | hg1
   ·rw [e1,e2]
   ·rw [e1] at e; exact absurd e (ne g hg1)
  ·rcases qd.1 hg with e2 | hg1
   ·rw [e2] at e; exact absurd e.symm (ne f hf1)
   ·exact ih h.2 f hf1 g hg1 e
theorem z1O {a b:yD} (ha:zUn a) (hb:zUn b) (h1:dvF a b=true) (h2:dvF b a=true):a=b:=by
 have key:∀ {a b:yD},zUn a→zUn b→dvF a b=true→dvF b a=true→∀ f∈a,f∈b:=by
  intro a b ha hb h1 h2 f hf;obtain ⟨g,hg,e1,e2⟩:=zF3.1 h1 f hf;obtain ⟨f',hf',e3,e4⟩:=zF3.1 h2 g hg;have:=ha.uniq f hf f' hf' (e2.trans e4);subst this
  have:f=g:=by
   obtain ⟨x,n⟩:=f; obtain ⟨y,m⟩:=g;simp only at e1 e2 e3 e4;subst e2;have:n=m:=by omega
   subst this; rfl
  subst this; exact hg
 exact z1m zbiy ha.sasc hb.sasc fun x=>⟨key ha hb h1 h2 x,key hb ha h2 h1 x⟩
def cL (a b:yD):Int:=zbc (.l (zbD a)) (.l (zbD b))
theorem z9b:Ord3 cL:=z4j (fun a=>.l (zbD a)) fun a b h=>zCA _ _ (TT.l.inj h)
structure Canon (a:yC):Prop where
 asc:a.Pairwise fun t u=>cL t.Fs u.Fs<0
 fac:∀ t∈a,zUn t.Fs
theorem Canon.tail {t:Term} {a:yC} (h:Canon (t::a)):Canon a:=⟨(qi.1 h.asc).2,fun x hx=>h.fac x (by simp [hx])⟩
theorem Canon.uniq {a:yC} (h:Canon a):∀ t∈a,∀ u∈a,t.Fs=u.Fs→t=u:=by
 have hp:=h.asc;clear h;induction a with
 | nil=>intro t ht; cases ht
 | cons x r ih=>
  have hp:=qi.1 hp
  have ne:∀ g∈r,x.Fs≠g.Fs:=fun g hg e=>by
   have:=hp.1 g hg;rw [e,z9b.refl] at this; omega
  intro f hf g hg e;rcases qd.1 hf with e1 | hf1
  ·rcases qd.1 hg with e2 | hg1
   ·rw [e1,e2]
   ·rw [e1] at e; exact absurd e (ne g hg1)
  ·rcases qd.1 hg with e2 | hg1
   ·rw [e2] at e; exact absurd e.symm (ne f hf1)
   ·exact ih hp.2 f hf1 g hg1 e
def zPz (a:yC) (t:Term):Bool:=a.all fun u=> !dvF u.Fs t.Fs||decide (u.Fs=t.Fs)
theorem zTg {a:yC} {t:Term}:zPz a t=true↔∀ u∈a,dvF u.Fs t.Fs=true→u.Fs=t.Fs:=by
 unfold zPz;simp only [List.all_eq_true,Bool.or_eq_true,Bool.not_eq_true',qe];constructor
 ·intro h u hu hd;rcases h u hu with h | h
  ·rw [hd] at h; cases h
  ·exact h
 ·intro h u hu;cases hd:dvF u.Fs t.Fs with
  | false=>exact .inl rfl
  | true=>exact .inr (h u hu hd)
def zcf (a:yC):yC:=(a.filter (zPz a)).map fun t=>⟨1,t.Fs⟩
theorem zqH {a:yC} {t:Term}:t∈zcf a↔∃ u∈a,zPz a u=true∧t=⟨1,u.Fs⟩:=by
 unfold zcf;rw [List.mem_map];constructor
 ·rintro ⟨u,hu,rfl⟩
  have:=List.mem_filter.1 hu;exact ⟨u,this.1,this.2,rfl⟩
 ·rintro ⟨u,h1,h2,rfl⟩
  exact ⟨u,List.mem_filter.2 ⟨h1,h2⟩,rfl⟩
theorem zDS {a:yC} (h:Canon a):Canon (zcf a):=by
 refine ⟨?_,fun t ht=> ?_⟩
 ·unfold zcf;rw [List.pairwise_map];exact h.asc.filter _
 ·obtain ⟨u,hu,_,rfl⟩:=zqH.1 ht;exact h.fac u hu
theorem z6K {a:yC} (h:Canon a):∀ (n:Nat) (t:Term),t∈a→(a.filter fun u=>dvF u.Fs t.Fs).length≤n→∃ u∈a,zPz a u=true∧dvF u.Fs t.Fs=true
 | 0,t,ht,hn=>by
  have:t∈a.filter fun u=>dvF u.Fs t.Fs:=List.mem_filter.2 ⟨ht,zMD _⟩
  have:=List.length_pos_of_mem this;omega
 | n+1,t,ht,hn=>by
  by_cases hm:zPz a t=true
  ·exact ⟨t,ht,hm,zMD _⟩
  ·have hm:∃ u∈a,dvF u.Fs t.Fs=true∧u.Fs≠t.Fs:=by
    refine Classical.byContradiction fun hc=>hm (zTg.2 fun u hu hd=>Classical.byContradiction fun hne=>hc ⟨u,hu,hd,hne⟩)
   obtain ⟨u,hu,hd,hne⟩:=hm
   have hnd:dvF t.Fs u.Fs=false:=by
    cases hq:dvF t.Fs u.Fs with
    | false=>rfl
    | true=>exact absurd (z1O (h.fac u hu) (h.fac t ht) hd hq) hne
   have hlt:(a.filter fun v=>dvF v.Fs u.Fs).length<(a.filter fun v=>dvF v.Fs t.Fs).length:=by
    have hsub:∀ l:yC,(l.filter fun v=>dvF v.Fs u.Fs).length≤(l.filter fun v=>dvF v.Fs t.Fs).length∧(t∈l→(l.filter fun v=>dvF v.Fs u.Fs).length<(l.filter fun v=>dvF v.Fs t.Fs).length):=by
     intro l;induction l with
     | nil=>exact ⟨Nat.le_refl _,fun h=>by cases h⟩
     | cons x r ih=>
      have step:dvF x.Fs u.Fs=true→dvF x.Fs t.Fs=true:=fun hx=>zOt hx hd
      by_cases h1:dvF x.Fs u.Fs=true
      ·rw [List.filter_cons_of_pos (by exact h1),List.filter_cons_of_pos (by exact step h1)]
       simp only [qf];refine ⟨by omega,fun hx=> ?_⟩
       rcases qd.1 hx with rfl | hx
       ·rw [hnd] at h1; cases h1
       ·have:=ih.2 hx; omega
      ·rw [List.filter_cons_of_neg (by simpa using h1)]
       by_cases h2:dvF x.Fs t.Fs=true
       ·rw [List.filter_cons_of_pos (by exact h2)]
        simp only [qf];exact ⟨by have:=ih.1; omega,fun _=>by have:=ih.1; omega⟩
       ·rw [List.filter_cons_of_neg (by simpa using h2)]
        refine ⟨ih.1,fun hx=> ?_⟩
        rcases qd.1 hx with rfl | hx
        ·exact absurd (zMD _) h2
        ·exact ih.2 hx
    exact (hsub a).2 ht
   obtain ⟨w,w1,w2,w3⟩:=z6K h n u hu (by omega)
   exact ⟨w,w1,w2,zOt w3 hd⟩
def leS (a b:yC):Bool:=a.all fun t=>b.any fun u=>dvF u.Fs t.Fs
theorem zoa {a b:yC}:leS a b=true↔∀ t∈a,∃ u∈b,dvF u.Fs t.Fs=true:=by
 unfold leS;simp only [List.all_eq_true,List.any_eq_true]
theorem zSV (a:yC):leS a a=true:=zoa.2 fun t ht=>⟨t,ht,zMD _⟩
theorem znH {a b c:yC} (h1:leS a b=true) (h2:leS b c=true):leS a c=true:=zoa.2 fun t ht=>by
 obtain ⟨u,hu,h3⟩:=zoa.1 h1 t ht;obtain ⟨v,hv,h4⟩:=zoa.1 h2 u hu;exact ⟨v,hv,zOt h4 h3⟩
theorem zHi {a:yC} (h:Canon a):leS a (zcf a)=true:=zoa.2 fun t ht=>by
 obtain ⟨u,hu,hm,hd⟩:=z6K h _ t ht (Nat.le_refl _);exact ⟨⟨1,u.Fs⟩,zqH.2 ⟨u,hu,hm,rfl⟩,hd⟩
theorem zDU (a:yC):leS (zcf a) a=true:=zoa.2 fun t ht=>by
 obtain ⟨u,hu,_,rfl⟩:=zqH.1 ht;exact ⟨u,hu,zMD _⟩
theorem zbeS {a:yC}:∀ t∈zcf a,∀ u∈zcf a,dvF u.Fs t.Fs=true→u.Fs=t.Fs:=by
 intro t ht u hu hd;obtain ⟨t',ht',hm,rfl⟩:=zqH.1 ht;obtain ⟨u',hu',_,rfl⟩:=zqH.1 hu;exact zTg.1 hm u' hu' hd
theorem zbdP {a b:yC} (ha:Canon a) (hb:Canon b) (h:∀ t,t∈a↔t∈b):a=b:=by
 have hp:=ha.asc; have hq:=hb.asc;clear ha hb;induction a generalizing b with
 | nil=>
  cases b with
  | nil=>rfl
  | cons y s=>exact absurd ((h y).2 (by simp)) (by simp)
 | cons x r ih=>
  cases b with
  | nil=>exact absurd ((h x).1 (by simp)) (by simp)
  | cons y s=>
   have hp':=qi.1 hp;have hq':=qi.1 hq
   have hxy:x=y:=by
    rcases qd.1 ((h x).1 (by simp)) with e | hx
    ·exact e
    ·rcases qd.1 ((h y).2 (by simp)) with e | hy
     ·exact e.symm
     ·exact absurd (hp'.1 y hy) (z9b.asymm (hq'.1 x hx))
   subst hxy;congr 1;refine ih (fun z=>⟨fun hz=> ?_,fun hz=> ?_⟩) hp'.2 hq'.2
   ·rcases qd.1 ((h z).1 (by simp [hz])) with e | hz'
    ·subst e; exact absurd (hp'.1 _ hz) (z9b.irrefl _)
    ·exact hz'
   ·rcases qd.1 ((h z).2 (by simp [hz])) with e | hz'
    ·subst e; exact absurd (hq'.1 _ hz) (z9b.irrefl _)
    ·exact hz'
theorem zQ2 {a b:yC} (ha:Canon a) (hb:Canon b) (h1:leS a b=true) (h2:leS b a=true):zcf a=zcf b:=by
 have key:∀ {a b:yC},Canon a→Canon b→leS a b=true→leS b a=true→∀ t∈zcf a,t∈zcf b:=by
  intro a b ha hb h1 h2 t ht;have h3:leS (zcf a) (zcf b)=true:=znH (zDU a) (znH h1 (zHi hb));have h4:leS (zcf b) (zcf a)=true:=znH (zDU b) (znH h2 (zHi ha));obtain ⟨u,hu,hd⟩:=zoa.1 h3 t ht;obtain ⟨t',ht',hd'⟩:=zoa.1 h4 u hu;have e:=zbeS t ht t' ht' (zOt hd' hd);have e2:u.Fs=t.Fs:=z1O ((zDS hb).fac u hu) ((zDS ha).fac t ht) hd (by rw [← e]; exact hd')
  obtain ⟨u',_,_,rfl⟩:=zqH.1 hu;obtain ⟨t'',_,_,rfl⟩:=zqH.1 ht;simp only at e2;rw [← e2]; exact hu
 exact zbdP (zDS ha) (zDS hb) fun t=>⟨key ha hb h1 h2 t,key hb ha h2 h1 t⟩
theorem zbcJ {a b:yC} (ha:Canon a) (hb:Canon b):(leS a b=true∧leS b a=true)↔zcf a=zcf b:=by
 constructor
 ·rintro ⟨h1,h2⟩; exact zQ2 ha hb h1 h2
 ·intro h;exact ⟨znH (zHi ha) (by rw [h]; exact zDU b),znH (zHi hb) (by rw [← h]; exact zDU a)⟩
def zOG (a b s:yC):Prop:=∀ l:yD,(∃ t∈s,t.Fs=l)↔(∃ t∈a,t.Fs=l)∨∃ t∈b,t.Fs=l
theorem zOG.le {a b s c:yC} (h:zOG a b s):leS s c=true↔leS a c=true∧leS b c=true:=by
 simp only [zoa];constructor
 ·intro hs;refine ⟨fun t ht=> ?_,fun t ht=> ?_⟩
  ·obtain ⟨t',ht',e⟩:=(h t.Fs).2 (.inl ⟨t,ht,rfl⟩);rw [← e]; exact hs t' ht'
  ·obtain ⟨t',ht',e⟩:=(h t.Fs).2 (.inr ⟨t,ht,rfl⟩);rw [← e]; exact hs t' ht'
 ·rintro ⟨h1,h2⟩ t ht
  rcases (h t.Fs).1 ⟨t,ht,rfl⟩ with ⟨u,hu,e⟩ | ⟨u,hu,e⟩
  ·rw [← e]; exact h1 u hu
  ·rw [← e]; exact h2 u hu
theorem zOG.ge {a b s:yC} (h:zOG a b s):leS a s=true∧leS b s=true:=(h.le (c:=s)).1 (zSV s)
theorem zbcD {a b s:yC} (ha:Canon a) (hb:Canon b) (hs:Canon s) (h:zOG a b s):leS a b=true↔zcf s=zcf b:=by
 rw [← zbcJ hs hb,h.le];exact ⟨fun h1=>⟨⟨h1,zSV b⟩,h.ge.2⟩,fun h1=>h1.1.1⟩
theorem sum_red {a b s a' b' s':yC} (hs:Canon s) (hs':Canon s') (h:zOG a b s) (h':zOG a' b' s') (h1:leS a a'=true) (h2:leS a' a=true) (h3:leS b b'=true) (h4:leS b' b=true):zcf s=zcf s':=
 zQ2 hs hs' (h.le.2 ⟨znH h1 h'.ge.1,znH h3 h'.ge.2⟩) (h'.le.2 ⟨znH h2 h.ge.1,znH h4 h.ge.2⟩)
end Go.Proofs.YtljlfiomikifjaaGreatDoor
end
