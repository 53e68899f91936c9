/- Texts of this claim, joined (the program, its functions in plain words, and what they compute). -/
import Derived.Test.YtljlfiomikifjaaGreatDoorGC5
set_option autoImplicit false
set_option linter.unusedVariables false
set_option linter.unusedSectionVars false
set_option linter.unusedSimpArgs false
set_option maxRecDepth 1000000
set_option maxHeartbeats 0
noncomputable section
namespace Go.Proofs.YtljlfiomikifjaaGreatDoor
open Go Go.Ab
abbrev zh6:=yC×Int×Int×Int×Unit×Int×Unit
abbrev zB6:=yC×Int×Int×Int×Atom
abbrev zB9:=yC×Int×Int×Int
abbrev zx0:=yC×Int×Int×Int×Unit
abbrev zCc:=yC×Int×Int
abbrev zyg:=yC×Int×Int×Unit
def zrk (zT:yC→Bool×Int) (a:yC) (n_:Int) (i:Int) (k:Int) (j:Int) (x_:Atom):Wy zh6 (Atom×Unit) zB6:=.i (decide (j<Int.ofNat x_.Args.length)) (.i (decide (0≤j)&&decide (j<Int.ofNat x_.Args.length)) (.bn (zT (x_.Args.getD j.toNat default)) fun r0=>.h (a,(IntKind.i64.wrap (n_+r0)),i,k,(),(IntKind.i64.wrap (j+1)),()) (x_,())) .d) (.k (a,n_,i,k,x_))
def zCr (zT:yC→Bool×Int) (x:zh6) (y:Atom×Unit):Wy zh6 (Atom×Unit) zB6:=zrk zT x.1 x.2.1 x.2.2.1 x.2.2.2.1 x.2.2.2.2.2.1 y.1
def zLG (zT:yC→Bool×Int) (n:Nat) (a:yC) (n_:Int) (i:Int) (k:Int) (j:Int) (x_:Atom):Bool×zB6:=zI (zCr zT) default n (a,n_,i,k,(),j,()) (x_,())
def zXK (r:zB6):LTree ty:=.done (.exit 4) [.sl 28 r.1,.lit (.int .i64 r.2.1),.lit (.int .i64 r.2.2.1),.lit (.int .i64 r.2.2.2.1),.ptr 284 0] [.box (base.enc 67 r.2.2.2.2) false]
def zZ3:LL ty zh6:=za (lSl 28) (za lI64 (za lI64 (za lI64 (za (zfl 284 0) (za lI64 zp)))))
def zqT (zT:yC→Bool×Int) (a:yC) (n_:Int) (i:Int) (k:Int) (j:Int) (x_:Atom):Wy zh6 (Atom×Unit) zB9:=.i (decide (j<Int.ofNat x_.Items.length)) (.i (decide (0≤j)&&decide (j<Int.ofNat x_.Items.length)) (.bn (zT (x_.Items.getD j.toNat default).Ann) fun r2=>.h (a,(IntKind.i64.wrap (IntKind.i64.wrap (n_+1)+r2)),i,k,(),(IntKind.i64.wrap (j+1)),()) (x_,())) .d) (.k (a,n_,i,k))
def zCo (zT:yC→Bool×Int) (x:zh6) (y:Atom×Unit):Wy zh6 (Atom×Unit) zB9:=zqT zT x.1 x.2.1 x.2.2.1 x.2.2.2.1 x.2.2.2.2.2.1 y.1
def zK4 (zT:yC→Bool×Int) (n:Nat) (a:yC) (n_:Int) (i:Int) (k:Int) (j:Int) (x_:Atom):Bool×zB9:=zI (zCo zT) default n (a,n_,i,k,(),j,()) (x_,())
def zXF (r:zB9):LTree ty:=.done (.exit 6) [.sl 28 r.1,.lit (.int .i64 r.2.1),.lit (.int .i64 r.2.2.1),.lit (.int .i64 r.2.2.2)] []
def ztg (zT:yC→Bool×Int) (a:yC) (n_:Int) (i:Int) (k:Int):Wy zx0 (Unit) zCc:=.i (decide (0≤i)&&decide (i<Int.ofNat a.length)) (.i (decide (k<Int.ofNat (a.getD i.toNat default).Factors.length)) (.i (decide (0≤i)&&decide (i<Int.ofNat a.length)) (.i (decide (0≤k)&&decide (k<Int.ofNat (a.getD i.toNat default).Factors.length)) (.bn (zLG zT ((a.length+(IntKind.i64.wrap (n_+1)).toNat +i.toNat +k.toNat +Int.toNat 0+((a.getD i.toNat default).Factors.getD k.toNat default).Atom.Args.length+((a.getD i.toNat default).Factors.getD k.toNat default).Atom.Items.length+1)+szTs a) a (IntKind.i64.wrap (n_+1)) i k 0 (Atom.mk ((a.getD i.toNat default).Factors.getD k.toNat default).Atom.Kind ((a.getD i.toNat default).Factors.getD k.toNat default).Atom.Row ((a.getD i.toNat default).Factors.getD k.toNat default).Atom.Args ((a.getD i.toNat default).Factors.getD k.toNat default).Atom.Func ((a.getD i.toNat default).Factors.getD k.toNat default).Atom.Items ((a.getD i.toNat default).Factors.getD k.toNat default).Atom.Op ((a.getD i.toNat default).Factors.getD k.toNat default).Atom.Bound)) fun r5=>.bn (zK4 zT ((r5.1.length+r5.2.1.toNat +r5.2.2.1.toNat +r5.2.2.2.1.toNat +Int.toNat 0+r5.2.2.2.2.Args.length+r5.2.2.2.2.Items.length+1)+szTs r5.1) r5.1 r5.2.1 r5.2.2.1 r5.2.2.2.1 0 (Atom.mk r5.2.2.2.2.Kind r5.2.2.2.2.Row r5.2.2.2.2.Args r5.2.2.2.2.Func r5.2.2.2.2.Items r5.2.2.2.2.Op r5.2.2.2.2.Bound)) fun r4=>.h ((r4.1),(r4.2.1),(r4.2.2.1),(IntKind.i64.wrap (r4.2.2.2+1)),()) ()) .d) .d) (.k (a,n_,i))) .d
def zEB (zT:yC→Bool×Int) (x:zx0) (y:Unit):Wy zx0 (Unit) zCc:=ztg zT x.1 x.2.1 x.2.2.1 x.2.2.2.1
def zNm (zT:yC→Bool×Int) (n:Nat) (a:yC) (n_:Int) (i:Int) (k:Int):Bool×zCc:=zI (zEB zT) default n (a,n_,i,k,()) ()
def z0Q (r:zCc):LTree ty:=.done (.exit 2) [.sl 28 r.1,.lit (.int .i64 r.2.1),.lit (.int .i64 r.2.2)] []
def z0Y:LL ty zx0:=za (lSl 28) (za lI64 (za lI64 (za lI64 zp)))
def ztp (zT:yC→Bool×Int) (a:yC) (n_:Int) (i:Int):Wy zyg (Unit) (Int):=.i (decide (i<Int.ofNat a.length)) (.bn (zNm zT ((a.length+(IntKind.i64.wrap (n_+1)).toNat +i.toNat +Int.toNat 0+1)+szTs a) a (IntKind.i64.wrap (n_+1)) i 0) fun r8=>.h ((r8.1),(r8.2.1),(IntKind.i64.wrap (r8.2.2+1)),()) ()) (.k n_)
def zD6 (zT:yC→Bool×Int) (x:zyg) (y:Unit):Wy zyg (Unit) (Int):=ztp zT x.1 x.2.1 x.2.2.1
def zNb (zT:yC→Bool×Int) (n:Nat) (a:yC) (n_:Int) (i:Int):Bool×Int:=zI (zD6 zT) default n (a,n_,i,()) ()
def z1q:LL ty zyg:=za (lSl 28) (za lI64 (za lI64 zp))
def zYP (x:zh6) (y:Atom×Unit):Nat:=((x.1.length+Int.toNat x.2.1+Int.toNat x.2.2.1+Int.toNat x.2.2.2.1+Int.toNat x.2.2.2.2.2.1+y.1.Args.length+y.1.Items.length+1)+szTs x.1)
def z0N (x:zx0) (y:Unit):Nat:=((x.1.length+Int.toNat x.2.1+Int.toNat x.2.2.1+Int.toNat x.2.2.2.1+1)+szTs x.1)
def z0O (x:zyg) (y:Unit):Nat:=((x.1.length+Int.toNat x.2.1+Int.toNat x.2.2.1+1)+szTs x.1)
def ztC (zT:yC→Bool×Int):Cx ty:=mkCx base 71 [(109,(zoI zT))] [] [(3,(kpL [0,3,4])),(7,(kpL [0,3,4,5])),(12,(kpL [0,3,4,5,6,7])),(16,(kpL [0,3,4,5,6,8]))] [(3,1,(kpL [3])),(7,3,(kpL [0,3,4])),(12,5,(kpL [0,3,4,5,6])),(16,7,(kpL [0,3,4,5]))] [(12,spW zZ3 zTF (zCr zT) default zXK zYP),(16,spW zZ3 zTF (zCo zT) default zXF zYP),(7,spW z0Y z5G (zEB zT) default z0Q z0N),(3,spW z1q z5G (zD6 zT) default zPa z0O)] []
theorem zXI (zT:yC→Bool×Int):zL (ztC zT) (lp (body Tryz.f109) 2):=zw (id:=12) (hl:=rfl)
theorem zXS (zT:yC→Bool×Int):zL (ztC zT) (lp (body Tryz.f109) 3):=zw (id:=16) (hl:=rfl)
theorem zZM (zT:yC→Bool×Int):zL (ztC zT) (lp (body Tryz.f109) 1):=zw (id:=7) (hl:=rfl)
theorem zZ4 (zT:yC→Bool×Int):zL (ztC zT) (lp (body Tryz.f109) 0):=zw (id:=3) (hl:=rfl)
def zQb (zT:yC→Bool×Int) (a:yC):Wy0 (Int):=.bn (zNb zT ((a.length+Int.toNat 0+Int.toNat 0+1)+szTs a) a 0 0) fun r10=>.k r10
def zDE (zT:yC→Bool×Int) (a:yC):Bool×Int:=(zQb zT a).fin default
theorem zWs (zT:yC→Bool×Int) (z2S:SdP 109 (zoI zT)):SdP 109 (zoI (zDE zT)):=
 sW (cx':=(ztC zT)) zq zi zl (zj ⟨z2S,trivial⟩) Tryz.call109 Tryz.func109 (c:=body Tryz.f109) (lOK (aC (zZ4 zT) (aC (zZM zT) (aC (zXI zT) (aC (zXS zT) aN)))))
def z4n:Nat→(yC→Bool×Int)
 | 0=>fun _=>(false,default)
 | n+1=>zDE (z4n n)
def zvx (n:Nat):yC→Bool×Int:=z4n n
theorem z1t (n:Nat):zvx (n+1)=zDE (zvx n):=rfl
theorem zZj:∀ n,SdP 109 (zoI (zvx n))
 | 0=>z6 Tryz.call109 (fun _=>rfl)
 | n+1=>by
  have ih:=zZj n;exact zWs _ (ih)
def zRN:yC→Bool×Int:=zvx 1000
def ref05_Size_spec:Ab.Spec ty:=zoI zRN
theorem z0G:SdP 109 ref05_Size_spec:=(zZj 1000)
abbrev zxY:=yC×Int×Int×Unit
abbrev zB4:=Bool⊕(yC×Int)
abbrev zya:=yC×Int×Unit
def zx8 (a:yC) (i:Int) (k:Int):Wy zxY (Unit) zB4:=.i (decide (0≤i)&&decide (i<Int.ofNat a.length)) (.i (decide (k<Int.ofNat (a.getD i.toNat default).Factors.length)) (.i (decide (0≤i)&&decide (i<Int.ofNat a.length)) (.i (decide (0≤k)&&decide (k<Int.ofNat (a.getD i.toNat default).Factors.length)) (.i (decide (((a.getD i.toNat default).Factors.getD k.toNat default).Exp>64)) (.k (.inl false)) (.i (decide (0≤i)&&decide (i<Int.ofNat a.length)) (.i (decide (0≤k)&&decide (k<Int.ofNat (a.getD i.toNat default).Factors.length)) (.i (decide (Int.ofNat ((a.getD i.toNat default).Factors.getD k.toNat default).Atom.Items.length>1024)) (.k (.inl false)) (.h (a,i,(IntKind.i64.wrap (k+1)),()) ())) .d) .d)) .d) .d) (.k (.inr (a,i)))) .d
def zIC (x:zxY) (y:Unit):Wy zxY (Unit) zB4:=zx8 x.1 x.2.1 x.2.2.1
def zSJ (n:Nat) (a:yC) (i:Int) (k:Int):Bool×zB4:=zI (zIC) (.inl default) n (a,i,k,()) ()
def z3n (r:zB4):LTree ty:=.ite (isL r) (.done .ret [.lit (.bool (getL r))] []) (.done (.exit 2) [.sl 28 (getR r).1,.lit (.int .i64 (getR r).2)] [])
def z5X:LL ty zxY:=za (lSl 28) (za lI64 (za lI64 zp))
def zxE (a:yC) (i:Int):Wy zya (Unit) (Bool⊕Unit):=.i (decide (i<Int.ofNat a.length)) (.i (decide (0≤i)&&decide (i<Int.ofNat a.length)) (.i (decide (Int.ofNat (a.getD i.toNat default).Factors.length>64)) (.k (.inl false)) (.bn (zSJ ((a.length+i.toNat +Int.toNat 0+1)+szTs a) a i 0) fun r0=>.i (isL r0) (.k (.inl (getL r0))) (.h ((getR r0).1,(IntKind.i64.wrap ((getR r0).2+1)),()) ()))) .d) (.k (.inr ()))
def zIK (x:zya) (y:Unit):Wy zya (Unit) (Bool⊕Unit):=zxE x.1 x.2.1
def zTc (n:Nat) (a:yC) (i:Int):Bool×(Bool⊕Unit):=zI (zIK) (.inl default) n (a,i,()) ()
def z5o:LL ty zya:=za (lSl 28) (za lI64 zp)
def z3D (x:zxY) (y:Unit):Nat:=((x.1.length+Int.toNat x.2.1+Int.toNat x.2.2.1+1)+szTs x.1)
def z2W (x:zya) (y:Unit):Nat:=((x.1.length+Int.toNat x.2.1+1)+szTs x.1)
def zIE:Cx ty:=mkCx base 65 [(108,ref05_Nesting_spec),(109,ref05_Size_spec)] [] [(4,(kpL [0,3])),(9,(kpL [0,3,4]))] [(4,1,[]),(4,0,(kpL [2])),(9,3,(kpL [0,3])),(9,0,(kpL [2]))] [(9,spW z5X z5G (zIC) (.inl default) z3n z3D),(4,spW z5o z5G (zIK) (.inl default) zN7 z2W)] []
theorem z3K:zL zIE (lp (body Tryz.f54) 1):=zw (id:=9) (hl:=rfl)
theorem z3e:zL zIE (lp (body Tryz.f54) 0):=zw (id:=4) (hl:=rfl)
def zVS (a:yC):Wy0 (Bool):=.i (decide (Int.ofNat a.length>512)) (.k false) (.bn (zHP a) fun r4=>.i (decide (r4>8)) (.k false) (.bn (zRN a) fun r3=>.i (decide (r3>4096)) (.k false) (.bn (zTc ((a.length+Int.toNat 0+1)+szTs a) a 0) fun r2=>.i (isL r2) (.k (getL r2)) (.k true))))
def zAI (a:yC):Bool×Bool:=(zVS a).fin default
def zDH:Ab.Spec ty:=zh zVO fun x=>((zAI x.1).1,zTP (zAI x.1).2)
theorem zL3:SdP 54 zDH:=
 sW (cx':=zIE) zq zi zl (zj ⟨zTU,z0G,trivial⟩) Tryz.call54 Tryz.func54 (c:=body Tryz.f54) (lOK (aC z3e (aC z3K aN)))
abbrev zu4:=yC×Int×Unit×Int×Unit
abbrev zAT:=Bool⊕(yC×Int)
abbrev zvy:=yC×Int×Unit
def zo5 (zX:Atom→Bool×Bool) (a:yC) (i:Int) (k:Int) (t:Term):Wy zu4 (Term×Unit) zAT:=.i (decide (k<Int.ofNat t.Factors.length)) (.i (decide (0≤k)&&decide (k<Int.ofNat t.Factors.length)) (.i (decide ((t.Factors.getD k.toNat default).Exp<1)) (.k (.inl false)) (.i (decide ((t.Factors.getD k.toNat default).Exp>1)) (.i (decide ((t.Factors.getD k.toNat default).Atom.Kind≥3)) (.k (.inl false)) (.bn (zX (Atom.mk (t.Factors.getD k.toNat default).Atom.Kind (t.Factors.getD k.toNat default).Atom.Row (t.Factors.getD k.toNat default).Atom.Args (t.Factors.getD k.toNat default).Atom.Func (t.Factors.getD k.toNat default).Atom.Items (t.Factors.getD k.toNat default).Atom.Op (t.Factors.getD k.toNat default).Atom.Bound)) fun r1=>.i (!r1) (.k (.inl false)) (.i (decide (k>0)) (.i (decide (0≤IntKind.i64.wrap (k - 1))&&decide (IntKind.i64.wrap (k - 1)<Int.ofNat t.Factors.length)) (.bn (zlR (Atom.mk (t.Factors.getD (IntKind.i64.wrap (k - 1)).toNat default).Atom.Kind (t.Factors.getD (IntKind.i64.wrap (k - 1)).toNat default).Atom.Row (t.Factors.getD (IntKind.i64.wrap (k - 1)).toNat default).Atom.Args (t.Factors.getD (IntKind.i64.wrap (k - 1)).toNat default).Atom.Func (t.Factors.getD (IntKind.i64.wrap (k - 1)).toNat default).Atom.Items (t.Factors.getD (IntKind.i64.wrap (k - 1)).toNat default).Atom.Op (t.Factors.getD (IntKind.i64.wrap (k - 1)).toNat default).Atom.Bound) (Atom.mk (t.Factors.getD k.toNat default).Atom.Kind (t.Factors.getD k.toNat default).Atom.Row (t.Factors.getD k.toNat default).Atom.Args (t.Factors.getD k.toNat default).Atom.Func (t.Factors.getD k.toNat default).Atom.Items (t.Factors.getD k.toNat default).Atom.Op (t.Factors.getD k.toNat default).Atom.Bound)) fun r0=>.i (decide (r0≥0)) (.k (.inl false)) (.h (a,i,(),(IntKind.i64.wrap (k+1)),()) (t,()))) .d) (.h (a,i,(),(IntKind.i64.wrap (k+1)),()) (t,()))))) (.bn (zX (Atom.mk (t.Factors.getD k.toNat default).Atom.Kind (t.Factors.getD k.toNat default).Atom.Row (t.Factors.getD k.toNat default).Atom.Args (t.Factors.getD k.toNat default).Atom.Func (t.Factors.getD k.toNat default).Atom.Items (t.Factors.getD k.toNat default).Atom.Op (t.Factors.getD k.toNat default).Atom.Bound)) fun r3=>.i (!r3) (.k (.inl false)) (.i (decide (k>0)) (.i (decide (0≤IntKind.i64.wrap (k - 1))&&decide (IntKind.i64.wrap (k - 1)<Int.ofNat t.Factors.length)) (.bn (zlR (Atom.mk (t.Factors.getD (IntKind.i64.wrap (k - 1)).toNat default).Atom.Kind (t.Factors.getD (IntKind.i64.wrap (k - 1)).toNat default).Atom.Row (t.Factors.getD (IntKind.i64.wrap (k - 1)).toNat default).Atom.Args (t.Factors.getD (IntKind.i64.wrap (k - 1)).toNat default).Atom.Func (t.Factors.getD (IntKind.i64.wrap (k - 1)).toNat default).Atom.Items (t.Factors.getD (IntKind.i64.wrap (k - 1)).toNat default).Atom.Op (t.Factors.getD (IntKind.i64.wrap (k - 1)).toNat default).Atom.Bound) (Atom.mk (t.Factors.getD k.toNat default).Atom.Kind (t.Factors.getD k.toNat default).Atom.Row (t.Factors.getD k.toNat default).Atom.Args (t.Factors.getD k.toNat default).Atom.Func (t.Factors.getD k.toNat default).Atom.Items (t.Factors.getD k.toNat default).Atom.Op (t.Factors.getD k.toNat default).Atom.Bound)) fun r2=>.i (decide (r2≥0)) (.k (.inl false)) (.h (a,i,(),(IntKind.i64.wrap (k+1)),()) (t,()))) .d) (.h (a,i,(),(IntKind.i64.wrap (k+1)),()) (t,())))))) .d) (.k (.inr (a,i)))
def zBj (zX:Atom→Bool×Bool) (x:zu4) (y:Term×Unit):Wy zu4 (Term×Unit) zAT:=zo5 zX x.1 x.2.1 x.2.2.2.1 y.1
def zBl (zX:Atom→Bool×Bool) (n:Nat) (a:yC) (i:Int) (k:Int) (t:Term):Bool×zAT:=zI (zBj zX) (.inl default) n (a,i,(),k,()) (t,())
def zV9 (r:zAT):LTree ty:=.ite (isL r) (.done .ret [.lit (.bool (getL r))] []) (.done (.exit 2) [.sl 28 (getR r).1,.lit (.int .i64 (getR r).2)] [])
def zX2:LL ty zu4:=za (lSl 28) (za lI64 (za (zfl 372 0) (za lI64 zp)))
def zrh (zX:Atom→Bool×Bool) (a:yC) (i:Int):Wy zvy (Unit) (Bool⊕Unit):=.i (decide (i<Int.ofNat a.length)) (.i (decide (0≤i)&&decide (i<Int.ofNat a.length)) (.i (decide ((a.getD i.toNat default).Coeff<1)) (.k (.inl false)) (.i (decide ((a.getD i.toNat default).Coeff>1152921504606846976)) (.k (.inl false)) (.i (decide (i>0)) (.i (decide (0≤IntKind.i64.wrap (i - 1))&&decide (IntKind.i64.wrap (i - 1)<Int.ofNat a.length)) (.bn (zlK (a.getD (IntKind.i64.wrap (i - 1)).toNat default).Factors (a.getD i.toNat default).Factors) fun r9=>.i (decide (r9≥0)) (.k (.inl false)) (.bn (zBl zX ((a.length+i.toNat +Int.toNat 0+(a.getD i.toNat default).Factors.length+1)+szTs a) a i 0 (a.getD i.toNat default)) fun r8=>.i (isL r8) (.k (.inl (getL r8))) (.h ((getR r8).1,(IntKind.i64.wrap ((getR r8).2+1)),()) ()))) .d) (.bn (zBl zX ((a.length+i.toNat +Int.toNat 0+(a.getD i.toNat default).Factors.length+1)+szTs a) a i 0 (a.getD i.toNat default)) fun r10=>.i (isL r10) (.k (.inl (getL r10))) (.h ((getR r10).1,(IntKind.i64.wrap ((getR r10).2+1)),()) ()))))) .d) (.k (.inr ()))
def zCA (zX:Atom→Bool×Bool) (x:zvy) (y:Unit):Wy zvy (Unit) (Bool⊕Unit):=zrh zX x.1 x.2.1
def zLQ (zX:Atom→Bool×Bool) (n:Nat) (a:yC) (i:Int):Bool×(Bool⊕Unit):=zI (zCA zX) (.inl default) n (a,i,()) ()
def zZV:LL ty zvy:=za (lSl 28) (za lI64 zp)
def zWz (x:zu4) (y:Term×Unit):Nat:=((x.1.length+Int.toNat x.2.1+Int.toNat x.2.2.2.1+y.1.Factors.length+1)+szTs x.1)
def zXy (x:zvy) (y:Unit):Nat:=((x.1.length+Int.toNat x.2.1+1)+szTs x.1)
def zCi (zX:Atom→Bool×Bool):Cx ty:=mkCx base 93 [(34,ref05_CompareFactors_spec),(53,ref05_CompareAtom_spec),(54,zDH),(55,(zmY zX))] [] [(4,(kpL [0,3])),(10,(kpL [0,3,4,5]))] [(4,1,[]),(4,0,(kpL [2])),(10,3,(kpL [0,3])),(10,0,(kpL [2]))] [(10,spW zX2 zP0 (zBj zX) (.inl default) zV9 zWz),(4,spW zZV z5G (zCA zX) (.inl default) zN7 zXy)] []
theorem zUN (zX:Atom→Bool×Bool):zL (zCi zX) (lp (body Tryz.f16) 1):=zw (id:=10) (hl:=rfl)
theorem zYn (zX:Atom→Bool×Bool):zL (zCi zX) (lp (body Tryz.f16) 0):=zw (id:=4) (hl:=rfl)
def zM6 (zX:Atom→Bool×Bool) (a:yC):Wy0 (Bool):=.bn (zAI a) fun r15=>.i (!r15) (.k false) (.bn (zLQ zX ((a.length+Int.toNat 0+1)+szTs a) a 0) fun r14=>.i (isL r14) (.k (getL r14)) (.k true))
def zxN (zX:Atom→Bool×Bool) (a:yC):Bool×Bool:=(zM6 zX a).fin default
theorem zTs (zX:Atom→Bool×Bool) (zTq:SdP 55 (zmY zX)):SdP 16 (zhW (zxN zX)):=
 sW (cx':=(zCi zX)) zq zi zl (zj ⟨zyh,zBa,zL3,zTq,trivial⟩) Tryz.call16 Tryz.func16 (c:=body Tryz.f16) (lOK (aC (zYn zX) (aC (zUN zX) aN)))
def z5x:Cx ty:=mkCx base 9 [(89,ref05_Compare_spec)] [] [] [] [] []
def zUq (a:yC) (b:yC):Wy0 (Bool):=.bn (zIz a b) fun r0=>.k (r0==0)
def ztx (a:yC) (b:yC):Bool×Bool:=(zUq a b).fin default
def zEg:Ab.Spec ty:=zh zSg fun x=>((ztx x.1 x.2.1).1,zTP (ztx x.1 x.2.1).2)
theorem zL4:SdP 30 zEg:=
 sW (cx':=z5x) zq zi zl (zj ⟨zTp,trivial⟩) Tryz.call30 Tryz.func30 (c:=body Tryz.f30) (lOK aN)
def z0W:Cx ty:=mkCx base 42 [] [] [] [] [] []
def zQd (a:yC):Wy0 (Bool):=.i (Int.ofNat a.length==1) (.i (decide ((0:Int)≤(0:Int))&&decide (0<Int.ofNat a.length)) (.i ((a.getD (Int.toNat 0) default).Coeff==1) (.i (decide ((0:Int)≤(0:Int))&&decide (0<Int.ofNat a.length)) (.i (Int.ofNat (a.getD (Int.toNat 0) default).Factors.length==1) (.i (decide ((0:Int)≤(0:Int))&&decide (0<Int.ofNat a.length)) (.i (decide ((0:Int)≤(0:Int))&&decide (0<Int.ofNat (a.getD (Int.toNat 0) default).Factors.length)) (.i (decide (((a.getD (Int.toNat 0) default).Factors.getD (Int.toNat 0) default).Atom.Kind≥2)) (.i (decide ((0:Int)≤(0:Int))&&decide (0<Int.ofNat a.length)) (.i (decide ((0:Int)≤(0:Int))&&decide (0<Int.ofNat (a.getD (Int.toNat 0) default).Factors.length)) (.k (((a.getD (Int.toNat 0) default).Factors.getD (Int.toNat 0) default).Exp==1)) .d) .d) (.k false)) .d) .d) (.k false)) .d) (.k false)) .d) (.k false)
def zqA (a:yC):Bool×Bool:=(zQd a).fin default
def zBv:Ab.Spec ty:=zh zVO fun x=>((zqA x.1).1,zTP (zqA x.1).2)
theorem zHg:SdP 99 zBv:=
 sW (cx':=z0W) zq zi zl (zj trivial) Tryz.call99 Tryz.func99 (c:=body Tryz.f99) (lOK aN)
abbrev zuT:=yC×Int×Unit
def zpa (a:yC) (i:Int):Wy zuT (Unit) (Bool⊕Unit):=.i (decide (i<Int.ofNat a.length)) (.i (decide (0≤i)&&decide (i<Int.ofNat a.length)) (.i (Int.ofNat (a.getD i.toNat default).Factors.length==0) (.k (.inl true)) (.h (a,(IntKind.i64.wrap (i+1)),()) ())) .d) (.k (.inr ()))
def zBg (x:zuT) (y:Unit):Wy zuT (Unit) (Bool⊕Unit):=zpa x.1 x.2.1
def zJd (n:Nat) (a:yC) (i:Int):Bool×(Bool⊕Unit):=zI (zBg) (.inl default) n (a,i,()) ()
def zYa:LL ty zuT:=za (lSl 28) (za lI64 zp)
def zIW:Cx ty:=mkCx base 17 [] [] [(2,(kpL [0,3]))] [(2,1,[]),(2,0,(kpL [2]))] [(2,spW zYa z5G (zBg) (.inl default) zN7 fun x y=>(x.1.length+Int.toNat x.2.1+1))] []
theorem zUW:zL zIW (lp (body Tryz.f100) 0):=zw (id:=2) (hl:=rfl)
def zMf (a:yC):Wy0 (Bool):=.bn (zJd (a.length+Int.toNat 0+1) a 0) fun r0=>.i (isL r0) (.k (getL r0)) (.k false)
def zir (a:yC):Bool×Bool:=(zMf a).fin default
def zyr:Ab.Spec ty:=zh zVO fun x=>((zir x.1).1,zTP (zir x.1).2)
theorem zDV:SdP 100 zyr:=
 sW (cx':=zIW) zq zi zl (zj trivial) Tryz.call100 Tryz.func100 (c:=body Tryz.f100) (lOK (aC zUW aN))
def z3v:Cx ty:=mkCx base 36 [] [] [] [] [] []
def zS2 (v:Value):Wy0 (Bool):=.i (v.Kind==0) (.k (v.Text.toList==(ByteArray.mk #[]).toList)) (.i (v.Kind==1) (.i (v.Int==0) (.k (decide (Int.ofNat v.Text.size≤255))) (.k false)) (.i (v.Kind==2) (.i (v.Text.toList==(ByteArray.mk #[]).toList) (.i (v.Int==0) (.k true) (.k (v.Int==1))) (.k false)) (.k false)))
def zyl (v:Value):Bool×Bool:=(zS2 v).fin default
def zK0:Ab.Spec ty:=zh z5n fun x=>((zyl x.1).1,zTP (zyl x.1).2)
theorem zXY:SdP 158 zK0:=
 sW (cx':=z3v) zq zi zl (zj trivial) Tryz.call158 Tryz.func158 (c:=body Tryz.f158) (lOK aN)
abbrev zvI:=Int×yE×Unit×Int×Unit
def zva (fn:Int) (items:yE) (i:Int) (bound:Value):Wy zvI (Value×Unit) (Bool⊕Unit):=.i (decide (i<Int.ofNat items.length)) (.i (decide (0≤i)&&decide (i<Int.ofNat items.length)) (.bn (zyl (items.getD i.toNat default).Value) fun r0=>.i (!r0) (.k (.inl false)) (.i ((items.getD i.toNat default).Value.Kind != bound.Kind) (.k (.inl false)) (.i (fn==0) (.i ((items.getD i.toNat default).Value.Int != 1) (.k (.inl false)) (.h (fn,items,(),(IntKind.i64.wrap (i+1)),()) (bound,()))) (.h (fn,items,(),(IntKind.i64.wrap (i+1)),()) (bound,()))))) .d) (.k (.inr ()))
def zFW (x:zvI) (y:Value×Unit):Wy zvI (Value×Unit) (Bool⊕Unit):=zva x.1 x.2.1 x.2.2.2.1 y.1
def zFv (n:Nat) (fn:Int) (items:yE) (i:Int) (bound:Value):Bool×(Bool⊕Unit):=zI (zFW) (.inl default) n (fn,items,(),i,()) (bound,())
def z3V:LL ty zvI:=za lI64 (za (lSl 100) (za (zfl 276 0) (za lI64 zp)))
def z3p:BL ty (Value×Unit):=bBox (zg1 (fun x=>(⟨x.1,x.2.1,x.2.2.1⟩:Value)) (fun x=>(x.Kind,x.Int,x.Text,())) (fun _=>rfl) (za (lInt .i64) (za (lInt .i64) (za lStr zp)))) false (bNil)
def z1w (x:zvI) (y:Value×Unit):Nat:=(Int.toNat x.1+x.2.1.length+Int.toNat x.2.2.2.1+1)
def zPe:Cx ty:=mkCx base 69 [(158,zK0)] [] [(4,(kpL [0,1,7,9]))] [(4,1,[]),(4,0,(kpL [8]))] [(4,spW z3V z3p (zFW) (.inl default) zN7 z1w)] []
theorem z2p:zL zPe (lp (body Tryz.f111) 0):=zw (id:=4) (hl:=rfl)
def zTf (fn:Int) (items:yE) (op:Int) (bound:Value):Wy0 (Bool):=.i (decide (fn<0)) (.k false) (.i (decide (fn>3)) (.k false) (.i (decide (op<5)) (.k false) (.i (decide (op>10)) (.k false) (.bn (zyl bound) fun r4=>.i (!r4) (.k false) (.i (decide (fn≤1)) (.i (bound.Kind != 0) (.k false) (.bn (zFv (fn.toNat +items.length+Int.toNat 0+1) fn items 0 bound) fun r2=>.i (isL r2) (.k (getL r2)) (.k true))) (.bn (zFv (fn.toNat +items.length+Int.toNat 0+1) fn items 0 bound) fun r3=>.i (isL r3) (.k (getL r3)) (.k true)))))))
def zyn (fn:Int) (items:yE) (op:Int) (bound:Value):Bool×Bool:=(zTf fn items op bound).fin default
def zKZ:Ab.Spec ty:=zh zR8 fun x=>((zyn x.1 x.2.1 x.2.2.1 x.2.2.2.1).1,zTP (zyn x.1 x.2.1 x.2.2.1 x.2.2.2.1).2)
theorem zXE:SdP 111 zKZ:=
 sW (cx':=zPe) zq zi zl (zj ⟨zXY,trivial⟩) Tryz.call111 Tryz.func111 (c:=body Tryz.f111) (lOK (aC z2p aN))
def z3O:Cx ty:=mkCx base 23 [] [] [] [] [] []
def zTb (x_:Atom):Wy0 (Bool):=.i (x_.Func==0) (.i (Int.ofNat x_.Items.length==0) (.i (x_.Op==0) (.k (x_.Bound.Kind==0&&(x_.Bound.Int==0&&(x_.Bound.Text.toList==(ByteArray.mk #[]).toList&&true)))) (.k false)) (.k false)) (.k false)
def zpV (x_:Atom):Bool×Bool:=(zTb x_).fin default
def zLc:Ab.Spec ty:=zh zBO fun x=>((zpV x.1).1,zTP (zpV x.1).2)
theorem zYK:SdP 110 zLc:=
 sW (cx':=z3O) zq zi zl (zj trivial) Tryz.call110 Tryz.func110 (c:=body Tryz.f110) (lOK aN)
abbrev zeu:=Unit×Int×Unit
def zlA (zbu:yC→Bool×Bool) (i:Int) (x_:Atom):Wy zeu (Atom×Unit) (Bool⊕Atom):=.i (decide (i<Int.ofNat x_.Args.length)) (.i (decide (0≤i)&&decide (i<Int.ofNat x_.Args.length)) (.i (Int.ofNat (List.length (x_.Args.getD i.toNat default))==0) (.k (.inl false)) (.i (decide (0≤i)&&decide (i<Int.ofNat x_.Args.length)) (.bn (zbu (x_.Args.getD i.toNat default)) fun r0=>.i (!r0) (.k (.inl false)) (.h ((),(IntKind.i64.wrap (i+1)),()) (x_,()))) .d)) .d) (.k (.inr x_))
def zxk (zbu:yC→Bool×Bool) (x:zeu) (y:Atom×Unit):Wy zeu (Atom×Unit) (Bool⊕Atom):=zlA zbu x.2.1 y.1
def zwW (zbu:yC→Bool×Bool) (n:Nat) (i:Int) (x_:Atom):Bool×(Bool⊕Atom):=zI (zxk zbu) (.inl default) n ((),i,()) (x_,())
def zPO (r:Bool⊕Atom):LTree ty:=.ite (isL r) (.done .ret [.lit (.bool (getL r))] []) (.done (.exit 0) [.ptr 824 0] [.box (base.enc 67 (getR r)) false])
def zQ6:LL ty zeu:=za (zfl 824 0) (za lI64 zp)
def zj7 (zbu:yC→Bool×Bool) (i:Int) (x_:Atom):Wy zeu (Atom×Unit) (Bool⊕Unit):=.i (decide (i<Int.ofNat x_.Items.length)) (.i (decide (0≤i)&&decide (i<Int.ofNat x_.Items.length)) (.i (Int.ofNat (x_.Items.getD i.toNat default).Ann.length==0) (.k (.inl false)) (.i (decide (0≤i)&&decide (i<Int.ofNat x_.Items.length)) (.bn (zbu (x_.Items.getD i.toNat default).Ann) fun r3=>.i (!r3) (.k (.inl false)) (.i (decide (i>0)) (.i (decide (0≤IntKind.i64.wrap (i - 1))&&decide (IntKind.i64.wrap (i - 1)≤i)&&decide (i≤Int.ofNat x_.Items.length)) (.i (decide (0≤i)&&decide (i≤IntKind.i64.wrap (i+1))&&decide (IntKind.i64.wrap (i+1)≤Int.ofNat x_.Items.length)) (.bn (zt3 (List.take (i.toNat - (IntKind.i64.wrap (i - 1)).toNat) (List.drop (IntKind.i64.wrap (i - 1)).toNat x_.Items)) (List.take ((IntKind.i64.wrap (i+1)).toNat - i.toNat) (List.drop i.toNat x_.Items))) fun r2=>.i (decide (r2>0)) (.k (.inl false)) (.h ((),(IntKind.i64.wrap (i+1)),()) (x_,()))) .d) .d) (.h ((),(IntKind.i64.wrap (i+1)),()) (x_,())))) .d)) .d) (.k (.inr ()))
def zv5 (zbu:yC→Bool×Bool) (x:zeu) (y:Atom×Unit):Wy zeu (Atom×Unit) (Bool⊕Unit):=zj7 zbu x.2.1 y.1
def zC2 (zbu:yC→Bool×Bool) (n:Nat) (i:Int) (x_:Atom):Bool×(Bool⊕Unit):=zI (zv5 zbu) (.inl default) n ((),i,()) (x_,())
def zOs (r:Bool⊕Unit):LTree ty:=.ite (isL r) (.done .ret [.lit (.bool (getL r))] []) (.done (.exit 3) [] [])
def zP8 (x:zeu) (y:Atom×Unit):Nat:=(Int.toNat x.2.1+y.1.Args.length+y.1.Items.length+1)
def zwQ (zbu:yC→Bool×Bool):Cx ty:=mkCx base 206 [(16,(zhW zbu)),(30,zEg),(99,zBv),(100,zyr),(106,ref05_CompareItems_spec),(110,zLc),(111,zKZ)] [] [(6,(kpL [1,3])),(21,(kpL [1,4]))] [(6,1,(kpL [1])),(6,0,(kpL [2])),(21,4,[]),(21,0,(kpL [2]))] [(6,spW zQ6 zTF (zxk zbu) (.inl default) zPO zP8),(21,spW zQ6 zTF (zv5 zbu) (.inl default) zOs zP8)] []
theorem zPv (zbu:yC→Bool×Bool):zL (zwQ zbu) (lp (body Tryz.f55) 0):=zw (id:=6) (hl:=rfl)
theorem zNZ (zbu:yC→Bool×Bool):zL (zwQ zbu) (lp (body Tryz.f55) 1):=zw (id:=21) (hl:=rfl)
def zEX (zbu:yC→Bool×Bool) (x_:Atom):Wy0 (Bool):=.i (x_.Kind==0) (.i (decide (x_.Row.Table≥1)) (.i (decide (x_.Row.Seq≥1)) (.i (Int.ofNat x_.Args.length==0) (.bn (zpV (Atom.mk x_.Kind x_.Row x_.Args x_.Func x_.Items x_.Op x_.Bound)) fun r6=>.k r6) (.k false)) (.k false)) (.k false)) (.i (!(x_.Row.Table==0&&(x_.Row.Seq==0&&true))) (.k false) (.bn (zwW zbu (Int.toNat 0+x_.Args.length+x_.Items.length+1) 0 (Atom.mk x_.Kind x_.Row x_.Args x_.Func x_.Items x_.Op x_.Bound)) fun r17=>.i (isL r17) (.k (getL r17)) (.i ((getR r17).Kind==1) (.i (Int.ofNat (getR r17).Args.length==2) (.bn (zpV (Atom.mk (getR r17).Kind (getR r17).Row (getR r17).Args (getR r17).Func (getR r17).Items (getR r17).Op (getR r17).Bound)) fun r8=>.i (r8) (.i (decide ((0:Int)≤(0:Int))&&decide (0<Int.ofNat (getR r17).Args.length)) (.i (decide ((0:Int)≤(1:Int))&&decide (1<Int.ofNat (getR r17).Args.length)) (.bn (ztx ((getR r17).Args.getD (Int.toNat 0) default) ((getR r17).Args.getD (Int.toNat 1) default)) fun r7=>.k (!r7)) .d) .d) (.k false)) (.k false)) (.i ((getR r17).Kind==2) (.i (Int.ofNat (getR r17).Args.length==1) (.bn (zpV (Atom.mk (getR r17).Kind (getR r17).Row (getR r17).Args (getR r17).Func (getR r17).Items (getR r17).Op (getR r17).Bound)) fun r12=>.i (r12) (.i (decide ((0:Int)≤(0:Int))&&decide (0<Int.ofNat (getR r17).Args.length)) (.i (Int.ofNat (List.length ((getR r17).Args.getD (Int.toNat 0) default))==1) (.i (decide ((0:Int)≤(0:Int))&&decide (0<Int.ofNat (getR r17).Args.length)) (.bn (zir ((getR r17).Args.getD (Int.toNat 0) default)) fun r10=>.i (!r10) (.i (decide ((0:Int)≤(0:Int))&&decide (0<Int.ofNat (getR r17).Args.length)) (.bn (zqA ((getR r17).Args.getD (Int.toNat 0) default)) fun r9=>.k (!r9)) .d) (.k false)) .d) (.i (decide ((0:Int)≤(0:Int))&&decide (0<Int.ofNat (getR r17).Args.length)) (.bn (zqA ((getR r17).Args.getD (Int.toNat 0) default)) fun r11=>.k (!r11)) .d)) .d) (.k false)) (.k false)) (.i ((getR r17).Kind==3) (.i (Int.ofNat (getR r17).Args.length==1) (.bn (zpV (Atom.mk (getR r17).Kind (getR r17).Row (getR r17).Args (getR r17).Func (getR r17).Items (getR r17).Op (getR r17).Bound)) fun r14=>.i (r14) (.i (decide ((0:Int)≤(0:Int))&&decide (0<Int.ofNat (getR r17).Args.length)) (.bn (zir ((getR r17).Args.getD (Int.toNat 0) default)) fun r13=>.k (!r13)) .d) (.k false)) (.k false)) (.i ((getR r17).Kind==4) (.i (Int.ofNat (getR r17).Args.length != 0) (.k false) (.i (Int.ofNat (getR r17).Items.length==0) (.k false) (.i (decide (Int.ofNat (getR r17).Items.length>1024)) (.k false) (.bn (zyn (getR r17).Func (getR r17).Items (getR r17).Op (getR r17).Bound) fun r16=>.i (!r16) (.k false) (.bn (zC2 zbu (Int.toNat 0+(getR r17).Args.length+(getR r17).Items.length+1) 0 (Atom.mk (getR r17).Kind (getR r17).Row (getR r17).Args (getR r17).Func (getR r17).Items (getR r17).Op (getR r17).Bound)) fun r15=>.i (isL r15) (.k (getL r15)) (.k true)))))) (.k false)))))))
def zoB (zbu:yC→Bool×Bool) (x_:Atom):Bool×Bool:=(zEX zbu x_).fin default
theorem zMG (zbu:yC→Bool×Bool) (z1R:SdP 16 (zhW zbu)):SdP 55 (zmY (zoB zbu)):=
 sW (cx':=(zwQ zbu)) zq zi zl (zj ⟨z1R,zL4,zHg,zDV,zLw,zYK,zXE,trivial⟩) Tryz.call55 Tryz.func55 (c:=body Tryz.f55) (lOK (aC (zPv zbu) (aC (zNZ zbu) aN)))
def zKg:Nat→(yC→Bool×Bool)×(Atom→Bool×Bool)
 | 0=>(fun _=>(false,default),fun _=>(false,default))
 | n+1=>(zxN ((zKg n).2),zoB ((zKg n).1))
def zx9 (n:Nat):yC→Bool×Bool:=(zKg n).1
def zuZ (n:Nat):Atom→Bool×Bool:=(zKg n).2
theorem zZJ (n:Nat):zx9 (n+1)=zxN (zuZ n):=rfl
theorem zSn (n:Nat):zuZ (n+1)=zoB (zx9 n):=rfl
theorem zVY:∀ n,SdP 16 (zhW (zx9 n))∧SdP 55 (zmY (zuZ n))
 | 0=>⟨z6 Tryz.call16 (fun _=>rfl),z6 Tryz.call55 (fun _=>rfl)⟩
 | n+1=>by
  have ih:=zVY n;exact ⟨zTs _ (ih.2),zMG _ (ih.1)⟩
def zfM:yC→Bool×Bool:=zx9 1000
def ref05_Valid_spec:Ab.Spec ty:=zhW zfM
theorem zXX:SdP 16 ref05_Valid_spec:=(zVY 1000).1
def z7E:Cx ty:=mkCx base 3 [] [] [] [] [] []
def z8T:Wy0 (yC):=.k [TermOf.mk 1 []]
def zGB:Bool×yC:=(z8T).fin default
def zQT:Ab.Spec ty:=zh zOZ fun x=>((zGB ).1,zOj (zGB ).2)
theorem z1V:SdP 77 zQT:=
 sW (cx':=z7E) zq zi zl (zj trivial) Tryz.call77 Tryz.func77 (c:=body Tryz.f77) (lOK aN) (sg:=⟨[.own 28],[]⟩)
def z6S:Cx ty:=mkCx base 8 [(54,zDH)] [] [] [] [] []
def zZt (a:yC):Wy0 (yC×Int):=.bn (zAI a) fun r0=>.i (!r0) (.k ([],6)) (.k (a,0))
def znJ (a:yC):Bool×(yC×Int):=(zZt a).fin default
def z5U (r:yC×Int):ARes ty:=⟨[.pure (.sl 28 r.1),.pure (.lit (.int .i64 r.2))],[]⟩
def zQM:Ab.Spec ty:=zh zVO fun x=>((znJ x.1).1,z5U (znJ x.1).2)
theorem z02:SdP 101 zQM:=
 sW (cx':=z6S) zq zi zl (zj ⟨zL3,trivial⟩) Tryz.call101 Tryz.func101 (c:=body Tryz.f101) (lOK aN) (sg:=⟨[.pure,.pure],[]⟩)
def z3b:Cx ty:=mkCx base 30 [(16,ref05_Valid_spec),(77,zQT),(99,zBv),(100,zyr),(101,zQM),(102,zEz)] [] [] [] [] []
def zSY (a:yC):Wy0 (yC×Int):=.bn (zfM a) fun r4=>.i (!r4) (.k ([],1)) (.i (Int.ofNat a.length==0) (.k (a,0)) (.bn (zqA a) fun r3=>.i (r3) (.k (a,0)) (.i (Int.ofNat a.length==1) (.bn (zir a) fun r1=>.i (r1) (.k (zGB.2,0)) (.bn (znJ (zm1 (Atom.mk 2 (RowID.mk 0 0) [a] 0 [] 0 (Value.mk 0 0 (ByteArray.mk #[])))).2) fun r0=>.k (r0.1,r0.2))) (.bn (znJ (zm1 (Atom.mk 2 (RowID.mk 0 0) [a] 0 [] 0 (Value.mk 0 0 (ByteArray.mk #[])))).2) fun r2=>.k (r2.1,r2.2)))))
def zBW (a:yC):Bool×(yC×Int):=(zSY a).fin default
def zLV:Ab.Spec ty:=zh zVO fun x=>((zBW x.1).1,z5U (zBW x.1).2)
theorem zX6:SdP 47 zLV:=
 sW (cx':=z3b) zq zi zl (zj ⟨zXX,z1V,zHg,zDV,z02,zLX,trivial⟩) Tryz.call47 Tryz.func47 (c:=body Tryz.f47) (lOK aN) (sg:=⟨[.pure,.pure],[]⟩)
def z5q:Cx ty:=mkCx base 9 [] [] [] [] [] []
def zUy (a:Int) (b:Int):Wy0 (Int):=.k (if 1152921504606846976<IntKind.i64.wrap (a+b) then 1152921504606846976 else IntKind.i64.wrap (a+b))
def zxq (a:Int) (b:Int):Bool×Int:=(zUy a b).fin default
def zNt:Ab.Spec ty:=zh zTI fun x=>((zxq x.1 x.2.1).1,zO3 (zxq x.1 x.2.1).2)
theorem zZ0:SdP 112 zNt:=
 sW (cx':=z5q) zq zi zl (zj trivial) Tryz.call112 Tryz.func112 (c:=body Tryz.f112) (lOK aN)
abbrev zAr:=yC×Unit×Int×Unit
abbrev zDR:=yC×Int×Term
def zzP (a:yC) (i:Int) (t:Term):Wy zAr (Term×Unit) zDR:=.i (decide (i<Int.ofNat a.length)) (.i (decide (0≤i)&&decide (i<Int.ofNat a.length)) (.bn (zlK (a.getD i.toNat default).Factors t.Factors) fun r0=>.i (decide (r0<0)) (.h (a,(),(IntKind.i64.wrap (i+1)),()) (t,())) (.k (a,i,t))) .d) (.k (a,i,t))
def zLB (x:zAr) (y:Term×Unit):Wy zAr (Term×Unit) zDR:=zzP x.1 x.2.2.1 y.1
def zVs (n:Nat) (a:yC) (i:Int) (t:Term):Bool×zDR:=zI (zLB) default n (a,(),i,()) (t,())
def z5H (r:zDR):LTree ty:=.done (.exit 0) [.sl 28 r.1,.ptr 288 0,.lit (.int .i64 r.2.1)] [.box (base.enc 28 r.2.2) false]
def z65:LL ty zAr:=za (lSl 28) (za (zfl 288 0) (za lI64 zp))
def z5Q (x:zAr) (y:Term×Unit):Nat:=(x.1.length+Int.toNat x.2.2.1+y.1.Factors.length+1)
def zWU:Cx ty:=mkCx base 72 [(34,ref05_CompareFactors_spec),(112,zNt)] [] [(2,(kpL [0,3,5]))] [(2,1,(kpL [0,3,5]))] [(2,spW z65 zP0 (zLB) default z5H z5Q)] []
theorem z5B:zL zWU (lp (body Tryz.f58) 0):=zw (id:=2) (hl:=rfl)
def zZp (a:yC) (t:Term):Wy0 (yC):=.bn (zVs (a.length+Int.toNat 0+t.Factors.length+1) a 0 t) fun r3=>.i (decide ((0:Int)≤(0:Int))&&decide (0≤r3.2.1)&&decide (r3.2.1≤Int.ofNat r3.1.length)) (.i (decide ((0+(List.take (r3.2.1.toNat - Int.toNat 0) (List.drop (Int.toNat 0) r3.1)).length)*32≤reach)) (.i (decide (r3.2.1<Int.ofNat r3.1.length)) (.i (decide (0≤r3.2.1)&&decide (r3.2.1<Int.ofNat r3.1.length)) (.bn (zlK (r3.1.getD r3.2.1.toNat default).Factors r3.2.2.Factors) fun r2=>.i (r2==0) (.i (decide (0≤r3.2.1)&&decide (r3.2.1<Int.ofNat r3.1.length)) (.i (decide ((([]++List.take (r3.2.1.toNat - Int.toNat 0) (List.drop (Int.toNat 0) r3.1)).length+[TermOf.mk (zxq (r3.1.getD r3.2.1.toNat default).Coeff r3.2.2.Coeff).2 r3.2.2.Factors].length)*32≤reach)) (.i (decide (0≤IntKind.i64.wrap (r3.2.1+1))&&decide (IntKind.i64.wrap (r3.2.1+1)≤Int.ofNat r3.1.length)&&decide (Int.ofNat r3.1.length≤Int.ofNat r3.1.length)) (.i (decide ((([]++List.take (r3.2.1.toNat - Int.toNat 0) (List.drop (Int.toNat 0) r3.1)++[TermOf.mk (zxq (r3.1.getD r3.2.1.toNat default).Coeff r3.2.2.Coeff).2 r3.2.2.Factors]).length+(List.take ((Int.ofNat r3.1.length).toNat - (IntKind.i64.wrap (r3.2.1+1)).toNat) (List.drop (IntKind.i64.wrap (r3.2.1+1)).toNat r3.1)).length)*32≤reach)) (.k ([]++List.take (r3.2.1.toNat - Int.toNat 0) (List.drop (Int.toNat 0) r3.1)++[TermOf.mk (zxq (r3.1.getD r3.2.1.toNat default).Coeff r3.2.2.Coeff).2 r3.2.2.Factors]++List.take ((Int.ofNat r3.1.length).toNat - (IntKind.i64.wrap (r3.2.1+1)).toNat) (List.drop (IntKind.i64.wrap (r3.2.1+1)).toNat r3.1))) .d) .d) .d) .d) (.i (decide ((([]++List.take (r3.2.1.toNat - Int.toNat 0) (List.drop (Int.toNat 0) r3.1)).length+[r3.2.2].length)*32≤reach)) (.i (decide (0≤r3.2.1)&&decide (r3.2.1≤Int.ofNat r3.1.length)&&decide (Int.ofNat r3.1.length≤Int.ofNat r3.1.length)) (.i (decide ((([]++List.take (r3.2.1.toNat - Int.toNat 0) (List.drop (Int.toNat 0) r3.1)++[r3.2.2]).length+(List.take ((Int.ofNat r3.1.length).toNat - r3.2.1.toNat) (List.drop r3.2.1.toNat r3.1)).length)*32≤reach)) (.k ([]++List.take (r3.2.1.toNat - Int.toNat 0) (List.drop (Int.toNat 0) r3.1)++[r3.2.2]++List.take ((Int.ofNat r3.1.length).toNat - r3.2.1.toNat) (List.drop r3.2.1.toNat r3.1))) .d) .d) .d)) .d) (.i (decide ((([]++List.take (r3.2.1.toNat - Int.toNat 0) (List.drop (Int.toNat 0) r3.1)).length+[r3.2.2].length)*32≤reach)) (.i (decide (0≤r3.2.1)&&decide (r3.2.1≤Int.ofNat r3.1.length)&&decide (Int.ofNat r3.1.length≤Int.ofNat r3.1.length)) (.i (decide ((([]++List.take (r3.2.1.toNat - Int.toNat 0) (List.drop (Int.toNat 0) r3.1)++[r3.2.2]).length+(List.take ((Int.ofNat r3.1.length).toNat - r3.2.1.toNat) (List.drop r3.2.1.toNat r3.1)).length)*32≤reach)) (.k ([]++List.take (r3.2.1.toNat - Int.toNat 0) (List.drop (Int.toNat 0) r3.1)++[r3.2.2]++List.take ((Int.ofNat r3.1.length).toNat - r3.2.1.toNat) (List.drop r3.2.1.toNat r3.1))) .d) .d) .d)) .d) .d
def zC9 (a:yC) (t:Term):Bool×yC:=(zZp a t).fin default
def z8E:AL base (yC×Term×Unit):=zd (ze (vSl 28)) (zd (ze (vAgg 28)) aNil)
def zFO:Ab.Spec ty:=zh z8E fun x=>((zC9 x.1 x.2.1).1,zOj (zC9 x.1 x.2.1).2)
theorem zNz:SdP 58 zFO:=
 sW (cx':=zWU) zq zi zl (zj ⟨zyh,zZ0,trivial⟩) Tryz.call58 Tryz.func58 (c:=body Tryz.f58) (lOK (aC z5B aN)) (sg:=⟨[.own 28],[]⟩)
abbrev ztR:=yD×Unit×Int×Unit
abbrev zyZ:=yD×Int×Factor
def ztK (l:yD) (i:Int) (f:Factor):Wy ztR (Factor×Unit) zyZ:=.i (decide (i<Int.ofNat l.length)) (.i (decide (0≤i)&&decide (i<Int.ofNat l.length)) (.bn (zlR (Atom.mk (l.getD i.toNat default).Atom.Kind (l.getD i.toNat default).Atom.Row (l.getD i.toNat default).Atom.Args (l.getD i.toNat default).Atom.Func (l.getD i.toNat default).Atom.Items (l.getD i.toNat default).Atom.Op (l.getD i.toNat default).Atom.Bound) (Atom.mk f.Atom.Kind f.Atom.Row f.Atom.Args f.Atom.Func f.Atom.Items f.Atom.Op f.Atom.Bound)) fun r0=>.i (decide (r0<0)) (.h (l,(),(IntKind.i64.wrap (i+1)),()) (f,())) (.k (l,i,f))) .d) (.k (l,i,f))
def zEo (x:ztR) (y:Factor×Unit):Wy ztR (Factor×Unit) zyZ:=ztK x.1 x.2.2.1 y.1
def zNN (n:Nat) (l:yD) (i:Int) (f:Factor):Bool×zyZ:=zI (zEo) default n (l,(),i,()) (f,())
def zZx (r:zyZ):LTree ty:=.done (.exit 0) [.sl 69 r.1,.ptr 296 0,.lit (.int .i64 r.2.1)] [.box (base.enc 69 r.2.2) false]
def z1i:LL ty ztR:=za (lSl 69) (za (zfl 296 0) (za lI64 zp))
def z0y (x:ztR) (y:Factor×Unit):Nat:=(x.1.length+Int.toNat x.2.2.1+y.1.Atom.Args.length+y.1.Atom.Items.length+1)
def zNw:Cx ty:=mkCx base 74 [(53,ref05_CompareAtom_spec)] [] [(2,(kpL [0,3,5]))] [(2,1,(kpL [0,3,5]))] [(2,spW z1i zQX (zEo) default zZx z0y)] []
theorem z0a:zL zNw (lp (body Tryz.f57) 0):=zw (id:=2) (hl:=rfl)
def zPM (l:yD) (f:Factor):Wy0 (yD):=.bn (zNN (l.length+Int.toNat 0+f.Atom.Args.length+f.Atom.Items.length+1) l 0 (FactorOf.mk (Atom.mk f.Atom.Kind f.Atom.Row f.Atom.Args f.Atom.Func f.Atom.Items f.Atom.Op f.Atom.Bound) f.Exp)) fun r3=>.i (decide ((0:Int)≤(0:Int))&&decide (0≤r3.2.1)&&decide (r3.2.1≤Int.ofNat r3.1.length)) (.i (decide ((0+(List.take (r3.2.1.toNat - Int.toNat 0) (List.drop (Int.toNat 0) r3.1)).length)*128≤reach)) (.i (decide (r3.2.1<Int.ofNat r3.1.length)) (.i (decide (0≤r3.2.1)&&decide (r3.2.1<Int.ofNat r3.1.length)) (.bn (zlR (Atom.mk (r3.1.getD r3.2.1.toNat default).Atom.Kind (r3.1.getD r3.2.1.toNat default).Atom.Row (r3.1.getD r3.2.1.toNat default).Atom.Args (r3.1.getD r3.2.1.toNat default).Atom.Func (r3.1.getD r3.2.1.toNat default).Atom.Items (r3.1.getD r3.2.1.toNat default).Atom.Op (r3.1.getD r3.2.1.toNat default).Atom.Bound) (Atom.mk r3.2.2.Atom.Kind r3.2.2.Atom.Row r3.2.2.Atom.Args r3.2.2.Atom.Func r3.2.2.Atom.Items r3.2.2.Atom.Op r3.2.2.Atom.Bound)) fun r2=>.i (r2==0) (.i (decide (r3.2.2.Atom.Kind<3)) (.i (decide (0≤r3.2.1)&&decide (r3.2.1<Int.ofNat r3.1.length)) (.i (decide ((([]++List.take (r3.2.1.toNat - Int.toNat 0) (List.drop (Int.toNat 0) r3.1)).length+[FactorOf.mk (Atom.mk r3.2.2.Atom.Kind r3.2.2.Atom.Row r3.2.2.Atom.Args r3.2.2.Atom.Func r3.2.2.Atom.Items r3.2.2.Atom.Op r3.2.2.Atom.Bound) (IntKind.i64.wrap ((r3.1.getD r3.2.1.toNat default).Exp+r3.2.2.Exp))].length)*128≤reach)) (.i (decide (0≤IntKind.i64.wrap (r3.2.1+1))&&decide (IntKind.i64.wrap (r3.2.1+1)≤Int.ofNat r3.1.length)&&decide (Int.ofNat r3.1.length≤Int.ofNat r3.1.length)) (.i (decide ((([]++List.take (r3.2.1.toNat - Int.toNat 0) (List.drop (Int.toNat 0) r3.1)++[FactorOf.mk (Atom.mk r3.2.2.Atom.Kind r3.2.2.Atom.Row r3.2.2.Atom.Args r3.2.2.Atom.Func r3.2.2.Atom.Items r3.2.2.Atom.Op r3.2.2.Atom.Bound) (IntKind.i64.wrap ((r3.1.getD r3.2.1.toNat default).Exp+r3.2.2.Exp))]).length+(List.take ((Int.ofNat r3.1.length).toNat - (IntKind.i64.wrap (r3.2.1+1)).toNat) (List.drop (IntKind.i64.wrap (r3.2.1+1)).toNat r3.1)).length)*128≤reach)) (.k ([]++List.take (r3.2.1.toNat - Int.toNat 0) (List.drop (Int.toNat 0) r3.1)++[FactorOf.mk (Atom.mk r3.2.2.Atom.Kind r3.2.2.Atom.Row r3.2.2.Atom.Args r3.2.2.Atom.Func r3.2.2.Atom.Items r3.2.2.Atom.Op r3.2.2.Atom.Bound) (IntKind.i64.wrap ((r3.1.getD r3.2.1.toNat default).Exp+r3.2.2.Exp))]++List.take ((Int.ofNat r3.1.length).toNat - (IntKind.i64.wrap (r3.2.1+1)).toNat) (List.drop (IntKind.i64.wrap (r3.2.1+1)).toNat r3.1))) .d) .d) .d) .d) (.i (decide ((([]++List.take (r3.2.1.toNat - Int.toNat 0) (List.drop (Int.toNat 0) r3.1)).length+[FactorOf.mk (Atom.mk r3.2.2.Atom.Kind r3.2.2.Atom.Row r3.2.2.Atom.Args r3.2.2.Atom.Func r3.2.2.Atom.Items r3.2.2.Atom.Op r3.2.2.Atom.Bound) r3.2.2.Exp].length)*128≤reach)) (.i (decide (0≤IntKind.i64.wrap (r3.2.1+1))&&decide (IntKind.i64.wrap (r3.2.1+1)≤Int.ofNat r3.1.length)&&decide (Int.ofNat r3.1.length≤Int.ofNat r3.1.length)) (.i (decide ((([]++List.take (r3.2.1.toNat - Int.toNat 0) (List.drop (Int.toNat 0) r3.1)++[FactorOf.mk (Atom.mk r3.2.2.Atom.Kind r3.2.2.Atom.Row r3.2.2.Atom.Args r3.2.2.Atom.Func r3.2.2.Atom.Items r3.2.2.Atom.Op r3.2.2.Atom.Bound) r3.2.2.Exp]).length+(List.take ((Int.ofNat r3.1.length).toNat - (IntKind.i64.wrap (r3.2.1+1)).toNat) (List.drop (IntKind.i64.wrap (r3.2.1+1)).toNat r3.1)).length)*128≤reach)) (.k ([]++List.take (r3.2.1.toNat - Int.toNat 0) (List.drop (Int.toNat 0) r3.1)++[FactorOf.mk (Atom.mk r3.2.2.Atom.Kind r3.2.2.Atom.Row r3.2.2.Atom.Args r3.2.2.Atom.Func r3.2.2.Atom.Items r3.2.2.Atom.Op r3.2.2.Atom.Bound) r3.2.2.Exp]++List.take ((Int.ofNat r3.1.length).toNat - (IntKind.i64.wrap (r3.2.1+1)).toNat) (List.drop (IntKind.i64.wrap (r3.2.1+1)).toNat r3.1))) .d) .d) .d)) (.i (decide ((([]++List.take (r3.2.1.toNat - Int.toNat 0) (List.drop (Int.toNat 0) r3.1)).length+[FactorOf.mk (Atom.mk r3.2.2.Atom.Kind r3.2.2.Atom.Row r3.2.2.Atom.Args r3.2.2.Atom.Func r3.2.2.Atom.Items r3.2.2.Atom.Op r3.2.2.Atom.Bound) r3.2.2.Exp].length)*128≤reach)) (.i (decide (0≤r3.2.1)&&decide (r3.2.1≤Int.ofNat r3.1.length)&&decide (Int.ofNat r3.1.length≤Int.ofNat r3.1.length)) (.i (decide ((([]++List.take (r3.2.1.toNat - Int.toNat 0) (List.drop (Int.toNat 0) r3.1)++[FactorOf.mk (Atom.mk r3.2.2.Atom.Kind r3.2.2.Atom.Row r3.2.2.Atom.Args r3.2.2.Atom.Func r3.2.2.Atom.Items r3.2.2.Atom.Op r3.2.2.Atom.Bound) r3.2.2.Exp]).length+(List.take ((Int.ofNat r3.1.length).toNat - r3.2.1.toNat) (List.drop r3.2.1.toNat r3.1)).length)*128≤reach)) (.k ([]++List.take (r3.2.1.toNat - Int.toNat 0) (List.drop (Int.toNat 0) r3.1)++[FactorOf.mk (Atom.mk r3.2.2.Atom.Kind r3.2.2.Atom.Row r3.2.2.Atom.Args r3.2.2.Atom.Func r3.2.2.Atom.Items r3.2.2.Atom.Op r3.2.2.Atom.Bound) r3.2.2.Exp]++List.take ((Int.ofNat r3.1.length).toNat - r3.2.1.toNat) (List.drop r3.2.1.toNat r3.1))) .d) .d) .d)) .d) (.i (decide ((([]++List.take (r3.2.1.toNat - Int.toNat 0) (List.drop (Int.toNat 0) r3.1)).length+[FactorOf.mk (Atom.mk r3.2.2.Atom.Kind r3.2.2.Atom.Row r3.2.2.Atom.Args r3.2.2.Atom.Func r3.2.2.Atom.Items r3.2.2.Atom.Op r3.2.2.Atom.Bound) r3.2.2.Exp].length)*128≤reach)) (.i (decide (0≤r3.2.1)&&decide (r3.2.1≤Int.ofNat r3.1.length)&&decide (Int.ofNat r3.1.length≤Int.ofNat r3.1.length)) (.i (decide ((([]++List.take (r3.2.1.toNat - Int.toNat 0) (List.drop (Int.toNat 0) r3.1)++[FactorOf.mk (Atom.mk r3.2.2.Atom.Kind r3.2.2.Atom.Row r3.2.2.Atom.Args r3.2.2.Atom.Func r3.2.2.Atom.Items r3.2.2.Atom.Op r3.2.2.Atom.Bound) r3.2.2.Exp]).length+(List.take ((Int.ofNat r3.1.length).toNat - r3.2.1.toNat) (List.drop r3.2.1.toNat r3.1)).length)*128≤reach)) (.k ([]++List.take (r3.2.1.toNat - Int.toNat 0) (List.drop (Int.toNat 0) r3.1)++[FactorOf.mk (Atom.mk r3.2.2.Atom.Kind r3.2.2.Atom.Row r3.2.2.Atom.Args r3.2.2.Atom.Func r3.2.2.Atom.Items r3.2.2.Atom.Op r3.2.2.Atom.Bound) r3.2.2.Exp]++List.take ((Int.ofNat r3.1.length).toNat - r3.2.1.toNat) (List.drop r3.2.1.toNat r3.1))) .d) .d) .d)) .d) .d
def zAk (l:yD) (f:Factor):Bool×yD:=(zPM l f).fin default
def z0u (r:yD):ARes ty:=⟨[.pure (.sl 69 r)],[]⟩
def z33:AL base (yD×Factor×Unit):=zd (ze (vSl 69)) (zd (ze (vAgg 69)) aNil)
def zI3:Ab.Spec ty:=zh z33 fun x=>((zAk x.1 x.2.1).1,z0u (zAk x.1 x.2.1).2)
theorem zU5:SdP 57 zI3:=
 sW (cx':=zNw) zq zi zl (zj ⟨zBa,trivial⟩) Tryz.call57 Tryz.func57 (c:=body Tryz.f57) (lOK (aC z0a aN))
def z27:Cx ty:=mkCx base 12 [] [] [] [] [] []
def zTe (a:Int) (b:Int):Wy0 (Int):=.i (!decide (b=0)) (.i (decide (a>IntKind.i64.wrap (Int.tdiv 1152921504606846976 b))) (.k 1152921504606846976) (.k (IntKind.i64.wrap (a*b)))) .d
def zBZ (a:Int) (b:Int):Bool×Int:=(zTe a b).fin default
def zKE:Ab.Spec ty:=zh zTI fun x=>((zBZ x.1 x.2.1).1,zO3 (zBZ x.1 x.2.1).2)
theorem zYt:SdP 56 zKE:=
 sW (cx':=z27) zq zi zl (zj trivial) Tryz.call56 Tryz.func56 (c:=body Tryz.f56) (lOK aN)
abbrev zqM:=yC×yC×Unit×Int×Int×Unit×Int×Unit
abbrev zrD:=yC×(Int×yD×Unit)×Unit
abbrev zxa:=yC×yC×Int×Int×yC×Int×yD
abbrev zqE:=yC×yC×Unit×Int×Int×Unit
abbrev zeX:=yC×Unit
abbrev zxi:=yC×yC×Int×yC
abbrev zqD:=yC×yC×Unit×Int×Unit
def zoR (a:yC) (b:yC) (i:Int) (k:Int) (j:Int) (out_:yC) (t_0:Int) (t_1:yD):Wy zqM zrD zxa:=.i (decide (0≤k)&&decide (k<Int.ofNat b.length)) (.i (decide (j<Int.ofNat (b.getD k.toNat default).Factors.length)) (.i (decide (0≤k)&&decide (k<Int.ofNat b.length)) (.i (decide (0≤j)&&decide (j<Int.ofNat (b.getD k.toNat default).Factors.length)) (.bn (zAk t_1 (FactorOf.mk (Atom.mk ((b.getD k.toNat default).Factors.getD j.toNat default).Atom.Kind ((b.getD k.toNat default).Factors.getD j.toNat default).Atom.Row ((b.getD k.toNat default).Factors.getD j.toNat default).Atom.Args ((b.getD k.toNat default).Factors.getD j.toNat default).Atom.Func ((b.getD k.toNat default).Factors.getD j.toNat default).Atom.Items ((b.getD k.toNat default).Factors.getD j.toNat default).Atom.Op ((b.getD k.toNat default).Factors.getD j.toNat default).Atom.Bound) ((b.getD k.toNat default).Factors.getD j.toNat default).Exp)) fun r0=>.h (a,b,(),i,k,(),(IntKind.i64.wrap (j+1)),()) (out_,(t_0,(r0),()),())) .d) .d) (.k (a,b,i,k,out_,t_0,t_1))) .d
def zBr (x:zqM) (y:zrD):Wy zqM zrD zxa:=zoR x.1 x.2.1 x.2.2.2.1 x.2.2.2.2.1 x.2.2.2.2.2.2.1 y.1 y.2.1.1 y.2.1.2.1
def zJc (n:Nat) (a:yC) (b:yC) (i:Int) (k:Int) (j:Int) (out_:yC) (t_0:Int) (t_1:yD):Bool×zxa:=zI (zBr) default n (a,b,(),i,k,(),j,()) (out_,(t_0,t_1,()),())
def zUD (r:zxa):LTree ty:=.done (.exit 4) [.sl 28 r.1,.sl 28 r.2.1,.own 264,.lit (.int .i64 r.2.2.1),.lit (.int .i64 r.2.2.2.1),.ptr 265 0] [.arr 28 r.2.2.2.2.1 false,.box ([.lit (.int .i64 r.2.2.2.2.2.1),.sl 69 r.2.2.2.2.2.2]) false]
def zXP:LL ty zqM:=za (lSl 28) (za (lSl 28) (za (lOwn 264) (za lI64 (za lI64 (za (zfl 265 0) (za lI64 zp))))))
def zXz:BL ty zrD:=bArr 28 false (bBox (za (lInt .i64) (za (lSl 69) zp)) false (bNil))
def zrb (a:yC) (b:yC) (i:Int) (k:Int) (out_:yC):Wy zqE zeX zxi:=.i (decide (k<Int.ofNat b.length)) (.i (decide (0≤i)&&decide (i<Int.ofNat a.length)) (.i (decide (0≤k)&&decide (k<Int.ofNat b.length)) (.bn (zBZ (a.getD i.toNat default).Coeff (b.getD k.toNat default).Coeff) fun r4=>.i (decide (0≤i)&&decide (i<Int.ofNat a.length)) (.bn (zJc ((a.length+b.length+i.toNat +k.toNat +Int.toNat 0+out_.length+r4.toNat +(a.getD i.toNat default).Factors.length+1)+szTs a+szTs b+szTs out_+szFs (a.getD i.toNat default).Factors) a b i k 0 out_ r4 (a.getD i.toNat default).Factors) fun r3=>.bn (zC9 r3.2.2.2.2.1 (TermOf.mk r3.2.2.2.2.2.1 r3.2.2.2.2.2.2)) fun r2=>.h ((r3.1),(r3.2.1),(),(r3.2.2.1),(IntKind.i64.wrap (r3.2.2.2.1+1)),()) ((r2),())) .d) .d) .d) (.k (a,b,i,out_))
def zCG (x:zqE) (y:zeX):Wy zqE zeX zxi:=zrb x.1 x.2.1 x.2.2.2.1 x.2.2.2.2.1 y.1
def zKV (n:Nat) (a:yC) (b:yC) (i:Int) (k:Int) (out_:yC):Bool×zxi:=zI (zCG) default n (a,b,(),i,k,()) (out_,())
def zXU (r:zxi):LTree ty:=.done (.exit 2) [.sl 28 r.1,.sl 28 r.2.1,.own 264,.lit (.int .i64 r.2.2.1)] [.arr 28 r.2.2.2 false]
def z0x:LL ty zqE:=za (lSl 28) (za (lSl 28) (za (lOwn 264) (za lI64 (za lI64 zp))))
def z0B:BL ty zeX:=bArr 28 false (bNil)
def zqV (a:yC) (b:yC) (i:Int) (out_:yC):Wy zqD zeX (yC):=.i (decide (i<Int.ofNat a.length)) (.bn (zKV ((a.length+b.length+i.toNat +Int.toNat 0+out_.length+1)+szTs a+szTs b+szTs out_) a b i 0 out_) fun r8=>.h ((r8.1),(r8.2.1),(),(IntKind.i64.wrap (r8.2.2.1+1)),()) ((r8.2.2.2),())) (.k out_)
def zCp (x:zqD) (y:zeX):Wy zqD zeX (yC):=zqV x.1 x.2.1 x.2.2.2.1 y.1
def zLN (n:Nat) (a:yC) (b:yC) (i:Int) (out_:yC):Bool×yC:=zI (zCp) default n (a,b,(),i,()) (out_,())
def zYB (r:yC):LTree ty:=.done (.exit 0) [.own 264] [.arr 28 r false]
def z0F:LL ty zqD:=za (lSl 28) (za (lSl 28) (za (lOwn 264) (za lI64 zp)))
def zU3 (x:zqM) (y:zrD):Nat:=((x.1.length+x.2.1.length+Int.toNat x.2.2.2.1+Int.toNat x.2.2.2.2.1+Int.toNat x.2.2.2.2.2.2.1+y.1.length+Int.toNat y.2.1.1+y.2.1.2.1.length+1)+szTs x.1+szTs x.2.1+szTs y.1+szFs y.2.1.2.1)
def zX5 (x:zqE) (y:zeX):Nat:=((x.1.length+x.2.1.length+Int.toNat x.2.2.2.1+Int.toNat x.2.2.2.2.1+y.1.length+1)+szTs x.1+szTs x.2.1+szTs y.1)
def zXZ (x:zqD) (y:zeX):Nat:=((x.1.length+x.2.1.length+Int.toNat x.2.2.2.1+y.1.length+1)+szTs x.1+szTs x.2.1+szTs y.1)
def zw3:Cx ty:=mkCx base 66 [(56,zKE),(57,zI3),(58,zFO)] [] [(3,(kpL [0,1,5,6])),(6,(kpL [0,1,5,6,7])),(10,(kpL [0,1,5,6,7,8,9]))] [(3,1,(kpL [5])),(6,3,(kpL [0,1,5,6])),(10,5,(kpL [0,1,5,6,7,8]))] [(10,spW zXP zXz (zBr) default zUD zU3),(6,spW z0x z0B (zCG) default zXU zX5),(3,spW z0F z0B (zCp) default zYB zXZ)] []
theorem zWr:zL zw3 (lp (body Tryz.f17) 2):=zw (id:=10) (hl:=rfl)
theorem zX3:zL zw3 (lp (body Tryz.f17) 1):=zw (id:=6) (hl:=rfl)
theorem zYC:zL zw3 (lp (body Tryz.f17) 0):=zw (id:=3) (hl:=rfl)
def zNH (a:yC) (b:yC):Wy0 (yC):=.bn (zLN ((a.length+b.length+Int.toNat 0+0+1)+szTs a+szTs b+szTs []) a b 0 []) fun r10=>.k r10
def zoi (a:yC) (b:yC):Bool×yC:=(zNH a b).fin default
def zHt:Ab.Spec ty:=zh zSg fun x=>((zoi x.1 x.2.1).1,zOj (zoi x.1 x.2.1).2)
theorem zTB:SdP 17 zHt:=
 sW (cx':=zw3) zq zi zl (zj ⟨zYt,zU5,zNz,trivial⟩) Tryz.call17 Tryz.func17 (c:=body Tryz.f17) (lOK (aC zYC (aC zX3 (aC zWr aN)))) (sg:=⟨[.own 28],[]⟩)
abbrev zzv:=yC×yC×Int×Unit
def zAn (a:yC) (b:yC) (i:Int):Wy zzv (Unit) (yC):=.i (decide (i<Int.ofNat b.length)) (.i (decide (0≤i)&&decide (i<Int.ofNat b.length)) (.bn (zC9 a (b.getD i.toNat default)) fun r0=>.h ((r0),b,(IntKind.i64.wrap (i+1)),()) ()) .d) (.k a)
def zLd (x:zzv) (y:Unit):Wy zzv (Unit) (yC):=zAn x.1 x.2.1 x.2.2.1
def zUC (n:Nat) (a:yC) (b:yC) (i:Int):Bool×yC:=zI (zLd) default n (a,b,i,()) ()
def z5I (r:yC):LTree ty:=.done (.exit 0) [.sl 28 r] []
def z6M:LL ty zzv:=za (lSl 28) (za (lSl 28) (za lI64 zp))
def z5r (x:zzv) (y:Unit):Nat:=(x.1.length+x.2.1.length+Int.toNat x.2.2.1+1)
def zUz:Cx ty:=mkCx base 19 [(58,zFO)] [] [(2,[(0,.sl 28),(1,.keep),(5,.keep)])] [(2,1,(kpL [0]))] [(2,spW z6M z5G (zLd) default z5I z5r)] []
theorem z5M:zL zUz (lp (body Tryz.f45) 0):=zw (id:=2) (hl:=rfl)
def zZl (a:yC) (b:yC):Wy0 (yC):=.bn (zUC (a.length+b.length+Int.toNat 0+1) a b 0) fun r2=>.k r2
def zCO (a:yC) (b:yC):Bool×yC:=(zZl a b).fin default
def z5A (r:yC):ARes ty:=⟨[.pure (.sl 28 r)],[]⟩
def zO7:Ab.Spec ty:=zh zSg fun x=>((zCO x.1 x.2.1).1,z5A (zCO x.1 x.2.1).2)
theorem z1P:SdP 45 zO7:=
 sW (cx':=zUz) zq zi zl (zj ⟨zNz,trivial⟩) Tryz.call45 Tryz.func45 (c:=body Tryz.f45) (lOK (aC z5M aN))
abbrev zlD:=yF×yF×Int×Unit
abbrev zpi:=Int⊕(yF×yF)
def zSk (a:yF) (b:yF) (i:Int):Wy zlD (Unit) zpi:=.i (decide (i<Int.ofNat a.length)) (.i (decide (i<Int.ofNat b.length)) (.i (decide (0≤i)&&decide (i<Int.ofNat a.length)) (.i (decide (0≤i)&&decide (i<Int.ofNat b.length)) (.bn (zmR (a.getD i.toNat default) (b.getD i.toNat default)) fun r0=>.i (r0 != 0) (.k (.inl (r0))) (.h (a,b,(IntKind.i64.wrap (i+1)),()) ())) .d) .d) (.k (.inr (a,b)))) (.k (.inr (a,b)))
def zEb (x:zlD) (y:Unit):Wy zlD (Unit) zpi:=zSk x.1 x.2.1 x.2.2.1
def zRS (n:Nat) (a:yF) (b:yF) (i:Int):Bool×zpi:=zI (zEb) (.inl default) n (a,b,i,()) ()
def zPm (r:zpi):LTree ty:=.ite (isL r) (.done .ret [.lit (.int .i64 (getL r))] []) (.done (.exit 0) [.sl 49 (getR r).1,.sl 49 (getR r).2] [])
def zRm:LL ty zlD:=za (lSl 49) (za (lSl 49) (za lI64 zp))
def zPd (x:zlD) (y:Unit):Nat:=(x.1.length+x.2.1.length+Int.toNat x.2.2.1+1000)
def zEa:Cx ty:=mkCx base 41 [(105,zvJ)] [] [(2,(kpL [0,1,5]))] [(2,1,(kpL [0,1])),(2,0,(kpL [4]))] [(2,spW zRm z5G (zEb) (.inl default) zPm zPd)] []
theorem zPj:zL zEa (lp (body Tryz.f76) 0):=zw (id:=2) (hl:=rfl)
def zTl (a:yF) (b:yF):Wy0 (Int):=.bn (zRS (a.length+b.length+Int.toNat 0+1000) a b 0) fun r2=>.i (isL r2) (.k (getL r2)) (.i (Int.ofNat (getR r2).1.length==Int.ofNat (getR r2).2.length) (.k 0) (.i (decide (Int.ofNat (getR r2).1.length<Int.ofNat (getR r2).2.length)) (.k (-1:Int)) (.k 1)))
def zBw (a:yF) (b:yF):Bool×Int:=(zTl a b).fin default
def zBK:Ab.Spec ty:=zh zAG fun x=>((zBw x.1 x.2.1).1,zO3 (zBw x.1 x.2.1).2)
theorem zMk:SdP 76 zBK:=
 sW (cx':=zEa) zq zi zl (zj ⟨zBU,trivial⟩) Tryz.call76 Tryz.func76 (c:=body Tryz.f76) (lOK (aC zPj aN))
abbrev zx1:=yB×yB×Int×Unit
def z5P (a:yB) (b:yB) (i:Int):Wy zx1 (Unit) (Bool⊕Unit):=.i (decide (i<Int.ofNat a.length)) (.i (decide (0≤i)&&decide (i<Int.ofNat a.length)) (.i (decide (0≤i)&&decide (i<Int.ofNat b.length)) (.bn (zBw (a.getD i.toNat default) (b.getD i.toNat default)) fun r0=>.i (r0 != 0) (.k (.inl false)) (.h (a,b,(IntKind.i64.wrap (i+1)),()) ())) .d) .d) (.k (.inr ()))
def zSO (x:zx1) (y:Unit):Wy zx1 (Unit) (Bool⊕Unit):=z5P x.1 x.2.1 x.2.2.1
def z5C (n:Nat) (a:yB) (b:yB) (i:Int):Bool×(Bool⊕Unit):=zI (zSO) (.inl default) n (a,b,i,()) ()
def z5i:LL ty zx1:=za (lSl 43) (za (lSl 43) (za lI64 zp))
def z3d (x:zx1) (y:Unit):Nat:=(x.1.length+x.2.1.length+Int.toNat x.2.2.1+1000)
def zSM:Cx ty:=mkCx base 27 [(76,zBK)] [] [(4,(kpL [0,1,5]))] [(4,1,[]),(4,0,(kpL [4]))] [(4,spW z5i z5G (zSO) (.inl default) zN7 z3d)] []
theorem z3l:zL zSM (lp (body Tryz.f26) 0):=zw (id:=4) (hl:=rfl)
def z6l (a:yB) (b:yB):Wy0 (Bool):=.i (Int.ofNat a.length != Int.ofNat b.length) (.k false) (.bn (z5C (a.length+b.length+Int.toNat 0+1000) a b 0) fun r2=>.i (isL r2) (.k (getL r2)) (.k true))
def zR3 (a:yB) (b:yB):Bool×Bool:=(z6l a b).fin default
def zNj:Ab.Spec ty:=zh zZK fun x=>((zR3 x.1 x.2.1).1,zTP (zR3 x.1 x.2.1).2)
theorem z0I:SdP 26 zNj:=
 sW (cx':=zSM) zq zi zl (zj ⟨zMk,trivial⟩) Tryz.call26 Tryz.func26 (c:=body Tryz.f26) (lOK (aC z3l aN))
abbrev zAS:=yC×yC×yC×Unit×Int×Unit×Unit×Unit×Unit
abbrev zAP:=yB×(Int×Int×Unit)×(Int×Int×Unit)×(Int×Int×Unit)×Unit
def z3g (x_:yC) (y_:yC) (a:yC) (e:Int) (l:yB) (one_0:Int) (one_1:Int) (two_0:Int) (two_1:Int) (three_0:Int) (three_1:Int):Wy zAS zAP (Bool):=.bn (zgN a) fun r7=>.bn (zoi y_ y_) fun r6=>.bn (zCO x_ r6) fun r5=>.bn (ztx r7 r5) fun r4=>.i (r4) (.i (e==0) (.bn (zR3 l [[RowID.mk one_0 one_1,RowID.mk two_0 two_1],[RowID.mk one_0 one_1,RowID.mk three_0 three_1]]) fun r3=>.i (r3) (.bn (zBe a a) fun r2=>.i (r2) (.i (decide ((0:Int)≤(0:Int))&&decide (0<Int.ofNat x_.length)) (.bn (zoi x_ y_) fun r1=>.i (decide ((0:Int)≤(0:Int))&&decide (0<Int.ofNat r1.length)) (.bn (zfY (x_.getD (Int.toNat 0) default) (r1.getD (Int.toNat 0) default)) fun r0=>.k r0) .d) .d) (.k false)) (.k false)) (.k false)) (.k false)
def z28 (x:zAS) (y:zAP):Wy zAS zAP (Bool):=z3g x.1 x.2.1 x.2.2.1 x.2.2.2.2.1 y.1 y.2.1.1 y.2.1.2.1 y.2.2.1.1 y.2.2.1.2.1 y.2.2.2.1.1 y.2.2.2.1.2.1
def z2P (r:Bool):LTree ty:=.done .ret [.lit (.bool r)] []
def z3w:LL ty zAS:=za (lSl 28) (za (lSl 28) (za (lSl 28) (za (lOwn 328) (za lI64 (za (zfl 329 0) (za (zfl 330 0) (za (zfl 331 0) zp)))))))
def z4g:BL ty zAP:=bArr 43 false (bBox (za (lInt .i64) (za (lInt .i64) zp)) false (bBox (za (lInt .i64) (za (lInt .i64) zp)) false (bBox (za (lInt .i64) (za (lInt .i64) zp)) false (bNil))))
def zPB:Cx ty:=z6g base0 82 [(14,zmc),(17,zHt),(18,zBI),(22,zuE),(24,zza),(26,zNj),(30,zEg),(44,zEZ),(45,zO7),(46,zKu),(47,zLV)] [] [(6,[(1,.sl 28),(2,.sl 28),(4,.sl 28),(7,.keep),(8,.keep),(9,.keep),(10,.keep),(11,.keep)])] [(6,0,(kpL [0]))] [] [] [(6,spW z3w z4g (z28) default z2P fun x y=>(1))]
theorem z2r:zQF zPB (jn (body Tryz.f12) 6):=zZ8 (id:=6) (hl:=rfl)
def z5k:Wy0 (Bool):=.k true
def zY1:Bool×Bool:=(z5k).fin default
def z5T:AL base0 (Unit):=aNil
def zLU:Ab.Spec ty:=zh z5T fun x=>((zY1 ).1,zTP (zY1 ).2)
theorem zYe:Sound Tryz.prog base0 12 zLU:=
 zXt (cx':=zPB) zq zi7 z9G (z7L ⟨zq7.nodr,zTB.nodr,zMs.nodr,zAZ,zH4.nodr,z0I.nodr,zL4.nodr,zSH.nodr,z1P.nodr,zYp.nodr,zX6.nodr,trivial⟩) Tryz.call12 Tryz.func12 (c:=body Tryz.f12) (by kernel_rfl) (zSS (l:=[]) (by kernel_rfl) trivial (js:=[jn (body Tryz.f12) 6]) (by kernel_rfl) ⟨z2r,trivial⟩) (sg:=⟨[.pure],[]⟩)
def z2Z:AL base (yC×Int×Int×Unit):=zd (ze (vSl 28)) (zd (ze (vInt .i64)) (zd (ze (vInt .i64)) aNil))
def zu5 (F:yC→Int→Int→Bool×Int):Ab.Spec ty:=zh z2Z fun x=>((F x.1 x.2.1 x.2.2.1).1,zO3 (F x.1 x.2.1 x.2.2.1).2)
abbrev zfL:=yC×Int×Int×Int×Int×Int×Unit×Int×Unit
abbrev zyS:=yC×Int×Int×Int×Int×Int×Atom
abbrev zzc:=yC×Int×Int×Int×Int×Int
abbrev ztZ:=yC×Int×Int×Int×Int×Int×Unit
abbrev zy2:=yC×Int×Int×Int×Int
abbrev ztk:=yC×Int×Int×Int×Int×Unit
def zAe (zH:yC→Int→Int→Bool×Int) (a:yC) (limit:Int) (deep:Int) (n_:Int) (i:Int) (k:Int) (j:Int) (x_:Atom):Wy zfL (Atom×Unit) zyS:=.i (decide (j<Int.ofNat x_.Args.length)) (.i (decide (n_≤limit)) (.i (decide (0≤j)&&decide (j<Int.ofNat x_.Args.length)) (.bn (zH (x_.Args.getD j.toNat default) (IntKind.i64.wrap (limit - n_)) (IntKind.i64.wrap (deep - 1))) fun r0=>.h (a,limit,deep,(IntKind.i64.wrap (n_+r0)),i,k,(),(IntKind.i64.wrap (j+1)),()) (x_,())) .d) (.k (a,limit,deep,n_,i,k,x_))) (.k (a,limit,deep,n_,i,k,x_))
def zGJ (zH:yC→Int→Int→Bool×Int) (x:zfL) (y:Atom×Unit):Wy zfL (Atom×Unit) zyS:=zAe zH x.1 x.2.1 x.2.2.1 x.2.2.2.1 x.2.2.2.2.1 x.2.2.2.2.2.1 x.2.2.2.2.2.2.2.1 y.1
def zzL (zH:yC→Int→Int→Bool×Int) (n:Nat) (a:yC) (limit:Int) (deep:Int) (n_:Int) (i:Int) (k:Int) (j:Int) (x_:Atom):Bool×zyS:=zI (zGJ zH) default n (a,limit,deep,n_,i,k,(),j,()) (x_,())
def zTQ (r:zyS):LTree ty:=.done (.exit 4) [.sl 28 r.1,.lit (.int .i64 r.2.1),.lit (.int .i64 r.2.2.1),.lit (.int .i64 r.2.2.2.1),.lit (.int .i64 r.2.2.2.2.1),.lit (.int .i64 r.2.2.2.2.2.1),.ptr 544 0] [.box (base.enc 67 r.2.2.2.2.2.2) false]
def zVU:LL ty zfL:=za (lSl 28) (za lI64 (za lI64 (za lI64 (za lI64 (za lI64 (za (zfl 544 0) (za lI64 zp)))))))
def zz6 (zH:yC→Int→Int→Bool×Int) (a:yC) (limit:Int) (deep:Int) (n_:Int) (i:Int) (k:Int) (j:Int) (x_:Atom):Wy zfL (Atom×Unit) zzc:=.i (decide (j<Int.ofNat x_.Items.length)) (.i (decide (n_≤limit)) (.i (decide (0≤j)&&decide (j<Int.ofNat x_.Items.length)) (.i (decide (0≤j)&&decide (j<Int.ofNat x_.Items.length)) (.bn (zH (x_.Items.getD j.toNat default).Ann (IntKind.i64.wrap (limit - n_)) (IntKind.i64.wrap (deep - 1))) fun r2=>.h (a,limit,deep,(IntKind.i64.wrap (IntKind.i64.wrap (n_+Int.ofNat (x_.Items.getD j.toNat default).Value.Text.size)+r2)),i,k,(),(IntKind.i64.wrap (j+1)),()) (x_,())) .d) .d) (.k (a,limit,deep,n_,i,k))) (.k (a,limit,deep,n_,i,k))
def zGC (zH:yC→Int→Int→Bool×Int) (x:zfL) (y:Atom×Unit):Wy zfL (Atom×Unit) zzc:=zz6 zH x.1 x.2.1 x.2.2.1 x.2.2.2.1 x.2.2.2.2.1 x.2.2.2.2.2.1 x.2.2.2.2.2.2.2.1 y.1
def zAt (zH:yC→Int→Int→Bool×Int) (n:Nat) (a:yC) (limit:Int) (deep:Int) (n_:Int) (i:Int) (k:Int) (j:Int) (x_:Atom):Bool×zzc:=zI (zGC zH) default n (a,limit,deep,n_,i,k,(),j,()) (x_,())
def zTn (r:zzc):LTree ty:=.done (.exit 6) [.sl 28 r.1,.lit (.int .i64 r.2.1),.lit (.int .i64 r.2.2.1),.lit (.int .i64 r.2.2.2.1),.lit (.int .i64 r.2.2.2.2.1),.lit (.int .i64 r.2.2.2.2.2)] []
def zBm (zH:yC→Int→Int→Bool×Int) (a:yC) (limit:Int) (deep:Int) (n_:Int) (i:Int) (k:Int):Wy ztZ (Unit) zy2:=.i (decide (0≤i)&&decide (i<Int.ofNat a.length)) (.i (decide (k<Int.ofNat (a.getD i.toNat default).Factors.length)) (.i (decide (n_≤limit)) (.i (decide (0≤i)&&decide (i<Int.ofNat a.length)) (.i (decide (0≤k)&&decide (k<Int.ofNat (a.getD i.toNat default).Factors.length)) (.bn (zzL zH (a.length+limit.toNat +deep.toNat +(IntKind.i64.wrap (IntKind.i64.wrap (IntKind.i64.wrap (n_+Int.ofNat ((a.getD i.toNat default).Factors.getD k.toNat default).Atom.Items.length)+Int.ofNat ((a.getD i.toNat default).Factors.getD k.toNat default).Atom.Args.length)+Int.ofNat ((a.getD i.toNat default).Factors.getD k.toNat default).Atom.Bound.Text.size)).toNat +i.toNat +k.toNat +Int.toNat 0+((a.getD i.toNat default).Factors.getD k.toNat default).Atom.Args.length+((a.getD i.toNat default).Factors.getD k.toNat default).Atom.Items.length+1) a limit deep (IntKind.i64.wrap (IntKind.i64.wrap (IntKind.i64.wrap (n_+Int.ofNat ((a.getD i.toNat default).Factors.getD k.toNat default).Atom.Items.length)+Int.ofNat ((a.getD i.toNat default).Factors.getD k.toNat default).Atom.Args.length)+Int.ofNat ((a.getD i.toNat default).Factors.getD k.toNat default).Atom.Bound.Text.size)) i k 0 (Atom.mk ((a.getD i.toNat default).Factors.getD k.toNat default).Atom.Kind ((a.getD i.toNat default).Factors.getD k.toNat default).Atom.Row ((a.getD i.toNat default).Factors.getD k.toNat default).Atom.Args ((a.getD i.toNat default).Factors.getD k.toNat default).Atom.Func ((a.getD i.toNat default).Factors.getD k.toNat default).Atom.Items ((a.getD i.toNat default).Factors.getD k.toNat default).Atom.Op ((a.getD i.toNat default).Factors.getD k.toNat default).Atom.Bound)) fun r5=>.bn (zAt zH (r5.1.length+r5.2.1.toNat +r5.2.2.1.toNat +r5.2.2.2.1.toNat +r5.2.2.2.2.1.toNat +r5.2.2.2.2.2.1.toNat +Int.toNat 0+r5.2.2.2.2.2.2.Args.length+r5.2.2.2.2.2.2.Items.length+1) r5.1 r5.2.1 r5.2.2.1 r5.2.2.2.1 r5.2.2.2.2.1 r5.2.2.2.2.2.1 0 (Atom.mk r5.2.2.2.2.2.2.Kind r5.2.2.2.2.2.2.Row r5.2.2.2.2.2.2.Args r5.2.2.2.2.2.2.Func r5.2.2.2.2.2.2.Items r5.2.2.2.2.2.2.Op r5.2.2.2.2.2.2.Bound)) fun r4=>.h ((r4.1),(r4.2.1),(r4.2.2.1),(r4.2.2.2.1),(r4.2.2.2.2.1),(IntKind.i64.wrap (r4.2.2.2.2.2+1)),()) ()) .d) .d) (.k (a,limit,deep,n_,i))) (.k (a,limit,deep,n_,i))) .d
def zIX (zH:yC→Int→Int→Bool×Int) (x:ztZ) (y:Unit):Wy ztZ (Unit) zy2:=zBm zH x.1 x.2.1 x.2.2.1 x.2.2.2.1 x.2.2.2.2.1 x.2.2.2.2.2.1
def zBc (zH:yC→Int→Int→Bool×Int) (n:Nat) (a:yC) (limit:Int) (deep:Int) (n_:Int) (i:Int) (k:Int):Bool×zy2:=zI (zIX zH) default n (a,limit,deep,n_,i,k,()) ()
def zVq (r:zy2):LTree ty:=.done (.exit 2) [.sl 28 r.1,.lit (.int .i64 r.2.1),.lit (.int .i64 r.2.2.1),.lit (.int .i64 r.2.2.2.1),.lit (.int .i64 r.2.2.2.2)] []
def zYj:LL ty ztZ:=za (lSl 28) (za lI64 (za lI64 (za lI64 (za lI64 (za lI64 zp)))))
def zBn (zH:yC→Int→Int→Bool×Int) (a:yC) (limit:Int) (deep:Int) (n_:Int) (i:Int):Wy ztk (Unit) (Int):=.i (decide (i<Int.ofNat a.length)) (.i (decide (n_≤limit)) (.i (decide (0≤i)&&decide (i<Int.ofNat a.length)) (.bn (zBc zH (a.length+limit.toNat +deep.toNat +(IntKind.i64.wrap (IntKind.i64.wrap (n_+1)+Int.ofNat (a.getD i.toNat default).Factors.length)).toNat +i.toNat +Int.toNat 0+1) a limit deep (IntKind.i64.wrap (IntKind.i64.wrap (n_+1)+Int.ofNat (a.getD i.toNat default).Factors.length)) i 0) fun r8=>.h ((r8.1),(r8.2.1),(r8.2.2.1),(r8.2.2.2.1),(IntKind.i64.wrap (r8.2.2.2.2+1)),()) ()) .d) (.k n_)) (.k n_)
def zIZ (zH:yC→Int→Int→Bool×Int) (x:ztk) (y:Unit):Wy ztk (Unit) (Int):=zBn zH x.1 x.2.1 x.2.2.1 x.2.2.2.1 x.2.2.2.2.1
def zBx (zH:yC→Int→Int→Bool×Int) (n:Nat) (a:yC) (limit:Int) (deep:Int) (n_:Int) (i:Int):Bool×Int:=zI (zIZ zH) default n (a,limit,deep,n_,i,()) ()
def zYy:LL ty ztk:=za (lSl 28) (za lI64 (za lI64 (za lI64 (za lI64 zp))))
def zTE (x:zfL) (y:Atom×Unit):Nat:=(x.1.length+Int.toNat x.2.1+Int.toNat x.2.2.1+Int.toNat x.2.2.2.1+Int.toNat x.2.2.2.2.1+Int.toNat x.2.2.2.2.2.1+Int.toNat x.2.2.2.2.2.2.2.1+y.1.Args.length+y.1.Items.length+1)
def zWI (x:ztZ) (y:Unit):Nat:=(x.1.length+Int.toNat x.2.1+Int.toNat x.2.2.1+Int.toNat x.2.2.2.1+Int.toNat x.2.2.2.2.1+Int.toNat x.2.2.2.2.2.1+1)
def zV4 (x:ztk) (y:Unit):Nat:=(x.1.length+Int.toNat x.2.1+Int.toNat x.2.2.1+Int.toNat x.2.2.2.1+Int.toNat x.2.2.2.2.1+1)
def zoL (zH:yC→Int→Int→Bool×Int):Cx ty:=mkCx base 136 [(48,(zu5 zH))] [] [(5,(kpL [0,1,2,7,8])),(9,(kpL [0,1,2,7,8,9])),(14,(kpL [0,1,2,7,8,9,10,11])),(18,(kpL [0,1,2,7,8,9,10,12]))] [(5,1,(kpL [7])),(9,3,(kpL [0,1,2,7,8])),(14,5,(kpL [0,1,2,7,8,9,10])),(18,7,(kpL [0,1,2,7,8,9]))] [(14,spW zVU zTF (zGJ zH) default zTQ zTE),(18,spW zVU zTF (zGC zH) default zTn zTE),(9,spW zYj z5G (zIX zH) default zVq zWI),(5,spW zYy z5G (zIZ zH) default zPa zV4)] []
theorem zTH (zH:yC→Int→Int→Bool×Int):zL (zoL zH) (lp (body Tryz.f48) 2):=zw (id:=14) (hl:=rfl)
theorem zT2 (zH:yC→Int→Int→Bool×Int):zL (zoL zH) (lp (body Tryz.f48) 3):=zw (id:=18) (hl:=rfl)
theorem zVW (zH:yC→Int→Int→Bool×Int):zL (zoL zH) (lp (body Tryz.f48) 1):=zw (id:=9) (hl:=rfl)
theorem zWB (zH:yC→Int→Int→Bool×Int):zL (zoL zH) (lp (body Tryz.f48) 0):=zw (id:=5) (hl:=rfl)
def zCq (zH:yC→Int→Int→Bool×Int) (a:yC) (limit:Int) (deep:Int):Wy0 (Int):=.i (deep==0) (.k (IntKind.i64.wrap (limit+1))) (.bn (zBx zH (a.length+limit.toNat +deep.toNat +Int.toNat 0+Int.toNat 0+1) a limit deep 0 0) fun r10=>.k r10)
def zvz (zH:yC→Int→Int→Bool×Int) (a:yC) (limit:Int) (deep:Int):Bool×Int:=(zCq zH a limit deep).fin default
theorem zRx (zH:yC→Int→Int→Bool×Int) (zZD:SdP 48 (zu5 zH)):SdP 48 (zu5 (zvz zH)):=
 sW (cx':=(zoL zH)) zq zi zl (zj ⟨zZD,trivial⟩) Tryz.call48 Tryz.func48 (c:=body Tryz.f48) (lOK (aC (zWB zH) (aC (zVW zH) (aC (zTH zH) (aC (zT2 zH) aN)))))
def zY5:Nat→(yC→Int→Int→Bool×Int)
 | 0=>fun _ _ _=>(false,default)
 | n+1=>zvz (zY5 n)
def zqo (n:Nat):yC→Int→Int→Bool×Int:=zY5 n
theorem zJa (n:Nat):zqo (n+1)=zvz (zqo n):=rfl
theorem zS3:∀ n,SdP 48 (zu5 (zqo n))
 | 0=>z6 Tryz.call48 (fun _=>rfl)
 | n+1=>by
  have ih:=zS3 n;exact zRx _ (ih)
def zL9:yC→Int→Int→Bool×Int:=zqo 1000
def ref05_weight_spec:Ab.Spec ty:=zu5 zL9
theorem zVe:SdP 48 ref05_weight_spec:=(zS3 1000)
abbrev zAl:=Int×yA×Int×Unit
def zLR (limit:Int) (l:yA) (i:Int):Wy zAl (Unit) (Bool⊕Unit):=.i (decide (i<Int.ofNat l.length)) (.i (decide (0≤i)&&decide (i<Int.ofNat l.length)) (.bn (zL9 (l.getD i.toNat default) limit 12) fun r0=>.i (decide (r0>limit)) (.k (.inl false)) (.h (limit,l,(IntKind.i64.wrap (i+1)),()) ())) .d) (.k (.inr ()))
def zUX (x:zAl) (y:Unit):Wy zAl (Unit) (Bool⊕Unit):=zLR x.1 x.2.1 x.2.2.1
def zKt (n:Nat) (limit:Int) (l:yA) (i:Int):Bool×(Bool⊕Unit):=zI (zUX) (.inl default) n (limit,l,i,()) ()
def z7G:LL ty zAl:=za lI64 (za (lSl 23) (za lI64 zp))
def z5K (x:zAl) (y:Unit):Nat:=(Int.toNat x.1+x.2.1.length+Int.toNat x.2.2.1+1)
def zWe:Cx ty:=mkCx base 20 [(48,ref05_weight_spec)] [] [(2,(kpL [0,1,5]))] [(2,1,[]),(2,0,(kpL [4]))] [(2,spW z7G z5G (zUX) (.inl default) zN7 z5K)] []
theorem z5g:zL zWe (lp (body Tryz.f13) 0):=zw (id:=2) (hl:=rfl)
def zZu (limit:Int) (l:yA):Wy0 (Bool):=.bn (zKt (limit.toNat +l.length+Int.toNat 0+1) limit l 0) fun r2=>.i (isL r2) (.k (getL r2)) (.k true)
def ztj (limit:Int) (l:yA):Bool×Bool:=(zZu limit l).fin default
def z8H:AL base (Int×yA×Unit):=zd (ze vI64) (zd (ze (vSl 23)) aNil)
def zPl:Ab.Spec ty:=zh z8H fun x=>((ztj x.1 x.2.1).1,zTP (ztj x.1 x.2.1).2)
theorem z2M:SdP 13 zPl:=
 sW (cx':=zWe) zq zi zl (zj ⟨zVe,trivial⟩) Tryz.call13 Tryz.func13 (c:=body Tryz.f13) (lOK (aC z5g aN))
abbrev zeJ:=yC×yG×Int×Unit
abbrev zgq:=Bool⊕(yC×yG)
abbrev zb3:=yC×yG×Unit
def zkO (a:yC) (l:yG) (i:Int):Wy zeJ (Unit) zgq:=.i (decide (i<Int.ofNat l.length)) (.i (decide (0≤i)&&decide (i<Int.ofNat l.length)) (.bn (ztj 8 [(l.getD i.toNat default).To]) fun r0=>.i (!r0) (.k (.inl true)) (.h (a,l,(IntKind.i64.wrap (i+1)),()) ())) .d) (.k (.inr (a,l)))
def zsm (x:zeJ) (y:Unit):Wy zeJ (Unit) zgq:=zkO x.1 x.2.1 x.2.2.1
def zkW (n:Nat) (a:yC) (l:yG) (i:Int):Bool×zgq:=zI (zsm) (.inl default) n (a,l,i,()) ()
def zCg (r:zgq):LTree ty:=.ite (isL r) (.done .ret [.lit (.bool (getL r))] []) (.done (.exit 0) [.sl 28 (getR r).1,.sl 51 (getR r).2] [])
def zDv:LL ty zeJ:=za (lSl 28) (za (lSl 51) (za lI64 zp))
def zkU (a:yC) (l:yG):Wy zb3 (Unit) (Bool):=.bn (zkW (a.length+l.length+Int.toNat 0+1) a l 0) fun r8=>.i (isL r8) (.k (getL r8)) (.bn (zfH (getR r8).1 (getR r8).2) fun r7=>.bn (zgN (getR r8).1) fun r6=>.bn (zfH r6 (getR r8).2) fun r5=>.i (r7.2 != 0) (.k true) (.i (r5.2 != 0) (.k true) (.bn (zgN r7.1) fun r4=>.bn (zgN r5.1) fun r3=>.bn (zeW r4 r3) fun r2=>.k r2)))
def zkV (x:zb3) (y:Unit):Wy zb3 (Unit) (Bool):=zkU x.1 x.2.1
def zsn (n:Nat) (a:yC) (l:yG):Bool×Bool:=zI (zkV) default n (a,l,()) ()
def zDl:LL ty zb3:=za (lSl 28) (za (lSl 51) zp)
def zkP (a:yC) (l:yG):Wy zb3 (Unit) (Bool):=.bn (ztj 20 [a]) fun r18=>.i (!r18) (.k true) (.i (decide (Int.ofNat l.length>4)) (.k true) (.bn (zb2 a) fun r17=>.i (!r17) (.k true) (.bn (zsn 1 a l) fun r16=>.k r16)))
def zkS (x:zb3) (y:Unit):Wy zb3 (Unit) (Bool):=zkP x.1 x.2.1
def zso (n:Nat) (a:yC) (l:yG):Bool×Bool:=zI (zkS) default n (a,l,()) ()
def zCy (x:zeJ) (y:Unit):Nat:=(x.1.length+x.2.1.length+Int.toNat x.2.2.1+1)
def zgs:Cx ty:=z6g base0 66 [(12,zLU),(13,zPl),(20,annotation_Valid_spec),(21,zkw),(22,zuE),(29,zop)] [] [(6,(kpL [0,1,5])),(3,(kpL [0,1])),(5,(kpL [0,1]))] [(6,1,(kpL [0,1])),(6,0,(kpL [4])),(3,0,(kpL [4])),(5,0,(kpL [4]))] [(6,spW zDv z5G (zsm) (.inl default) zCg zCy)] [] [(5,spW zDl z5G (zkV) default z2P fun x y=>(1)),(3,spW zDl z5G (zkS) default z2P fun x y=>(1))]
theorem zCw:zL zgs (lp (body Tryz.f7) 0):=zw (id:=6) (hl:=rfl)
theorem zCE:zQF zgs (jn (body Tryz.f7) 5):=zZ8 (id:=5) (hl:=rfl)
theorem zCh:zQF zgs (jn (body Tryz.f7) 3):=zZ8 (id:=3) (hl:=rfl)
def ztT (a:yC) (l:yG):Wy0 (Bool):=.bn (zso 1 a l) fun r22=>.k r22
def zew (a:yC) (l:yG):Bool×Bool:=(ztT a l).fin default
def zDU:AL base0 zb3:=zd (ze (vSl 28)) (zd (ze (vSl 51)) aNil)
def zjy:Ab.Spec ty:=zh zDU fun x=>((zew x.1 x.2.1).1,zTP (zew x.1 x.2.1).2)
theorem zBp:Sound Tryz.prog base0 7 zjy:=
 zXt (cx':=zgs) zq zi7 z9G (z7L ⟨zYe,z2M.nodr,zcb.nodr,zm2.nodr,zAZ,zwH,trivial⟩) Tryz.call7 Tryz.func7 (c:=body Tryz.f7) (by kernel_rfl) (zSS (l:=[lp (body Tryz.f7) 0]) (by kernel_rfl) ⟨zCw,trivial⟩ (js:=[jn (body Tryz.f7) 3,jn (body Tryz.f7) 5]) (by kernel_rfl) ⟨zCh,zCE,trivial⟩) (sg:=⟨[.pure],[]⟩)
def trV (v:Value):TT:=.l [.i v.Kind,.i v.Int,trB v.Text]
mutual
def zdJ:Atom→TT
 | ⟨k,r,a,f,i,o,b⟩=>.l [.i k,.i r.Table,.i r.Seq,.l (zxS a),.i f,.l (zhr i),.i o,trV b]
def zhC:Factor→TT
 | ⟨x,e⟩=>.l [zdJ x,.i e]
def zbA:yD→List TT
 | []=>[]
 | x::r=>zhC x::zbA r
def zzV:Term→TT
 | ⟨c,fs⟩=>.l [.l (zbA fs),.i c]
def zdy:yC→List TT
 | []=>[]
 | x::r=>zzV x::zdy r
def zxS:yA→List TT
 | []=>[]
 | x::r=>.l (zdy x)::zxS r
def zbc:Weighted→TT
 | ⟨v,a⟩=>.l [trV v,.l (zdy a)]
def zhr:yE→List TT
 | []=>[]
 | x::r=>zbc x::zhr r
end
theorem zyf:∀ l,zbA l=l.map zhC
 | []=>by rw [zbA]; rfl
 | x::r=>by rw [zbA,zyf r]; rfl
theorem zGM:∀ l,zdy l=l.map zzV
 | []=>by rw [zdy]; rfl
 | x::r=>by rw [zdy,zGM r]; rfl
theorem zDZ:∀ l,zxS l=l.map fun x=>.l (zdy x)
 | []=>by rw [zxS]; rfl
 | x::r=>by rw [zxS,zDZ r]; rfl
theorem zna:∀ l,zhr l=l.map zbc
 | []=>by rw [zhr]; rfl
 | x::r=>by rw [zhr,zna r]; rfl
theorem zIL:∀ a b:List UInt8,(a.map fun x=>TT.i (x.toNat:Int))=(b.map fun x=>TT.i (x.toNat:Int))→a=b
 | [],[]=>fun _=>rfl
 | [],_::_=>fun h=>by simp at h
 | _::_,[]=>fun h=>by simp at h
 | x::a,y::b=>fun h=>by
  simp only [List.map,qj,TT.i.injEq] at h;rw [zIL a b h.2,UInt8.toNat_inj.1 (Int.ofNat.inj h.1)]
theorem z9L {a b:Value} (h:trV a=trV b):a=b:=by
 obtain ⟨k,n,s⟩:=a; obtain ⟨k',n',s'⟩:=b;simp only [trV,trB,TT.l.injEq,qj,TT.i.injEq,and_true] at h;obtain ⟨rfl,rfl,h⟩:=h;have:=zIL _ _ h;obtain ⟨⟨l⟩⟩:=s; obtain ⟨⟨l'⟩⟩:=s';simp only at this; subst this; rfl
mutual
theorem z1n:∀ a b:Atom,zdJ a=zdJ b→a=b
 | ⟨k,r,a,f,i,o,v⟩,⟨k',r',a',f',i',o',v'⟩=>fun h=>by
  simp only [zdJ,TT.l.injEq,qj,TT.i.injEq,and_true] at h;obtain ⟨rfl,h1,h2,h3,rfl,h4,rfl,h5⟩:=h;obtain ⟨t,s⟩:=r; obtain ⟨t',s'⟩:=r';simp only at h1 h2; subst h1 h2;rw [z1p a a' h3,zY8 i i' h4,z9L h5]
theorem zWn:∀ a b:Factor,zhC a=zhC b→a=b
 | ⟨x,e⟩,⟨x',e'⟩=>fun h=>by
  simp only [zhC,TT.l.injEq,qj,TT.i.injEq,and_true] at h;rw [z1n x x' h.1,h.2]
theorem zCa:∀ a b:yD,zbA a=zbA b→a=b
 | [],[]=>fun _=>rfl
 | [],_::_=>fun h=>by simp [zbA] at h
 | _::_,[]=>fun h=>by simp [zbA] at h
 | x::a,y::b=>fun h=>by
  simp only [zbA,qj] at h;rw [zWn x y h.1,zCa a b h.2]
theorem z95:∀ a b:Term,zzV a=zzV b→a=b
 | ⟨c,l⟩,⟨c',l'⟩=>fun h=>by
  simp only [zzV,TT.l.injEq,qj,TT.i.injEq,and_true] at h;rw [zCa l l' h.1,h.2]
theorem zGK:∀ a b:yC,zdy a=zdy b→a=b
 | [],[]=>fun _=>rfl
 | [],_::_=>fun h=>by simp [zdy] at h
 | _::_,[]=>fun h=>by simp [zdy] at h
 | x::a,y::b=>fun h=>by
  simp only [zdy,qj] at h;rw [z95 x y h.1,zGK a b h.2]
theorem z1p:∀ a b:yA,zxS a=zxS b→a=b
 | [],[]=>fun _=>rfl
 | [],_::_=>fun h=>by simp [zxS] at h
 | _::_,[]=>fun h=>by simp [zxS] at h
 | x::a,y::b=>fun h=>by
  simp only [zxS,qj,TT.l.injEq] at h;rw [zGK x y h.1,z1p a b h.2]
theorem z2b:∀ a b:Weighted,zbc a=zbc b→a=b
 | ⟨c,l⟩,⟨c',l'⟩=>fun h=>by
  simp only [zbc,TT.l.injEq,qj,and_true] at h;rw [z9L h.1,zGK l l' h.2]
theorem zY8:∀ a b:yE,zhr a=zhr b→a=b
 | [],[]=>fun _=>rfl
 | [],_::_=>fun h=>by simp [zhr] at h
 | _::_,[]=>fun h=>by simp [zhr] at h
 | x::a,y::b=>fun h=>by
  simp only [zhr,qj] at h;rw [z2b x y h.1,zY8 a b h.2]
end
def zcU (P:yC→Prop) (x:Atom):Prop:=
 (x.Args.length≤1000000∧x.Items.length≤1000000∧x.Bound.Text.size≤1000000000000)∧(∀ a∈x.Args,P a)∧∀ w∈x.Items,w.Value.Text.size≤1000000000000∧P w.Ann
def zdQ (P:yC→Prop) (l:yD):Prop:=l.length≤1000000∧∀ f∈l,zcU P f.Atom
def zr:Nat→yC→Prop
 | 0,_=>False
 | n+1,a=>a.length≤1000000∧∀ t∈a,zdQ (zr n) t.Factors
theorem zcU.imp {P Q:yC→Prop} (h:∀ a,P a→Q a) {x:Atom} (hx:zcU P x):zcU Q x:=⟨hx.1,fun a ha=>h a (hx.2.1 a ha),fun w hw=>⟨(hx.2.2 w hw).1,h _ (hx.2.2 w hw).2⟩⟩
theorem zr.succ:∀ (n:Nat) (a:yC),zr n a→zr (n+1) a
 | 0,_,h=>h.elim
 | n+1,a,h=>⟨h.1,fun t ht=>⟨(h.2 t ht).1,fun f hf=>((h.2 t ht).2 f hf).imp (zr.succ n)⟩⟩
theorem zr.mono {n m:Nat} {a:yC} (h:zr n a) (hm:n≤m):zr m a:=by
 obtain ⟨k,rfl⟩:=Nat.exists_eq_add_of_le hm;clear hm;induction k with
 | zero=>exact h
 | succ k ih=>exact zr.succ _ _ ih
def dvF (a b:yD):Bool:=a.all fun f=>b.any fun g=>decide (f.Exp≤g.Exp)&&decide (f.Atom=g.Atom)
theorem zyk {a b:yD}:dvF a b=true↔∀ f∈a,∃ g∈b,f.Exp≤g.Exp∧f.Atom=g.Atom:=by
 unfold dvF;simp only [List.all_eq_true,List.any_eq_true,qc,qe]
theorem zKQ (a:yD):dvF a a=true:=zyk.2 fun f hf=>⟨f,hf,Int.le_refl _,rfl⟩
theorem zNJ {a b c:yD} (h1:dvF a b=true) (h2:dvF b c=true):dvF a c=true:=zyk.2 fun f hf=>by
 obtain ⟨g,hg,e1,e2⟩:=zyk.1 h1 f hf;obtain ⟨h,hh,e3,e4⟩:=zyk.1 h2 g hg;exact ⟨h,hh,Int.le_trans e1 e3,e2.trans e4⟩
def cFx (f g:Factor):Int:=cmpT (zhC f) (zhC g)
theorem z12 {α:Type} (e:α→TT) (he:∀ a b,e a=e b→a=b):Ord3 fun a b=>cmpT (e a) (e b) where
 eq x y:=⟨fun h=>he _ _ (zvo _ _ h),fun h=>by subst h; exact zGQ _⟩
 swap x y:=by rw [zgH (e x) (e y)]; omega
 trans x y z h1 h2:=by
  have h3:cmpT (e x) (e z)≤0:=zw0 _ _ _ (Int.le_of_lt h1) (Int.le_of_lt h2);by_cases h4:cmpT (e x) (e z)=0
  ·have h5:=zvo _ _ h4;rw [h5,zgH (e y) (e z)] at h1;omega
  ·omega
theorem ordF:Ord3 cFx:=z12 zhC zWn
abbrev AscF (l:yD):Prop:=l.Pairwise fun f g=>cmpT (zdJ f.Atom) (zdJ g.Atom)<0
theorem AscF.sasc {l:yD} (h:AscF l):SAsc cFx l:=h.imp fun {f g} hfg=>by
 obtain ⟨x,e⟩:=f; obtain ⟨y,e'⟩:=g;show cmpT (zhC ⟨x,e⟩) (zhC ⟨y,e'⟩)<0;have hfg:cmpT (zdJ x) (zdJ y)<0:=hfg;simp only [zhC,cmpT,cmpL];rw [if_neg (by omega)]
 exact hfg
theorem AscF.uniq {l:yD} (h:AscF l):∀ f∈l,∀ g∈l,f.Atom=g.Atom→f=g:=by
 induction l with
 | nil=>intro f hf; cases hf
 | cons x r ih=>
  have h:=qi.1 h
  have ne:∀ g∈r,x.Atom≠g.Atom:=fun g hg e=>by
   have:=h.1 g hg;rw [e,zGQ] at this; omega
  intro f hf g hg e;rcases qd.1 hf with e1 | hf1
  ·rcases qd.1 hg with e2 | hg1
   ·rw [e1,e2]
   ·rw [e1] at e; exact absurd e (ne g hg1)
  ·rcases qd.1 hg with e2 | hg1
   ·rw [e2] at e; exact absurd e.symm (ne f hf1)
   ·exact ih h.2 f hf1 g hg1 e
theorem z0z {a b:yD} (ha:AscF a) (hb:AscF b) (h1:dvF a b=true) (h2:dvF b a=true):a=b:=by
 have key:∀ {a b:yD},AscF a→AscF b→dvF a b=true→dvF b a=true→∀ f∈a,f∈b:=by
  intro a b ha hb h1 h2 f hf;obtain ⟨g,hg,e1,e2⟩:=zyk.1 h1 f hf;obtain ⟨f',hf',e3,e4⟩:=zyk.1 h2 g hg;have:=ha.uniq f hf f' hf' (e2.trans e4);subst this
  have:f=g:=by
   obtain ⟨x,n⟩:=f; obtain ⟨y,m⟩:=g;simp only at e1 e2 e3 e4;subst e2;have:n=m:=by omega
   subst this; rfl
  subst this; exact hg
 exact zZf ordF ha.sasc hb.sasc fun x=>⟨key ha hb h1 h2 x,key hb ha h2 h1 x⟩
def cL (a b:yD):Int:=cmpT (.l (zbA a)) (.l (zbA b))
theorem ordL:Ord3 cL:=z12 (fun a=>.l (zbA a)) fun a b h=>zCa _ _ (TT.l.inj h)
structure Canon (a:yC):Prop where
 asc:a.Pairwise fun t u=>cL t.Factors u.Factors<0
 fac:∀ t∈a,AscF t.Factors
theorem Canon.tail {t:Term} {a:yC} (h:Canon (t::a)):Canon a:=⟨(qi.1 h.asc).2,fun x hx=>h.fac x (by simp [hx])⟩
theorem Canon.uniq {a:yC} (h:Canon a):∀ t∈a,∀ u∈a,t.Factors=u.Factors→t=u:=by
 have hp:=h.asc;clear h;induction a with
 | nil=>intro t ht; cases ht
 | cons x r ih=>
  have hp:=qi.1 hp
  have ne:∀ g∈r,x.Factors≠g.Factors:=fun g hg e=>by
   have:=hp.1 g hg;rw [e,ordL.refl] at this; omega
  intro f hf g hg e;rcases qd.1 hf with e1 | hf1
  ·rcases qd.1 hg with e2 | hg1
   ·rw [e1,e2]
   ·rw [e1] at e; exact absurd e (ne g hg1)
  ·rcases qd.1 hg with e2 | hg1
   ·rw [e2] at e; exact absurd e.symm (ne f hf1)
   ·exact ih hp.2 f hf1 g hg1 e
def minT (a:yC) (t:Term):Bool:=a.all fun u=> !dvF u.Factors t.Factors||decide (u.Factors=t.Factors)
theorem zZS {a:yC} {t:Term}:minT a t=true↔∀ u∈a,dvF u.Factors t.Factors=true→u.Factors=t.Factors:=by
 unfold minT;simp only [List.all_eq_true,Bool.or_eq_true,Bool.not_eq_true',qe];constructor
 ·intro h u hu hd;rcases h u hu with h | h
  ·rw [hd] at h; cases h
  ·exact h
 ·intro h u hu;cases hd:dvF u.Factors t.Factors with
  | false=>exact .inl rfl
  | true=>exact .inr (h u hu hd)
def redL (a:yC):yC:=(a.filter (minT a)).map fun t=>⟨1,t.Factors⟩
theorem zqS {a:yC} {t:Term}:t∈redL a↔∃ u∈a,minT a u=true∧t=⟨1,u.Factors⟩:=by
 unfold redL;rw [List.mem_map];constructor
 ·rintro ⟨u,hu,rfl⟩
  have:=List.mem_filter.1 hu;exact ⟨u,this.1,this.2,rfl⟩
 ·rintro ⟨u,h1,h2,rfl⟩
  exact ⟨u,List.mem_filter.2 ⟨h1,h2⟩,rfl⟩
theorem zDL {a:yC} (h:Canon a):Canon (redL a):=by
 refine ⟨?_,fun t ht=> ?_⟩
 ·unfold redL;rw [List.pairwise_map];exact h.asc.filter _
 ·obtain ⟨u,hu,_,rfl⟩:=zqS.1 ht;exact h.fac u hu
theorem z4K {a:yC} (h:Canon a):∀ (n:Nat) (t:Term),t∈a→(a.filter fun u=>dvF u.Factors t.Factors).length≤n→∃ u∈a,minT a u=true∧dvF u.Factors t.Factors=true
 | 0,t,ht,hn=>by
  have:t∈a.filter fun u=>dvF u.Factors t.Factors:=List.mem_filter.2 ⟨ht,zKQ _⟩
  have:=List.length_pos_of_mem this;omega
 | n+1,t,ht,hn=>by
  by_cases hm:minT a t=true
  ·exact ⟨t,ht,hm,zKQ _⟩
  ·have hm:∃ u∈a,dvF u.Factors t.Factors=true∧u.Factors≠t.Factors:=by
    refine Classical.byContradiction fun hc=>hm (zZS.2 fun u hu hd=>Classical.byContradiction fun hne=>hc ⟨u,hu,hd,hne⟩)
   obtain ⟨u,hu,hd,hne⟩:=hm
   have hnd:dvF t.Factors u.Factors=false:=by
    cases hq:dvF t.Factors u.Factors with
    | false=>rfl
    | true=>exact absurd (z0z (h.fac u hu) (h.fac t ht) hd hq) hne
   have hlt:(a.filter fun v=>dvF v.Factors u.Factors).length<(a.filter fun v=>dvF v.Factors t.Factors).length:=by
    have hsub:∀ l:yC,(l.filter fun v=>dvF v.Factors u.Factors).length≤(l.filter fun v=>dvF v.Factors t.Factors).length∧(t∈l→(l.filter fun v=>dvF v.Factors u.Factors).length<(l.filter fun v=>dvF v.Factors t.Factors).length):=by
     intro l;induction l with
     | nil=>exact ⟨Nat.le_refl _,fun h=>by cases h⟩
     | cons x r ih=>
      have step:dvF x.Factors u.Factors=true→dvF x.Factors t.Factors=true:=fun hx=>zNJ hx hd
      by_cases h1:dvF x.Factors u.Factors=true
      ·rw [List.filter_cons_of_pos (by exact h1),List.filter_cons_of_pos (by exact step h1)]
       simp only [qf];refine ⟨by omega,fun hx=> ?_⟩
       rcases qd.1 hx with rfl | hx
       ·rw [hnd] at h1; cases h1
       ·have:=ih.2 hx; omega
      ·rw [List.filter_cons_of_neg (by simpa using h1)]
       by_cases h2:dvF x.Factors t.Factors=true
       ·rw [List.filter_cons_of_pos (by exact h2)]
        simp only [qf];exact ⟨by have:=ih.1; omega,fun _=>by have:=ih.1; omega⟩
       ·rw [List.filter_cons_of_neg (by simpa using h2)]
        refine ⟨ih.1,fun hx=> ?_⟩
        rcases qd.1 hx with rfl | hx
        ·exact absurd (zKQ _) h2
        ·exact ih.2 hx
    exact (hsub a).2 ht
   obtain ⟨w,w1,w2,w3⟩:=z4K h n u hu (by omega)
   exact ⟨w,w1,w2,zNJ w3 hd⟩
def leS (a b:yC):Bool:=a.all fun t=>b.any fun u=>dvF u.Factors t.Factors
theorem zki {a b:yC}:leS a b=true↔∀ t∈a,∃ u∈b,dvF u.Factors t.Factors=true:=by
 unfold leS;simp only [List.all_eq_true,List.any_eq_true]
theorem zbcQ (a:yC):leS a a=true:=zki.2 fun t ht=>⟨t,ht,zKQ _⟩
theorem zGT {a b c:yC} (h1:leS a b=true) (h2:leS b c=true):leS a c=true:=zki.2 fun t ht=>by
 obtain ⟨u,hu,h3⟩:=zki.1 h1 t ht;obtain ⟨v,hv,h4⟩:=zki.1 h2 u hu;exact ⟨v,hv,zNJ h4 h3⟩
theorem z6V {a:yC} (h:Canon a):leS a (redL a)=true:=zki.2 fun t ht=>by
 obtain ⟨u,hu,hm,hd⟩:=z4K h _ t ht (Nat.le_refl _);exact ⟨⟨1,u.Factors⟩,zqS.2 ⟨u,hu,hm,rfl⟩,hd⟩
theorem z7C (a:yC):leS (redL a) a=true:=zki.2 fun t ht=>by
 obtain ⟨u,hu,_,rfl⟩:=zqS.1 ht;exact ⟨u,hu,zKQ _⟩
theorem zbcn {a:yC}:∀ t∈redL a,∀ u∈redL a,dvF u.Factors t.Factors=true→u.Factors=t.Factors:=by
 intro t ht u hu hd;obtain ⟨t',ht',hm,rfl⟩:=zqS.1 ht;obtain ⟨u',hu',_,rfl⟩:=zqS.1 hu;exact zZS.1 hm u' hu' hd
theorem zbbD {a b:yC} (ha:Canon a) (hb:Canon b) (h:∀ t,t∈a↔t∈b):a=b:=by
 have hp:=ha.asc; have hq:=hb.asc;clear ha hb;induction a generalizing b with
 | nil=>
  cases b with
  | nil=>rfl
  | cons y s=>exact absurd ((h y).2 (by simp)) (by simp)
 | cons x r ih=>
  cases b with
  | nil=>exact absurd ((h x).1 (by simp)) (by simp)
  | cons y s=>
   have hp':=qi.1 hp;have hq':=qi.1 hq
   have hxy:x=y:=by
    rcases qd.1 ((h x).1 (by simp)) with e | hx
    ·exact e
    ·rcases qd.1 ((h y).2 (by simp)) with e | hy
     ·exact e.symm
     ·exact absurd (hp'.1 y hy) (ordL.asymm (hq'.1 x hx))
   subst hxy;congr 1;refine ih (fun z=>⟨fun hz=> ?_,fun hz=> ?_⟩) hp'.2 hq'.2
   ·rcases qd.1 ((h z).1 (by simp [hz])) with e | hz'
    ·subst e; exact absurd (hp'.1 _ hz) (ordL.irrefl _)
    ·exact hz'
   ·rcases qd.1 ((h z).2 (by simp [hz])) with e | hz'
    ·subst e; exact absurd (hq'.1 _ hz) (ordL.irrefl _)
    ·exact hz'
theorem zbeE {a b:yC} (ha:Canon a) (hb:Canon b) (h1:leS a b=true) (h2:leS b a=true):redL a=redL b:=by
 have key:∀ {a b:yC},Canon a→Canon b→leS a b=true→leS b a=true→∀ t∈redL a,t∈redL b:=by
  intro a b ha hb h1 h2 t ht;have h3:leS (redL a) (redL b)=true:=zGT (z7C a) (zGT h1 (z6V hb));have h4:leS (redL b) (redL a)=true:=zGT (z7C b) (zGT h2 (z6V ha));obtain ⟨u,hu,hd⟩:=zki.1 h3 t ht;obtain ⟨t',ht',hd'⟩:=zki.1 h4 u hu;have e:=zbcn t ht t' ht' (zNJ hd' hd);have e2:u.Factors=t.Factors:=z0z ((zDL hb).fac u hu) ((zDL ha).fac t ht) hd (by rw [← e]; exact hd')
  obtain ⟨u',_,_,rfl⟩:=zqS.1 hu;obtain ⟨t'',_,_,rfl⟩:=zqS.1 ht;simp only at e2;rw [← e2]; exact hu
 exact zbbD (zDL ha) (zDL hb) fun t=>⟨key ha hb h1 h2 t,key hb ha h2 h1 t⟩
def zbaC (a b s:yC):Prop:=∀ l:yD,(∃ t∈s,t.Factors=l)↔(∃ t∈a,t.Factors=l)∨∃ t∈b,t.Factors=l
theorem zbaC.le {a b s c:yC} (h:zbaC a b s):leS s c=true↔leS a c=true∧leS b c=true:=by
 simp only [zki];constructor
 ·intro hs;refine ⟨fun t ht=> ?_,fun t ht=> ?_⟩
  ·obtain ⟨t',ht',e⟩:=(h t.Factors).2 (.inl ⟨t,ht,rfl⟩);rw [← e]; exact hs t' ht'
  ·obtain ⟨t',ht',e⟩:=(h t.Factors).2 (.inr ⟨t,ht,rfl⟩);rw [← e]; exact hs t' ht'
 ·rintro ⟨h1,h2⟩ t ht
  rcases (h t.Factors).1 ⟨t,ht,rfl⟩ with ⟨u,hu,e⟩ | ⟨u,hu,e⟩
  ·rw [← e]; exact h1 u hu
  ·rw [← e]; exact h2 u hu
end Go.Proofs.YtljlfiomikifjaaGreatDoor
end
