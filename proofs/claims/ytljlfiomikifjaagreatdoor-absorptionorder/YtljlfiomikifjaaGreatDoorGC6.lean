/- Texts of this claim, joined (the program, its functions in plain words, and what they compute). -/
import Derived.Test.YtljlfiomikifjaaGreatDoorGC5
set_option autoImplicit false
set_option linter.unusedVariables false
set_option linter.unusedSectionVars false
set_option linter.unusedSimpArgs false
set_option maxRecDepth 1000000
set_option maxHeartbeats 0
noncomputable section
namespace Go.Proofs.YtljlfiomikifjaaGreatDoor
open Go Go.Ab
abbrev zh5:=yC×Int×Int×Int×Unit×Int×Unit
abbrev zB7:=yC×Int×Int×Int×Atom
abbrev zCf:=yC×Int×Int×Int
abbrev zxt:=yC×Int×Int×Int×Unit
abbrev zCe:=yC×Int×Int
abbrev zxs:=yC×Int×Int×Unit
def zrE (zT:yC→Bool×Int) (a:yC) (n_:Int) (i:Int) (k:Int) (j:Int) (x_:Atom):Wy zh5 (Atom×Unit) zB7:=.i (decide (j<Int.ofNat x_.Args.length)) (.i (decide (0≤j)&&decide (j<Int.ofNat x_.Args.length)) (.bn (zT (x_.Args.getD j.toNat default)) fun r0=>.h (a,(IntKind.i64.wrap (n_+r0)),i,k,(),(IntKind.i64.wrap (j+1)),()) (x_,())) .d) (.k (a,n_,i,k,x_))
def zCC (zT:yC→Bool×Int) (x:zh5) (y:Atom×Unit):Wy zh5 (Atom×Unit) zB7:=zrE zT x.1 x.2.1 x.2.2.1 x.2.2.2.1 x.2.2.2.2.2.1 y.1
def zKW (zT:yC→Bool×Int) (n:Nat) (a:yC) (n_:Int) (i:Int) (k:Int) (j:Int) (x_:Atom):Bool×zB7:=zF (zCC zT) default n (a,n_,i,k,(),j,()) (x_,())
def zYP (r:zB7):LTree ty:=.done (.exit 4) [.sl 28 r.1,.lit (.int .i64 r.2.1),.lit (.int .i64 r.2.2.1),.lit (.int .i64 r.2.2.2.1),.ptr 284 0] [.box (base.enc 67 r.2.2.2.2) false]
def z0X:LL ty zh5:=za (lSl 28) (za lI64 (za lI64 (za lI64 (za (zeJ 284 0) (za lI64 zn)))))
def zq2 (zT:yC→Bool×Int) (a:yC) (n_:Int) (i:Int) (k:Int) (j:Int) (x_:Atom):Wy zh5 (Atom×Unit) zCf:=.i (decide (j<Int.ofNat x_.Items.length)) (.i (decide (0≤j)&&decide (j<Int.ofNat x_.Items.length)) (.bn (zT (x_.Items.getD j.toNat default).Ann) fun r2=>.h (a,(IntKind.i64.wrap (IntKind.i64.wrap (n_+1)+r2)),i,k,(),(IntKind.i64.wrap (j+1)),()) (x_,())) .d) (.k (a,n_,i,k))
def zCl (zT:yC→Bool×Int) (x:zh5) (y:Atom×Unit):Wy zh5 (Atom×Unit) zCf:=zq2 zT x.1 x.2.1 x.2.2.1 x.2.2.2.1 x.2.2.2.2.2.1 y.1
def zKV (zT:yC→Bool×Int) (n:Nat) (a:yC) (n_:Int) (i:Int) (k:Int) (j:Int) (x_:Atom):Bool×zCf:=zF (zCl zT) default n (a,n_,i,k,(),j,()) (x_,())
def zYW (r:zCf):LTree ty:=.done (.exit 6) [.sl 28 r.1,.lit (.int .i64 r.2.1),.lit (.int .i64 r.2.2.1),.lit (.int .i64 r.2.2.2)] []
def ztA (zT:yC→Bool×Int) (a:yC) (n_:Int) (i:Int) (k:Int):Wy zxt (Unit) zCe:=.i (decide (0≤i)&&decide (i<Int.ofNat a.length)) (.i (decide (k<Int.ofNat (a.getD i.toNat default).Factors.length)) (.i (decide (0≤i)&&decide (i<Int.ofNat a.length)) (.i (decide (0≤k)&&decide (k<Int.ofNat (a.getD i.toNat default).Factors.length)) (.bn (zKW zT ((a.length+(IntKind.i64.wrap (n_+1)).toNat +i.toNat +k.toNat +Int.toNat 0+((a.getD i.toNat default).Factors.getD k.toNat default).Atom.Args.length+((a.getD i.toNat default).Factors.getD k.toNat default).Atom.Items.length+1)+szTs a) a (IntKind.i64.wrap (n_+1)) i k 0 (Atom.mk ((a.getD i.toNat default).Factors.getD k.toNat default).Atom.Kind ((a.getD i.toNat default).Factors.getD k.toNat default).Atom.Row ((a.getD i.toNat default).Factors.getD k.toNat default).Atom.Args ((a.getD i.toNat default).Factors.getD k.toNat default).Atom.Func ((a.getD i.toNat default).Factors.getD k.toNat default).Atom.Items ((a.getD i.toNat default).Factors.getD k.toNat default).Atom.Op ((a.getD i.toNat default).Factors.getD k.toNat default).Atom.Bound)) fun r5=>.bn (zKV zT ((r5.1.length+r5.2.1.toNat +r5.2.2.1.toNat +r5.2.2.2.1.toNat +Int.toNat 0+r5.2.2.2.2.Args.length+r5.2.2.2.2.Items.length+1)+szTs r5.1) r5.1 r5.2.1 r5.2.2.1 r5.2.2.2.1 0 (Atom.mk r5.2.2.2.2.Kind r5.2.2.2.2.Row r5.2.2.2.2.Args r5.2.2.2.2.Func r5.2.2.2.2.Items r5.2.2.2.2.Op r5.2.2.2.2.Bound)) fun r4=>.h ((r4.1),(r4.2.1),(r4.2.2.1),(IntKind.i64.wrap (r4.2.2.2+1)),()) ()) .d) .d) (.k (a,n_,i))) .d
def zDr (zT:yC→Bool×Int) (x:zxt) (y:Unit):Wy zxt (Unit) zCe:=ztA zT x.1 x.2.1 x.2.2.1 x.2.2.2.1
def zN1 (zT:yC→Bool×Int) (n:Nat) (a:yC) (n_:Int) (i:Int) (k:Int):Bool×zCe:=zF (zDr zT) default n (a,n_,i,k,()) ()
def z0d (r:zCe):LTree ty:=.done (.exit 2) [.sl 28 r.1,.lit (.int .i64 r.2.1),.lit (.int .i64 r.2.2)] []
def z1U:LL ty zxt:=za (lSl 28) (za lI64 (za lI64 (za lI64 zn)))
def ztO (zT:yC→Bool×Int) (a:yC) (n_:Int) (i:Int):Wy zxs (Unit) (Int):=.i (decide (i<Int.ofNat a.length)) (.bn (zN1 zT ((a.length+(IntKind.i64.wrap (n_+1)).toNat +i.toNat +Int.toNat 0+1)+szTs a) a (IntKind.i64.wrap (n_+1)) i 0) fun r8=>.h ((r8.1),(r8.2.1),(IntKind.i64.wrap (r8.2.2+1)),()) ()) (.k n_)
def zDv (zT:yC→Bool×Int) (x:zxs) (y:Unit):Wy zxs (Unit) (Int):=ztO zT x.1 x.2.1 x.2.2.1
def zNV (zT:yC→Bool×Int) (n:Nat) (a:yC) (n_:Int) (i:Int):Bool×Int:=zF (zDv zT) default n (a,n_,i,()) ()
def z3q:LL ty zxs:=za (lSl 28) (za lI64 (za lI64 zn))
def zYx (x:zh5) (y:Atom×Unit):Nat:=((x.1.length+Int.toNat x.2.1+Int.toNat x.2.2.1+Int.toNat x.2.2.2.1+Int.toNat x.2.2.2.2.2.1+y.1.Args.length+y.1.Items.length+1)+szTs x.1)
def z1i (x:zxt) (y:Unit):Nat:=((x.1.length+Int.toNat x.2.1+Int.toNat x.2.2.1+Int.toNat x.2.2.2.1+1)+szTs x.1)
def z1g (x:zxs) (y:Unit):Nat:=((x.1.length+Int.toNat x.2.1+Int.toNat x.2.2.1+1)+szTs x.1)
def ztG (zT:yC→Bool×Int):Cx ty:=mkCx base 71 [(109,(zoI zT))] [] [(3,(kpL [0,3,4])),(7,(kpL [0,3,4,5])),(12,(kpL [0,3,4,5,6,7])),(16,(kpL [0,3,4,5,6,8]))] [(3,1,(kpL [3])),(7,3,(kpL [0,3,4])),(12,5,(kpL [0,3,4,5,6])),(16,7,(kpL [0,3,4,5]))] [(12,spW z0X zUD (zCC zT) default zYP zYx),(16,spW z0X zUD (zCl zT) default zYW zYx),(7,spW z1U z6c (zDr zT) default z0d z1i),(3,spW z3q z6c (zDv zT) default zQr z1g)] []
theorem zYH (zT:yC→Bool×Int):zK (ztG zT) (lp (body Tryz.f109) 2):=zu (id:=12) (hl:=rfl)
theorem zXN (zT:yC→Bool×Int):zK (ztG zT) (lp (body Tryz.f109) 3):=zu (id:=16) (hl:=rfl)
theorem z0J (zT:yC→Bool×Int):zK (ztG zT) (lp (body Tryz.f109) 1):=zu (id:=7) (hl:=rfl)
theorem z0G (zT:yC→Bool×Int):zK (ztG zT) (lp (body Tryz.f109) 0):=zu (id:=3) (hl:=rfl)
def zQM (zT:yC→Bool×Int) (a:yC):Wy0 (Int):=.bn (zNV zT ((a.length+Int.toNat 0+Int.toNat 0+1)+szTs a) a 0 0) fun r10=>.k r10
def zDW (zT:yC→Bool×Int) (a:yC):Bool×Int:=(zQM zT a).fin default
theorem zVs (zT:yC→Bool×Int) (z4a:SdP 109 (zoI zT)):SdP 109 (zoI (zDW zT)):=
 sW (cx':=(ztG zT)) zr zi zk (zj ⟨z4a,trivial⟩) Tryz.call109 Tryz.func109 (c:=body Tryz.f109) (lOK (aC (z0G zT) (aC (z0J zT) (aC (zYH zT) (aC (zXN zT) aN)))))
def z5d:Nat→(yC→Bool×Int)
 | 0=>fun _=>(false,default)
 | n+1=>zDW (z5d n)
def zvW (n:Nat):yC→Bool×Int:=z5d n
theorem z1Y (n:Nat):zvW (n+1)=zDW (zvW n):=rfl
theorem zZt:∀ n,SdP 109 (zoI (zvW n))
 | 0=>z6 Tryz.call109 (fun _=>rfl)
 | n+1=>by
  have ih:=zZt n;exact zVs _ (ih)
def zRe:yC→Bool×Int:=zvW 1000
def ref05_Size_spec:Ab.Spec ty:=zoI zRe
theorem z1c:SdP 109 ref05_Size_spec:=(zZt 1000)
abbrev zxF:=yC×Int×Int×Unit
abbrev zCd:=Bool⊕(yC×Int)
abbrev zx3:=yC×Int×Unit
def zx2 (a:yC) (i:Int) (k:Int):Wy zxF (Unit) zCd:=.i (decide (0≤i)&&decide (i<Int.ofNat a.length)) (.i (decide (k<Int.ofNat (a.getD i.toNat default).Factors.length)) (.i (decide (0≤i)&&decide (i<Int.ofNat a.length)) (.i (decide (0≤k)&&decide (k<Int.ofNat (a.getD i.toNat default).Factors.length)) (.i (decide (((a.getD i.toNat default).Factors.getD k.toNat default).Exp>64)) (.k (.inl false)) (.i (decide (0≤i)&&decide (i<Int.ofNat a.length)) (.i (decide (0≤k)&&decide (k<Int.ofNat (a.getD i.toNat default).Factors.length)) (.i (decide (Int.ofNat ((a.getD i.toNat default).Factors.getD k.toNat default).Atom.Items.length>1024)) (.k (.inl false)) (.h (a,i,(IntKind.i64.wrap (k+1)),()) ())) .d) .d)) .d) .d) (.k (.inr (a,i)))) .d
def zIN (x:zxF) (y:Unit):Wy zxF (Unit) zCd:=zx2 x.1 x.2.1 x.2.2.1
def zTn (n:Nat) (a:yC) (i:Int) (k:Int):Bool×zCd:=zF (zIN) (.inl default) n (a,i,k,()) ()
def z4D (r:zCd):LTree ty:=.ite (isL r) (.done .ret [.lit (.bool (getL r))] []) (.done (.exit 2) [.sl 28 (getR r).1,.lit (.int .i64 (getR r).2)] [])
def z5U:LL ty zxF:=za (lSl 28) (za lI64 (za lI64 zn))
def zxB (a:yC) (i:Int):Wy zx3 (Unit) (Bool⊕Unit):=.i (decide (i<Int.ofNat a.length)) (.i (decide (0≤i)&&decide (i<Int.ofNat a.length)) (.i (decide (Int.ofNat (a.getD i.toNat default).Factors.length>64)) (.k (.inl false)) (.bn (zTn ((a.length+i.toNat +Int.toNat 0+1)+szTs a) a i 0) fun r0=>.i (isL r0) (.k (.inl (getL r0))) (.h ((getR r0).1,(IntKind.i64.wrap ((getR r0).2+1)),()) ()))) .d) (.k (.inr ()))
def zIB (x:zx3) (y:Unit):Wy zx3 (Unit) (Bool⊕Unit):=zxB x.1 x.2.1
def zTg (n:Nat) (a:yC) (i:Int):Bool×(Bool⊕Unit):=zF (zIB) (.inl default) n (a,i,()) ()
def z6k:LL ty zx3:=za (lSl 28) (za lI64 zn)
def z4p (x:zxF) (y:Unit):Nat:=((x.1.length+Int.toNat x.2.1+Int.toNat x.2.2.1+1)+szTs x.1)
def z4r (x:zx3) (y:Unit):Nat:=((x.1.length+Int.toNat x.2.1+1)+szTs x.1)
def zIm:Cx ty:=mkCx base 65 [(108,ref05_Nesting_spec),(109,ref05_Size_spec)] [] [(4,(kpL [0,3])),(9,(kpL [0,3,4]))] [(4,1,[]),(4,0,(kpL [2])),(9,3,(kpL [0,3])),(9,0,(kpL [2]))] [(9,spW z5U z6c (zIN) (.inl default) z4D z4p),(4,spW z6k z6c (zIB) (.inl default) zOp z4r)] []
theorem z3P:zK zIm (lp (body Tryz.f54) 1):=zu (id:=9) (hl:=rfl)
theorem z4P:zK zIm (lp (body Tryz.f54) 0):=zu (id:=4) (hl:=rfl)
def zWQ (a:yC):Wy0 (Bool):=.i (decide (Int.ofNat a.length>512)) (.k false) (.bn (zHY a) fun r4=>.i (decide (r4>8)) (.k false) (.bn (zRe a) fun r3=>.i (decide (r3>4096)) (.k false) (.bn (zTg ((a.length+Int.toNat 0+1)+szTs a) a 0) fun r2=>.i (isL r2) (.k (getL r2)) (.k true))))
def zAN (a:yC):Bool×Bool:=(zWQ a).fin default
def zEq:Ab.Spec ty:=zh zU2 fun x=>((zAN x.1).1,zTU (zAN x.1).2)
theorem zLZ:SdP 54 zEq:=
 sW (cx':=zIm) zr zi zk (zj ⟨zUy,z1c,trivial⟩) Tryz.call54 Tryz.func54 (c:=body Tryz.f54) (lOK (aC z4P (aC z3P aN)))
abbrev zvR:=yC×Int×Unit×Int×Unit
abbrev zAU:=Bool⊕(yC×Int)
abbrev zvT:=yC×Int×Unit
def zoD (zX:Atom→Bool×Bool) (a:yC) (i:Int) (k:Int) (t:Term):Wy zvR (Term×Unit) zAU:=.i (decide (k<Int.ofNat t.Factors.length)) (.i (decide (0≤k)&&decide (k<Int.ofNat t.Factors.length)) (.i (decide ((t.Factors.getD k.toNat default).Exp<1)) (.k (.inl false)) (.i (decide ((t.Factors.getD k.toNat default).Exp>1)) (.i (decide ((t.Factors.getD k.toNat default).Atom.Kind≥3)) (.k (.inl false)) (.bn (zX (Atom.mk (t.Factors.getD k.toNat default).Atom.Kind (t.Factors.getD k.toNat default).Atom.Row (t.Factors.getD k.toNat default).Atom.Args (t.Factors.getD k.toNat default).Atom.Func (t.Factors.getD k.toNat default).Atom.Items (t.Factors.getD k.toNat default).Atom.Op (t.Factors.getD k.toNat default).Atom.Bound)) fun r1=>.i (!r1) (.k (.inl false)) (.i (decide (k>0)) (.i (decide (0≤IntKind.i64.wrap (k - 1))&&decide (IntKind.i64.wrap (k - 1)<Int.ofNat t.Factors.length)) (.bn (zjc (Atom.mk (t.Factors.getD (IntKind.i64.wrap (k - 1)).toNat default).Atom.Kind (t.Factors.getD (IntKind.i64.wrap (k - 1)).toNat default).Atom.Row (t.Factors.getD (IntKind.i64.wrap (k - 1)).toNat default).Atom.Args (t.Factors.getD (IntKind.i64.wrap (k - 1)).toNat default).Atom.Func (t.Factors.getD (IntKind.i64.wrap (k - 1)).toNat default).Atom.Items (t.Factors.getD (IntKind.i64.wrap (k - 1)).toNat default).Atom.Op (t.Factors.getD (IntKind.i64.wrap (k - 1)).toNat default).Atom.Bound) (Atom.mk (t.Factors.getD k.toNat default).Atom.Kind (t.Factors.getD k.toNat default).Atom.Row (t.Factors.getD k.toNat default).Atom.Args (t.Factors.getD k.toNat default).Atom.Func (t.Factors.getD k.toNat default).Atom.Items (t.Factors.getD k.toNat default).Atom.Op (t.Factors.getD k.toNat default).Atom.Bound)) fun r0=>.i (decide (r0≥0)) (.k (.inl false)) (.h (a,i,(),(IntKind.i64.wrap (k+1)),()) (t,()))) .d) (.h (a,i,(),(IntKind.i64.wrap (k+1)),()) (t,()))))) (.bn (zX (Atom.mk (t.Factors.getD k.toNat default).Atom.Kind (t.Factors.getD k.toNat default).Atom.Row (t.Factors.getD k.toNat default).Atom.Args (t.Factors.getD k.toNat default).Atom.Func (t.Factors.getD k.toNat default).Atom.Items (t.Factors.getD k.toNat default).Atom.Op (t.Factors.getD k.toNat default).Atom.Bound)) fun r3=>.i (!r3) (.k (.inl false)) (.i (decide (k>0)) (.i (decide (0≤IntKind.i64.wrap (k - 1))&&decide (IntKind.i64.wrap (k - 1)<Int.ofNat t.Factors.length)) (.bn (zjc (Atom.mk (t.Factors.getD (IntKind.i64.wrap (k - 1)).toNat default).Atom.Kind (t.Factors.getD (IntKind.i64.wrap (k - 1)).toNat default).Atom.Row (t.Factors.getD (IntKind.i64.wrap (k - 1)).toNat default).Atom.Args (t.Factors.getD (IntKind.i64.wrap (k - 1)).toNat default).Atom.Func (t.Factors.getD (IntKind.i64.wrap (k - 1)).toNat default).Atom.Items (t.Factors.getD (IntKind.i64.wrap (k - 1)).toNat default).Atom.Op (t.Factors.getD (IntKind.i64.wrap (k - 1)).toNat default).Atom.Bound) (Atom.mk (t.Factors.getD k.toNat default).Atom.Kind (t.Factors.getD k.toNat default).Atom.Row (t.Factors.getD k.toNat default).Atom.Args (t.Factors.getD k.toNat default).Atom.Func (t.Factors.getD k.toNat default).Atom.Items (t.Factors.getD k.toNat default).Atom.Op (t.Factors.getD k.toNat default).Atom.Bound)) fun r2=>.i (decide (r2≥0)) (.k (.inl false)) (.h (a,i,(),(IntKind.i64.wrap (k+1)),()) (t,()))) .d) (.h (a,i,(),(IntKind.i64.wrap (k+1)),()) (t,())))))) .d) (.k (.inr (a,i)))
def zBy (zX:Atom→Bool×Bool) (x:zvR) (y:Term×Unit):Wy zvR (Term×Unit) zAU:=zoD zX x.1 x.2.1 x.2.2.2.1 y.1
def zBA (zX:Atom→Bool×Bool) (n:Nat) (a:yC) (i:Int) (k:Int) (t:Term):Bool×zAU:=zF (zBy zX) (.inl default) n (a,i,(),k,()) (t,())
def zVL (r:zAU):LTree ty:=.ite (isL r) (.done .ret [.lit (.bool (getL r))] []) (.done (.exit 2) [.sl 28 (getR r).1,.lit (.int .i64 (getR r).2)] [])
def zYK:LL ty zvR:=za (lSl 28) (za lI64 (za (zeJ 372 0) (za lI64 zn)))
def zqT (zX:Atom→Bool×Bool) (a:yC) (i:Int):Wy zvT (Unit) (Bool⊕Unit):=.i (decide (i<Int.ofNat a.length)) (.i (decide (0≤i)&&decide (i<Int.ofNat a.length)) (.i (decide ((a.getD i.toNat default).Coeff<1)) (.k (.inl false)) (.i (decide ((a.getD i.toNat default).Coeff>1152921504606846976)) (.k (.inl false)) (.i (decide (i>0)) (.i (decide (0≤IntKind.i64.wrap (i - 1))&&decide (IntKind.i64.wrap (i - 1)<Int.ofNat a.length)) (.bn (zkY (a.getD (IntKind.i64.wrap (i - 1)).toNat default).Factors (a.getD i.toNat default).Factors) fun r9=>.i (decide (r9≥0)) (.k (.inl false)) (.bn (zBA zX ((a.length+i.toNat +Int.toNat 0+(a.getD i.toNat default).Factors.length+1)+szTs a) a i 0 (a.getD i.toNat default)) fun r8=>.i (isL r8) (.k (.inl (getL r8))) (.h ((getR r8).1,(IntKind.i64.wrap ((getR r8).2+1)),()) ()))) .d) (.bn (zBA zX ((a.length+i.toNat +Int.toNat 0+(a.getD i.toNat default).Factors.length+1)+szTs a) a i 0 (a.getD i.toNat default)) fun r10=>.i (isL r10) (.k (.inl (getL r10))) (.h ((getR r10).1,(IntKind.i64.wrap ((getR r10).2+1)),()) ()))))) .d) (.k (.inr ()))
def zCu (zX:Atom→Bool×Bool) (x:zvT) (y:Unit):Wy zvT (Unit) (Bool⊕Unit):=zqT zX x.1 x.2.1
def zLO (zX:Atom→Bool×Bool) (n:Nat) (a:yC) (i:Int):Bool×(Bool⊕Unit):=zF (zCu zX) (.inl default) n (a,i,()) ()
def z0z:LL ty zvT:=za (lSl 28) (za lI64 zn)
def zVF (x:zvR) (y:Term×Unit):Nat:=((x.1.length+Int.toNat x.2.1+Int.toNat x.2.2.2.1+y.1.Factors.length+1)+szTs x.1)
def zYm (x:zvT) (y:Unit):Nat:=((x.1.length+Int.toNat x.2.1+1)+szTs x.1)
def zCo (zX:Atom→Bool×Bool):Cx ty:=mkCx base 93 [(34,ref05_CompareFactors_spec),(53,ref05_CompareAtom_spec),(54,zEq),(55,(zmU zX))] [] [(4,(kpL [0,3])),(10,(kpL [0,3,4,5]))] [(4,1,[]),(4,0,(kpL [2])),(10,3,(kpL [0,3])),(10,0,(kpL [2]))] [(10,spW zYK zQR (zBy zX) (.inl default) zVL zVF),(4,spW z0z z6c (zCu zX) (.inl default) zOp zYm)] []
theorem zV1 (zX:Atom→Bool×Bool):zK (zCo zX) (lp (body Tryz.f16) 1):=zu (id:=10) (hl:=rfl)
theorem zY7 (zX:Atom→Bool×Bool):zK (zCo zX) (lp (body Tryz.f16) 0):=zu (id:=4) (hl:=rfl)
def zNz (zX:Atom→Bool×Bool) (a:yC):Wy0 (Bool):=.bn (zAN a) fun r15=>.i (!r15) (.k false) (.bn (zLO zX ((a.length+Int.toNat 0+1)+szTs a) a 0) fun r14=>.i (isL r14) (.k (getL r14)) (.k true))
def zxT (zX:Atom→Bool×Bool) (a:yC):Bool×Bool:=(zNz zX a).fin default
theorem zUq (zX:Atom→Bool×Bool) (zTS:SdP 55 (zmU zX)):SdP 16 (zhF (zxT zX)):=
 sW (cx':=(zCo zX)) zr zi zk (zj ⟨zxw,zsJ,zLZ,zTS,trivial⟩) Tryz.call16 Tryz.func16 (c:=body Tryz.f16) (lOK (aC (zY7 zX) (aC (zV1 zX) aN)))
def z6l:Cx ty:=mkCx base 9 [(89,ref05_Compare_spec)] [] [] [] [] []
def zU0 (a:yC) (b:yC):Wy0 (Bool):=.bn (zIx a b) fun r0=>.k (r0==0)
def ztg (a:yC) (b:yC):Bool×Bool:=(zU0 a b).fin default
def zEp:Ab.Spec ty:=zh zRZ fun x=>((ztg x.1 x.2.1).1,zTU (ztg x.1 x.2.1).2)
theorem zL4:SdP 30 zEp:=
 sW (cx':=z6l) zr zi zk (zj ⟨zUg,trivial⟩) Tryz.call30 Tryz.func30 (c:=body Tryz.f30) (lOK aN)
def z2P:Cx ty:=mkCx base 42 [] [] [] [] [] []
def zPM (a:yC):Wy0 (Bool):=.i (Int.ofNat a.length==1) (.i (decide ((0:Int)≤(0:Int))&&decide (0<Int.ofNat a.length)) (.i ((a.getD (Int.toNat 0) default).Coeff==1) (.i (decide ((0:Int)≤(0:Int))&&decide (0<Int.ofNat a.length)) (.i (Int.ofNat (a.getD (Int.toNat 0) default).Factors.length==1) (.i (decide ((0:Int)≤(0:Int))&&decide (0<Int.ofNat a.length)) (.i (decide ((0:Int)≤(0:Int))&&decide (0<Int.ofNat (a.getD (Int.toNat 0) default).Factors.length)) (.i (decide (((a.getD (Int.toNat 0) default).Factors.getD (Int.toNat 0) default).Atom.Kind≥2)) (.i (decide ((0:Int)≤(0:Int))&&decide (0<Int.ofNat a.length)) (.i (decide ((0:Int)≤(0:Int))&&decide (0<Int.ofNat (a.getD (Int.toNat 0) default).Factors.length)) (.k (((a.getD (Int.toNat 0) default).Factors.getD (Int.toNat 0) default).Exp==1)) .d) .d) (.k false)) .d) .d) (.k false)) .d) (.k false)) .d) (.k false)
def zqx (a:yC):Bool×Bool:=(zPM a).fin default
def zBg:Ab.Spec ty:=zh zU2 fun x=>((zqx x.1).1,zTU (zqx x.1).2)
theorem zHu:SdP 99 zBg:=
 sW (cx':=z2P) zr zi zk (zj trivial) Tryz.call99 Tryz.func99 (c:=body Tryz.f99) (lOK aN)
abbrev zuS:=yC×Int×Unit
def zoH (a:yC) (i:Int):Wy zuS (Unit) (Bool⊕Unit):=.i (decide (i<Int.ofNat a.length)) (.i (decide (0≤i)&&decide (i<Int.ofNat a.length)) (.i (Int.ofNat (a.getD i.toNat default).Factors.length==0) (.k (.inl true)) (.h (a,(IntKind.i64.wrap (i+1)),()) ())) .d) (.k (.inr ()))
def zBk (x:zuS) (y:Unit):Wy zuS (Unit) (Bool⊕Unit):=zoH x.1 x.2.1
def zIV (n:Nat) (a:yC) (i:Int):Bool×(Bool⊕Unit):=zF (zBk) (.inl default) n (a,i,()) ()
def zYa:LL ty zuS:=za (lSl 28) (za lI64 zn)
def zI5:Cx ty:=mkCx base 17 [] [] [(2,(kpL [0,3]))] [(2,1,[]),(2,0,(kpL [2]))] [(2,spW zYa z6c (zBk) (.inl default) zOp fun x y=>(x.1.length+Int.toNat x.2.1+1))] []
theorem zUT:zK zI5 (lp (body Tryz.f100) 0):=zu (id:=2) (hl:=rfl)
def zKN (a:yC):Wy0 (Bool):=.bn (zIV (a.length+Int.toNat 0+1) a 0) fun r0=>.i (isL r0) (.k (getL r0)) (.k false)
def ziD (a:yC):Bool×Bool:=(zKN a).fin default
def zyD:Ab.Spec ty:=zh zU2 fun x=>((ziD x.1).1,zTU (ziD x.1).2)
theorem zEv:SdP 100 zyD:=
 sW (cx':=zI5) zr zi zk (zj trivial) Tryz.call100 Tryz.func100 (c:=body Tryz.f100) (lOK (aC zUT aN))
def z3Y:Cx ty:=mkCx base 36 [] [] [] [] [] []
def zTi (v:Value):Wy0 (Bool):=.i (v.Kind==0) (.k (v.Text.toList==(ByteArray.mk #[]).toList)) (.i (v.Kind==1) (.i (v.Int==0) (.k (decide (Int.ofNat v.Text.size≤255))) (.k false)) (.i (v.Kind==2) (.i (v.Text.toList==(ByteArray.mk #[]).toList) (.i (v.Int==0) (.k true) (.k (v.Int==1))) (.k false)) (.k false)))
def zyg (v:Value):Bool×Bool:=(zTi v).fin default
def zLP:Ab.Spec ty:=zh z6r fun x=>((zyg x.1).1,zTU (zyg x.1).2)
theorem zYJ:SdP 158 zLP:=
 sW (cx':=z3Y) zr zi zk (zj trivial) Tryz.call158 Tryz.func158 (c:=body Tryz.f158) (lOK aN)
abbrev zvk:=Int×yE×Unit×Int×Unit
def zu3 (fn:Int) (items:yE) (i:Int) (bound:Value):Wy zvk (Value×Unit) (Bool⊕Unit):=.i (decide (i<Int.ofNat items.length)) (.i (decide (0≤i)&&decide (i<Int.ofNat items.length)) (.bn (zyg (items.getD i.toNat default).Value) fun r0=>.i (!r0) (.k (.inl false)) (.i ((items.getD i.toNat default).Value.Kind != bound.Kind) (.k (.inl false)) (.i (fn==0) (.i ((items.getD i.toNat default).Value.Int != 1) (.k (.inl false)) (.h (fn,items,(),(IntKind.i64.wrap (i+1)),()) (bound,()))) (.h (fn,items,(),(IntKind.i64.wrap (i+1)),()) (bound,()))))) .d) (.k (.inr ()))
def zFB (x:zvk) (y:Value×Unit):Wy zvk (Value×Unit) (Bool⊕Unit):=zu3 x.1 x.2.1 x.2.2.2.1 y.1
def zFf (n:Nat) (fn:Int) (items:yE) (i:Int) (bound:Value):Bool×(Bool⊕Unit):=zF (zFB) (.inl default) n (fn,items,(),i,()) (bound,())
def z4y:LL ty zvk:=za lI64 (za (lSl 100) (za (zeJ 276 0) (za lI64 zn)))
def z3J:BL ty (Value×Unit):=bBox (zfl (fun x=>(⟨x.1,x.2.1,x.2.2.1⟩:Value)) (fun x=>(x.Kind,x.Int,x.Text,())) (fun _=>rfl) (za (lInt .i64) (za (lInt .i64) (za lStr zn)))) false (bNil)
def z1x (x:zvk) (y:Value×Unit):Nat:=(Int.toNat x.1+x.2.1.length+Int.toNat x.2.2.2.1+1)
def zQx:Cx ty:=mkCx base 69 [(158,zLP)] [] [(4,(kpL [0,1,7,9]))] [(4,1,[]),(4,0,(kpL [8]))] [(4,spW z4y z3J (zFB) (.inl default) zOp z1x)] []
theorem z1W:zK zQx (lp (body Tryz.f111) 0):=zu (id:=4) (hl:=rfl)
def zTw (fn:Int) (items:yE) (op:Int) (bound:Value):Wy0 (Bool):=.i (decide (fn<0)) (.k false) (.i (decide (fn>3)) (.k false) (.i (decide (op<5)) (.k false) (.i (decide (op>10)) (.k false) (.bn (zyg bound) fun r4=>.i (!r4) (.k false) (.i (decide (fn≤1)) (.i (bound.Kind != 0) (.k false) (.bn (zFf (fn.toNat +items.length+Int.toNat 0+1) fn items 0 bound) fun r2=>.i (isL r2) (.k (getL r2)) (.k true))) (.bn (zFf (fn.toNat +items.length+Int.toNat 0+1) fn items 0 bound) fun r3=>.i (isL r3) (.k (getL r3)) (.k true)))))))
def zyf (fn:Int) (items:yE) (op:Int) (bound:Value):Bool×Bool:=(zTw fn items op bound).fin default
def zLW:Ab.Spec ty:=zh zRQ fun x=>((zyf x.1 x.2.1 x.2.2.1 x.2.2.2.1).1,zTU (zyf x.1 x.2.1 x.2.2.1 x.2.2.2.1).2)
theorem zYM:SdP 111 zLW:=
 sW (cx':=zQx) zr zi zk (zj ⟨zYJ,trivial⟩) Tryz.call111 Tryz.func111 (c:=body Tryz.f111) (lOK (aC z1W aN))
def z4H:Cx ty:=mkCx base 23 [] [] [] [] [] []
def zTq (x_:Atom):Wy0 (Bool):=.i (x_.Func==0) (.i (Int.ofNat x_.Items.length==0) (.i (x_.Op==0) (.k (x_.Bound.Kind==0&&(x_.Bound.Int==0&&(x_.Bound.Text.toList==(ByteArray.mk #[]).toList&&true)))) (.k false)) (.k false)) (.k false)
def zpT (x_:Atom):Bool×Bool:=(zTq x_).fin default
def zKA:Ab.Spec ty:=zh zBK fun x=>((zpT x.1).1,zTU (zpT x.1).2)
theorem zX7:SdP 110 zKA:=
 sW (cx':=z4H) zr zi zk (zj trivial) Tryz.call110 Tryz.func110 (c:=body Tryz.f110) (lOK aN)
abbrev zev:=Unit×Int×Unit
def zlE (zbt:yC→Bool×Bool) (i:Int) (x_:Atom):Wy zev (Atom×Unit) (Bool⊕Atom):=.i (decide (i<Int.ofNat x_.Args.length)) (.i (decide (0≤i)&&decide (i<Int.ofNat x_.Args.length)) (.i (Int.ofNat (List.length (x_.Args.getD i.toNat default))==0) (.k (.inl false)) (.i (decide (0≤i)&&decide (i<Int.ofNat x_.Args.length)) (.bn (zbt (x_.Args.getD i.toNat default)) fun r0=>.i (!r0) (.k (.inl false)) (.h ((),(IntKind.i64.wrap (i+1)),()) (x_,()))) .d)) .d) (.k (.inr x_))
def zwA (zbt:yC→Bool×Bool) (x:zev) (y:Atom×Unit):Wy zev (Atom×Unit) (Bool⊕Atom):=zlE zbt x.2.1 y.1
def zw1 (zbt:yC→Bool×Bool) (n:Nat) (i:Int) (x_:Atom):Bool×(Bool⊕Atom):=zF (zwA zbt) (.inl default) n ((),i,()) (x_,())
def zP5 (r:Bool⊕Atom):LTree ty:=.ite (isL r) (.done .ret [.lit (.bool (getL r))] []) (.done (.exit 0) [.ptr 824 0] [.box (base.enc 67 (getR r)) false])
def zSJ:LL ty zev:=za (zeJ 824 0) (za lI64 zn)
def zj7 (zbt:yC→Bool×Bool) (i:Int) (x_:Atom):Wy zev (Atom×Unit) (Bool⊕Unit):=.i (decide (i<Int.ofNat x_.Items.length)) (.i (decide (0≤i)&&decide (i<Int.ofNat x_.Items.length)) (.i (Int.ofNat (x_.Items.getD i.toNat default).Ann.length==0) (.k (.inl false)) (.i (decide (0≤i)&&decide (i<Int.ofNat x_.Items.length)) (.bn (zbt (x_.Items.getD i.toNat default).Ann) fun r3=>.i (!r3) (.k (.inl false)) (.i (decide (i>0)) (.i (decide (0≤IntKind.i64.wrap (i - 1))&&decide (IntKind.i64.wrap (i - 1)≤i)&&decide (i≤Int.ofNat x_.Items.length)) (.i (decide (0≤i)&&decide (i≤IntKind.i64.wrap (i+1))&&decide (IntKind.i64.wrap (i+1)≤Int.ofNat x_.Items.length)) (.bn (zty (List.take (i.toNat - (IntKind.i64.wrap (i - 1)).toNat) (List.drop (IntKind.i64.wrap (i - 1)).toNat x_.Items)) (List.take ((IntKind.i64.wrap (i+1)).toNat - i.toNat) (List.drop i.toNat x_.Items))) fun r2=>.i (decide (r2>0)) (.k (.inl false)) (.h ((),(IntKind.i64.wrap (i+1)),()) (x_,()))) .d) .d) (.h ((),(IntKind.i64.wrap (i+1)),()) (x_,())))) .d)) .d) (.k (.inr ()))
def zvD (zbt:yC→Bool×Bool) (x:zev) (y:Atom×Unit):Wy zev (Atom×Unit) (Bool⊕Unit):=zj7 zbt x.2.1 y.1
def zCS (zbt:yC→Bool×Bool) (n:Nat) (i:Int) (x_:Atom):Bool×(Bool⊕Unit):=zF (zvD zbt) (.inl default) n ((),i,()) (x_,())
def zOJ (r:Bool⊕Unit):LTree ty:=.ite (isL r) (.done .ret [.lit (.bool (getL r))] []) (.done (.exit 3) [] [])
def zQW (x:zev) (y:Atom×Unit):Nat:=(Int.toNat x.2.1+y.1.Args.length+y.1.Items.length+1)
def zw3 (zbt:yC→Bool×Bool):Cx ty:=mkCx base 206 [(16,(zhF zbt)),(30,zEp),(99,zBg),(100,zyD),(106,ref05_CompareItems_spec),(110,zKA),(111,zLW)] [] [(6,(kpL [1,3])),(21,(kpL [1,4]))] [(6,1,(kpL [1])),(6,0,(kpL [2])),(21,4,[]),(21,0,(kpL [2]))] [(6,spW zSJ zUD (zwA zbt) (.inl default) zP5 zQW),(21,spW zSJ zUD (zvD zbt) (.inl default) zOJ zQW)] []
theorem zQo (zbt:yC→Bool×Bool):zK (zw3 zbt) (lp (body Tryz.f55) 0):=zu (id:=6) (hl:=rfl)
theorem zOD (zbt:yC→Bool×Bool):zK (zw3 zbt) (lp (body Tryz.f55) 1):=zu (id:=21) (hl:=rfl)
def zEQ (zbt:yC→Bool×Bool) (x_:Atom):Wy0 (Bool):=.i (x_.Kind==0) (.i (decide (x_.Row.Table≥1)) (.i (decide (x_.Row.Seq≥1)) (.i (Int.ofNat x_.Args.length==0) (.bn (zpT (Atom.mk x_.Kind x_.Row x_.Args x_.Func x_.Items x_.Op x_.Bound)) fun r6=>.k r6) (.k false)) (.k false)) (.k false)) (.i (!(x_.Row.Table==0&&(x_.Row.Seq==0&&true))) (.k false) (.bn (zw1 zbt (Int.toNat 0+x_.Args.length+x_.Items.length+1) 0 (Atom.mk x_.Kind x_.Row x_.Args x_.Func x_.Items x_.Op x_.Bound)) fun r17=>.i (isL r17) (.k (getL r17)) (.i ((getR r17).Kind==1) (.i (Int.ofNat (getR r17).Args.length==2) (.bn (zpT (Atom.mk (getR r17).Kind (getR r17).Row (getR r17).Args (getR r17).Func (getR r17).Items (getR r17).Op (getR r17).Bound)) fun r8=>.i (r8) (.i (decide ((0:Int)≤(0:Int))&&decide (0<Int.ofNat (getR r17).Args.length)) (.i (decide ((0:Int)≤(1:Int))&&decide (1<Int.ofNat (getR r17).Args.length)) (.bn (ztg ((getR r17).Args.getD (Int.toNat 0) default) ((getR r17).Args.getD (Int.toNat 1) default)) fun r7=>.k (!r7)) .d) .d) (.k false)) (.k false)) (.i ((getR r17).Kind==2) (.i (Int.ofNat (getR r17).Args.length==1) (.bn (zpT (Atom.mk (getR r17).Kind (getR r17).Row (getR r17).Args (getR r17).Func (getR r17).Items (getR r17).Op (getR r17).Bound)) fun r12=>.i (r12) (.i (decide ((0:Int)≤(0:Int))&&decide (0<Int.ofNat (getR r17).Args.length)) (.i (Int.ofNat (List.length ((getR r17).Args.getD (Int.toNat 0) default))==1) (.i (decide ((0:Int)≤(0:Int))&&decide (0<Int.ofNat (getR r17).Args.length)) (.bn (ziD ((getR r17).Args.getD (Int.toNat 0) default)) fun r10=>.i (!r10) (.i (decide ((0:Int)≤(0:Int))&&decide (0<Int.ofNat (getR r17).Args.length)) (.bn (zqx ((getR r17).Args.getD (Int.toNat 0) default)) fun r9=>.k (!r9)) .d) (.k false)) .d) (.i (decide ((0:Int)≤(0:Int))&&decide (0<Int.ofNat (getR r17).Args.length)) (.bn (zqx ((getR r17).Args.getD (Int.toNat 0) default)) fun r11=>.k (!r11)) .d)) .d) (.k false)) (.k false)) (.i ((getR r17).Kind==3) (.i (Int.ofNat (getR r17).Args.length==1) (.bn (zpT (Atom.mk (getR r17).Kind (getR r17).Row (getR r17).Args (getR r17).Func (getR r17).Items (getR r17).Op (getR r17).Bound)) fun r14=>.i (r14) (.i (decide ((0:Int)≤(0:Int))&&decide (0<Int.ofNat (getR r17).Args.length)) (.bn (ziD ((getR r17).Args.getD (Int.toNat 0) default)) fun r13=>.k (!r13)) .d) (.k false)) (.k false)) (.i ((getR r17).Kind==4) (.i (Int.ofNat (getR r17).Args.length != 0) (.k false) (.i (Int.ofNat (getR r17).Items.length==0) (.k false) (.i (decide (Int.ofNat (getR r17).Items.length>1024)) (.k false) (.bn (zyf (getR r17).Func (getR r17).Items (getR r17).Op (getR r17).Bound) fun r16=>.i (!r16) (.k false) (.bn (zCS zbt (Int.toNat 0+(getR r17).Args.length+(getR r17).Items.length+1) 0 (Atom.mk (getR r17).Kind (getR r17).Row (getR r17).Args (getR r17).Func (getR r17).Items (getR r17).Op (getR r17).Bound)) fun r15=>.i (isL r15) (.k (getL r15)) (.k true)))))) (.k false)))))))
def zoW (zbt:yC→Bool×Bool) (x_:Atom):Bool×Bool:=(zEQ zbt x_).fin default
theorem zMD (zbt:yC→Bool×Bool) (z2e:SdP 16 (zhF zbt)):SdP 55 (zmU (zoW zbt)):=
 sW (cx':=(zw3 zbt)) zr zi zk (zj ⟨z2e,zL4,zHu,zEv,zK0,zX7,zYM,trivial⟩) Tryz.call55 Tryz.func55 (c:=body Tryz.f55) (lOK (aC (zQo zbt) (aC (zOD zbt) aN)))
def zJ0:Nat→(yC→Bool×Bool)×(Atom→Bool×Bool)
 | 0=>(fun _=>(false,default),fun _=>(false,default))
 | n+1=>(zxT ((zJ0 n).2),zoW ((zJ0 n).1))
def zx6 (n:Nat):yC→Bool×Bool:=(zJ0 n).1
def zuU (n:Nat):Atom→Bool×Bool:=(zJ0 n).2
theorem zZ7 (n:Nat):zx6 (n+1)=zxT (zuU n):=rfl
theorem zRP (n:Nat):zuU (n+1)=zoW (zx6 n):=rfl
theorem zUN:∀ n,SdP 16 (zhF (zx6 n))∧SdP 55 (zmU (zuU n))
 | 0=>⟨z6 Tryz.call16 (fun _=>rfl),z6 Tryz.call55 (fun _=>rfl)⟩
 | n+1=>by
  have ih:=zUN n;exact ⟨zUq _ (ih.2),zMD _ (ih.1)⟩
def zeP:yC→Bool×Bool:=zx6 1000
def ref05_Valid_spec:Ab.Spec ty:=zhF zeP
theorem zI6:SdP 16 ref05_Valid_spec:=(zUN 1000).1
def z7O:Cx ty:=mkCx base 3 [] [] [] [] [] []
def z8E:Wy0 (yC):=.k [TermOf.mk 1 []]
def zGS:Bool×yC:=(z8E).fin default
def zQp:Ab.Spec ty:=zh zOI fun x=>((zGS ).1,zO1 (zGS ).2)
theorem z2M:SdP 77 zQp:=
 sW (cx':=z7O) zr zi zk (zj trivial) Tryz.call77 Tryz.func77 (c:=body Tryz.f77) (lOK aN) (sg:=⟨[.own 28],[]⟩)
def z8u:Cx ty:=mkCx base 8 [(54,zEq)] [] [] [] [] []
def zZC (a:yC):Wy0 (yC×Int):=.bn (zAN a) fun r0=>.i (!r0) (.k ([],6)) (.k (a,0))
def znh (a:yC):Bool×(yC×Int):=(zZC a).fin default
def z6o (r:yC×Int):ARes ty:=⟨[.pure (.sl 28 r.1),.pure (.lit (.int .i64 r.2))],[]⟩
def zQm:Ab.Spec ty:=zh zU2 fun x=>((znh x.1).1,z6o (znh x.1).2)
theorem z2m:SdP 101 zQm:=
 sW (cx':=z8u) zr zi zk (zj ⟨zLZ,trivial⟩) Tryz.call101 Tryz.func101 (c:=body Tryz.f101) (lOK aN) (sg:=⟨[.pure,.pure],[]⟩)
def z4Q:Cx ty:=mkCx base 30 [(16,ref05_Valid_spec),(77,zQp),(99,zBg),(100,zyD),(101,zQm),(102,zDC)] [] [] [] [] []
def zS5 (a:yC):Wy0 (yC×Int):=.bn (zeP a) fun r4=>.i (!r4) (.k ([],1)) (.i (Int.ofNat a.length==0) (.k (a,0)) (.bn (zqx a) fun r3=>.i (r3) (.k (a,0)) (.i (Int.ofNat a.length==1) (.bn (ziD a) fun r1=>.i (r1) (.k (zGS.2,0)) (.bn (znh (zm4 (Atom.mk 2 (RowID.mk 0 0) [a] 0 [] 0 (Value.mk 0 0 (ByteArray.mk #[])))).2) fun r0=>.k (r0.1,r0.2))) (.bn (znh (zm4 (Atom.mk 2 (RowID.mk 0 0) [a] 0 [] 0 (Value.mk 0 0 (ByteArray.mk #[])))).2) fun r2=>.k (r2.1,r2.2)))))
def zBD (a:yC):Bool×(yC×Int):=(zS5 a).fin default
def zLI:Ab.Spec ty:=zh zU2 fun x=>((zBD x.1).1,z6o (zBD x.1).2)
theorem zYl:SdP 47 zLI:=
 sW (cx':=z4Q) zr zi zk (zj ⟨zI6,z2M,zHu,zEv,z2m,zKx,trivial⟩) Tryz.call47 Tryz.func47 (c:=body Tryz.f47) (lOK aN) (sg:=⟨[.pure,.pure],[]⟩)
def z5G:Cx ty:=mkCx base 9 [] [] [] [] [] []
def zXf (a:Int) (b:Int):Wy0 (Int):=.k (if 1152921504606846976<IntKind.i64.wrap (a+b) then 1152921504606846976 else IntKind.i64.wrap (a+b))
def zwK (a:Int) (b:Int):Bool×Int:=(zXf a b).fin default
def zN2:Ab.Spec ty:=zh zT8 fun x=>((zwK x.1 x.2.1).1,zN6 (zwK x.1 x.2.1).2)
theorem z0Y:SdP 112 zN2:=
 sW (cx':=z5G) zr zi zk (zj trivial) Tryz.call112 Tryz.func112 (c:=body Tryz.f112) (lOK aN)
abbrev zAs:=yC×Unit×Int×Unit
abbrev zDx:=yC×Int×Term
def zAk (a:yC) (i:Int) (t:Term):Wy zAs (Term×Unit) zDx:=.i (decide (i<Int.ofNat a.length)) (.i (decide (0≤i)&&decide (i<Int.ofNat a.length)) (.bn (zkY (a.getD i.toNat default).Factors t.Factors) fun r0=>.i (decide (r0<0)) (.h (a,(),(IntKind.i64.wrap (i+1)),()) (t,())) (.k (a,i,t))) .d) (.k (a,i,t))
def zL8 (x:zAs) (y:Term×Unit):Wy zAs (Term×Unit) zDx:=zAk x.1 x.2.2.1 y.1
def zVw (n:Nat) (a:yC) (i:Int) (t:Term):Bool×zDx:=zF (zL8) default n (a,(),i,()) (t,())
def z6g (r:zDx):LTree ty:=.done (.exit 0) [.sl 28 r.1,.ptr 288 0,.lit (.int .i64 r.2.1)] [.box (base.enc 28 r.2.2) false]
def z74:LL ty zAs:=za (lSl 28) (za (zeJ 288 0) (za lI64 zn))
def z5W (x:zAs) (y:Term×Unit):Nat:=(x.1.length+Int.toNat x.2.2.1+y.1.Factors.length+1)
def zVC:Cx ty:=mkCx base 72 [(34,ref05_CompareFactors_spec),(112,zN2)] [] [(2,(kpL [0,3,5]))] [(2,1,(kpL [0,3,5]))] [(2,spW z74 zQR (zL8) default z6g z5W)] []
theorem z59:zK zVC (lp (body Tryz.f58) 0):=zu (id:=2) (hl:=rfl)
def zZi (a:yC) (t:Term):Wy0 (yC):=.bn (zVw (a.length+Int.toNat 0+t.Factors.length+1) a 0 t) fun r3=>.i (decide ((0:Int)≤(0:Int))&&decide (0≤r3.2.1)&&decide (r3.2.1≤Int.ofNat r3.1.length)) (.i (decide ((0+(List.take (r3.2.1.toNat - Int.toNat 0) (List.drop (Int.toNat 0) r3.1)).length)*32≤reach)) (.i (decide (r3.2.1<Int.ofNat r3.1.length)) (.i (decide (0≤r3.2.1)&&decide (r3.2.1<Int.ofNat r3.1.length)) (.bn (zkY (r3.1.getD r3.2.1.toNat default).Factors r3.2.2.Factors) fun r2=>.i (r2==0) (.i (decide (0≤r3.2.1)&&decide (r3.2.1<Int.ofNat r3.1.length)) (.i (decide ((([]++List.take (r3.2.1.toNat - Int.toNat 0) (List.drop (Int.toNat 0) r3.1)).length+[TermOf.mk (zwK (r3.1.getD r3.2.1.toNat default).Coeff r3.2.2.Coeff).2 r3.2.2.Factors].length)*32≤reach)) (.i (decide (0≤IntKind.i64.wrap (r3.2.1+1))&&decide (IntKind.i64.wrap (r3.2.1+1)≤Int.ofNat r3.1.length)&&decide (Int.ofNat r3.1.length≤Int.ofNat r3.1.length)) (.i (decide ((([]++List.take (r3.2.1.toNat - Int.toNat 0) (List.drop (Int.toNat 0) r3.1)++[TermOf.mk (zwK (r3.1.getD r3.2.1.toNat default).Coeff r3.2.2.Coeff).2 r3.2.2.Factors]).length+(List.take ((Int.ofNat r3.1.length).toNat - (IntKind.i64.wrap (r3.2.1+1)).toNat) (List.drop (IntKind.i64.wrap (r3.2.1+1)).toNat r3.1)).length)*32≤reach)) (.k ([]++List.take (r3.2.1.toNat - Int.toNat 0) (List.drop (Int.toNat 0) r3.1)++[TermOf.mk (zwK (r3.1.getD r3.2.1.toNat default).Coeff r3.2.2.Coeff).2 r3.2.2.Factors]++List.take ((Int.ofNat r3.1.length).toNat - (IntKind.i64.wrap (r3.2.1+1)).toNat) (List.drop (IntKind.i64.wrap (r3.2.1+1)).toNat r3.1))) .d) .d) .d) .d) (.i (decide ((([]++List.take (r3.2.1.toNat - Int.toNat 0) (List.drop (Int.toNat 0) r3.1)).length+[r3.2.2].length)*32≤reach)) (.i (decide (0≤r3.2.1)&&decide (r3.2.1≤Int.ofNat r3.1.length)&&decide (Int.ofNat r3.1.length≤Int.ofNat r3.1.length)) (.i (decide ((([]++List.take (r3.2.1.toNat - Int.toNat 0) (List.drop (Int.toNat 0) r3.1)++[r3.2.2]).length+(List.take ((Int.ofNat r3.1.length).toNat - r3.2.1.toNat) (List.drop r3.2.1.toNat r3.1)).length)*32≤reach)) (.k ([]++List.take (r3.2.1.toNat - Int.toNat 0) (List.drop (Int.toNat 0) r3.1)++[r3.2.2]++List.take ((Int.ofNat r3.1.length).toNat - r3.2.1.toNat) (List.drop r3.2.1.toNat r3.1))) .d) .d) .d)) .d) (.i (decide ((([]++List.take (r3.2.1.toNat - Int.toNat 0) (List.drop (Int.toNat 0) r3.1)).length+[r3.2.2].length)*32≤reach)) (.i (decide (0≤r3.2.1)&&decide (r3.2.1≤Int.ofNat r3.1.length)&&decide (Int.ofNat r3.1.length≤Int.ofNat r3.1.length)) (.i (decide ((([]++List.take (r3.2.1.toNat - Int.toNat 0) (List.drop (Int.toNat 0) r3.1)++[r3.2.2]).length+(List.take ((Int.ofNat r3.1.length).toNat - r3.2.1.toNat) (List.drop r3.2.1.toNat r3.1)).length)*32≤reach)) (.k ([]++List.take (r3.2.1.toNat - Int.toNat 0) (List.drop (Int.toNat 0) r3.1)++[r3.2.2]++List.take ((Int.ofNat r3.1.length).toNat - r3.2.1.toNat) (List.drop r3.2.1.toNat r3.1))) .d) .d) .d)) .d) .d
def zCE (a:yC) (t:Term):Bool×yC:=(zZi a t).fin default
def z8N:AL base (yC×Term×Unit):=zd (ze (vSl 28)) (zd (ze (vAgg 28)) aNil)
def zFR:Ab.Spec ty:=zh z8N fun x=>((zCE x.1 x.2.1).1,zO1 (zCE x.1 x.2.1).2)
theorem zNS:SdP 58 zFR:=
 sW (cx':=zVC) zr zi zk (zj ⟨zxw,z0Y,trivial⟩) Tryz.call58 Tryz.func58 (c:=body Tryz.f58) (lOK (aC z59 aN)) (sg:=⟨[.own 28],[]⟩)
abbrev ztY:=yD×Unit×Int×Unit
abbrev zy6:=yD×Int×Factor
def ztV (l:yD) (i:Int) (f:Factor):Wy ztY (Factor×Unit) zy6:=.i (decide (i<Int.ofNat l.length)) (.i (decide (0≤i)&&decide (i<Int.ofNat l.length)) (.bn (zjc (Atom.mk (l.getD i.toNat default).Atom.Kind (l.getD i.toNat default).Atom.Row (l.getD i.toNat default).Atom.Args (l.getD i.toNat default).Atom.Func (l.getD i.toNat default).Atom.Items (l.getD i.toNat default).Atom.Op (l.getD i.toNat default).Atom.Bound) (Atom.mk f.Atom.Kind f.Atom.Row f.Atom.Args f.Atom.Func f.Atom.Items f.Atom.Op f.Atom.Bound)) fun r0=>.i (decide (r0<0)) (.h (l,(),(IntKind.i64.wrap (i+1)),()) (f,())) (.k (l,i,f))) .d) (.k (l,i,f))
def zEk (x:ztY) (y:Factor×Unit):Wy ztY (Factor×Unit) zy6:=ztV x.1 x.2.2.1 y.1
def zNO (n:Nat) (l:yD) (i:Int) (f:Factor):Bool×zy6:=zF (zEk) default n (l,(),i,()) (f,())
def z1o (r:zy6):LTree ty:=.done (.exit 0) [.sl 69 r.1,.ptr 296 0,.lit (.int .i64 r.2.1)] [.box (base.enc 69 r.2.2) false]
def z1t:LL ty ztY:=za (lSl 69) (za (zeJ 296 0) (za lI64 zn))
def z0e (x:ztY) (y:Factor×Unit):Nat:=(x.1.length+Int.toNat x.2.2.1+y.1.Atom.Args.length+y.1.Atom.Items.length+1)
def zNr:Cx ty:=mkCx base 74 [(53,ref05_CompareAtom_spec)] [] [(2,(kpL [0,3,5]))] [(2,1,(kpL [0,3,5]))] [(2,spW z1t zQU (zEk) default z1o z0e)] []
theorem z0L:zK zNr (lp (body Tryz.f57) 0):=zu (id:=2) (hl:=rfl)
def zQk (l:yD) (f:Factor):Wy0 (yD):=.bn (zNO (l.length+Int.toNat 0+f.Atom.Args.length+f.Atom.Items.length+1) l 0 (FactorOf.mk (Atom.mk f.Atom.Kind f.Atom.Row f.Atom.Args f.Atom.Func f.Atom.Items f.Atom.Op f.Atom.Bound) f.Exp)) fun r3=>.i (decide ((0:Int)≤(0:Int))&&decide (0≤r3.2.1)&&decide (r3.2.1≤Int.ofNat r3.1.length)) (.i (decide ((0+(List.take (r3.2.1.toNat - Int.toNat 0) (List.drop (Int.toNat 0) r3.1)).length)*128≤reach)) (.i (decide (r3.2.1<Int.ofNat r3.1.length)) (.i (decide (0≤r3.2.1)&&decide (r3.2.1<Int.ofNat r3.1.length)) (.bn (zjc (Atom.mk (r3.1.getD r3.2.1.toNat default).Atom.Kind (r3.1.getD r3.2.1.toNat default).Atom.Row (r3.1.getD r3.2.1.toNat default).Atom.Args (r3.1.getD r3.2.1.toNat default).Atom.Func (r3.1.getD r3.2.1.toNat default).Atom.Items (r3.1.getD r3.2.1.toNat default).Atom.Op (r3.1.getD r3.2.1.toNat default).Atom.Bound) (Atom.mk r3.2.2.Atom.Kind r3.2.2.Atom.Row r3.2.2.Atom.Args r3.2.2.Atom.Func r3.2.2.Atom.Items r3.2.2.Atom.Op r3.2.2.Atom.Bound)) fun r2=>.i (r2==0) (.i (decide (r3.2.2.Atom.Kind<3)) (.i (decide (0≤r3.2.1)&&decide (r3.2.1<Int.ofNat r3.1.length)) (.i (decide ((([]++List.take (r3.2.1.toNat - Int.toNat 0) (List.drop (Int.toNat 0) r3.1)).length+[FactorOf.mk (Atom.mk r3.2.2.Atom.Kind r3.2.2.Atom.Row r3.2.2.Atom.Args r3.2.2.Atom.Func r3.2.2.Atom.Items r3.2.2.Atom.Op r3.2.2.Atom.Bound) (IntKind.i64.wrap ((r3.1.getD r3.2.1.toNat default).Exp+r3.2.2.Exp))].length)*128≤reach)) (.i (decide (0≤IntKind.i64.wrap (r3.2.1+1))&&decide (IntKind.i64.wrap (r3.2.1+1)≤Int.ofNat r3.1.length)&&decide (Int.ofNat r3.1.length≤Int.ofNat r3.1.length)) (.i (decide ((([]++List.take (r3.2.1.toNat - Int.toNat 0) (List.drop (Int.toNat 0) r3.1)++[FactorOf.mk (Atom.mk r3.2.2.Atom.Kind r3.2.2.Atom.Row r3.2.2.Atom.Args r3.2.2.Atom.Func r3.2.2.Atom.Items r3.2.2.Atom.Op r3.2.2.Atom.Bound) (IntKind.i64.wrap ((r3.1.getD r3.2.1.toNat default).Exp+r3.2.2.Exp))]).length+(List.take ((Int.ofNat r3.1.length).toNat - (IntKind.i64.wrap (r3.2.1+1)).toNat) (List.drop (IntKind.i64.wrap (r3.2.1+1)).toNat r3.1)).length)*128≤reach)) (.k ([]++List.take (r3.2.1.toNat - Int.toNat 0) (List.drop (Int.toNat 0) r3.1)++[FactorOf.mk (Atom.mk r3.2.2.Atom.Kind r3.2.2.Atom.Row r3.2.2.Atom.Args r3.2.2.Atom.Func r3.2.2.Atom.Items r3.2.2.Atom.Op r3.2.2.Atom.Bound) (IntKind.i64.wrap ((r3.1.getD r3.2.1.toNat default).Exp+r3.2.2.Exp))]++List.take ((Int.ofNat r3.1.length).toNat - (IntKind.i64.wrap (r3.2.1+1)).toNat) (List.drop (IntKind.i64.wrap (r3.2.1+1)).toNat r3.1))) .d) .d) .d) .d) (.i (decide ((([]++List.take (r3.2.1.toNat - Int.toNat 0) (List.drop (Int.toNat 0) r3.1)).length+[FactorOf.mk (Atom.mk r3.2.2.Atom.Kind r3.2.2.Atom.Row r3.2.2.Atom.Args r3.2.2.Atom.Func r3.2.2.Atom.Items r3.2.2.Atom.Op r3.2.2.Atom.Bound) r3.2.2.Exp].length)*128≤reach)) (.i (decide (0≤IntKind.i64.wrap (r3.2.1+1))&&decide (IntKind.i64.wrap (r3.2.1+1)≤Int.ofNat r3.1.length)&&decide (Int.ofNat r3.1.length≤Int.ofNat r3.1.length)) (.i (decide ((([]++List.take (r3.2.1.toNat - Int.toNat 0) (List.drop (Int.toNat 0) r3.1)++[FactorOf.mk (Atom.mk r3.2.2.Atom.Kind r3.2.2.Atom.Row r3.2.2.Atom.Args r3.2.2.Atom.Func r3.2.2.Atom.Items r3.2.2.Atom.Op r3.2.2.Atom.Bound) r3.2.2.Exp]).length+(List.take ((Int.ofNat r3.1.length).toNat - (IntKind.i64.wrap (r3.2.1+1)).toNat) (List.drop (IntKind.i64.wrap (r3.2.1+1)).toNat r3.1)).length)*128≤reach)) (.k ([]++List.take (r3.2.1.toNat - Int.toNat 0) (List.drop (Int.toNat 0) r3.1)++[FactorOf.mk (Atom.mk r3.2.2.Atom.Kind r3.2.2.Atom.Row r3.2.2.Atom.Args r3.2.2.Atom.Func r3.2.2.Atom.Items r3.2.2.Atom.Op r3.2.2.Atom.Bound) r3.2.2.Exp]++List.take ((Int.ofNat r3.1.length).toNat - (IntKind.i64.wrap (r3.2.1+1)).toNat) (List.drop (IntKind.i64.wrap (r3.2.1+1)).toNat r3.1))) .d) .d) .d)) (.i (decide ((([]++List.take (r3.2.1.toNat - Int.toNat 0) (List.drop (Int.toNat 0) r3.1)).length+[FactorOf.mk (Atom.mk r3.2.2.Atom.Kind r3.2.2.Atom.Row r3.2.2.Atom.Args r3.2.2.Atom.Func r3.2.2.Atom.Items r3.2.2.Atom.Op r3.2.2.Atom.Bound) r3.2.2.Exp].length)*128≤reach)) (.i (decide (0≤r3.2.1)&&decide (r3.2.1≤Int.ofNat r3.1.length)&&decide (Int.ofNat r3.1.length≤Int.ofNat r3.1.length)) (.i (decide ((([]++List.take (r3.2.1.toNat - Int.toNat 0) (List.drop (Int.toNat 0) r3.1)++[FactorOf.mk (Atom.mk r3.2.2.Atom.Kind r3.2.2.Atom.Row r3.2.2.Atom.Args r3.2.2.Atom.Func r3.2.2.Atom.Items r3.2.2.Atom.Op r3.2.2.Atom.Bound) r3.2.2.Exp]).length+(List.take ((Int.ofNat r3.1.length).toNat - r3.2.1.toNat) (List.drop r3.2.1.toNat r3.1)).length)*128≤reach)) (.k ([]++List.take (r3.2.1.toNat - Int.toNat 0) (List.drop (Int.toNat 0) r3.1)++[FactorOf.mk (Atom.mk r3.2.2.Atom.Kind r3.2.2.Atom.Row r3.2.2.Atom.Args r3.2.2.Atom.Func r3.2.2.Atom.Items r3.2.2.Atom.Op r3.2.2.Atom.Bound) r3.2.2.Exp]++List.take ((Int.ofNat r3.1.length).toNat - r3.2.1.toNat) (List.drop r3.2.1.toNat r3.1))) .d) .d) .d)) .d) (.i (decide ((([]++List.take (r3.2.1.toNat - Int.toNat 0) (List.drop (Int.toNat 0) r3.1)).length+[FactorOf.mk (Atom.mk r3.2.2.Atom.Kind r3.2.2.Atom.Row r3.2.2.Atom.Args r3.2.2.Atom.Func r3.2.2.Atom.Items r3.2.2.Atom.Op r3.2.2.Atom.Bound) r3.2.2.Exp].length)*128≤reach)) (.i (decide (0≤r3.2.1)&&decide (r3.2.1≤Int.ofNat r3.1.length)&&decide (Int.ofNat r3.1.length≤Int.ofNat r3.1.length)) (.i (decide ((([]++List.take (r3.2.1.toNat - Int.toNat 0) (List.drop (Int.toNat 0) r3.1)++[FactorOf.mk (Atom.mk r3.2.2.Atom.Kind r3.2.2.Atom.Row r3.2.2.Atom.Args r3.2.2.Atom.Func r3.2.2.Atom.Items r3.2.2.Atom.Op r3.2.2.Atom.Bound) r3.2.2.Exp]).length+(List.take ((Int.ofNat r3.1.length).toNat - r3.2.1.toNat) (List.drop r3.2.1.toNat r3.1)).length)*128≤reach)) (.k ([]++List.take (r3.2.1.toNat - Int.toNat 0) (List.drop (Int.toNat 0) r3.1)++[FactorOf.mk (Atom.mk r3.2.2.Atom.Kind r3.2.2.Atom.Row r3.2.2.Atom.Args r3.2.2.Atom.Func r3.2.2.Atom.Items r3.2.2.Atom.Op r3.2.2.Atom.Bound) r3.2.2.Exp]++List.take ((Int.ofNat r3.1.length).toNat - r3.2.1.toNat) (List.drop r3.2.1.toNat r3.1))) .d) .d) .d)) .d) .d
def zzE (l:yD) (f:Factor):Bool×yD:=(zQk l f).fin default
def z1b (r:yD):ARes ty:=⟨[.pure (.sl 69 r)],[]⟩
def z3w:AL base (yD×Factor×Unit):=zd (ze (vSl 69)) (zd (ze (vAgg 69)) aNil)
def zIT:Ab.Spec ty:=zh z3w fun x=>((zzE x.1 x.2.1).1,z1b (zzE x.1 x.2.1).2)
theorem zU6:SdP 57 zIT:=
 sW (cx':=zNr) zr zi zk (zj ⟨zsJ,trivial⟩) Tryz.call57 Tryz.func57 (c:=body Tryz.f57) (lOK (aC z0L aN))
def z3E:Cx ty:=mkCx base 12 [] [] [] [] [] []
def zTa (a:Int) (b:Int):Wy0 (Int):=.i (!decide (b=0)) (.i (decide (a>IntKind.i64.wrap (Int.tdiv 1152921504606846976 b))) (.k 1152921504606846976) (.k (IntKind.i64.wrap (a*b)))) .d
def zBT (a:Int) (b:Int):Bool×Int:=(zTa a b).fin default
def zMd:Ab.Spec ty:=zh zT8 fun x=>((zBT x.1 x.2.1).1,zN6 (zBT x.1 x.2.1).2)
theorem zYd:SdP 56 zMd:=
 sW (cx':=z3E) zr zi zk (zj trivial) Tryz.call56 Tryz.func56 (c:=body Tryz.f56) (lOK aN)
abbrev zq0:=yC×yC×Unit×Int×Int×Unit×Int×Unit
abbrev zqG:=yC×(Int×yD×Unit)×Unit
abbrev zxi:=yC×yC×Int×Int×yC×Int×yD
abbrev zrr:=yC×yC×Unit×Int×Int×Unit
abbrev zeZ:=yC×Unit
abbrev zwW:=yC×yC×Int×yC
abbrev zrg:=yC×yC×Unit×Int×Unit
def zot (a:yC) (b:yC) (i:Int) (k:Int) (j:Int) (out_:yC) (t_0:Int) (t_1:yD):Wy zq0 zqG zxi:=.i (decide (0≤k)&&decide (k<Int.ofNat b.length)) (.i (decide (j<Int.ofNat (b.getD k.toNat default).Factors.length)) (.i (decide (0≤k)&&decide (k<Int.ofNat b.length)) (.i (decide (0≤j)&&decide (j<Int.ofNat (b.getD k.toNat default).Factors.length)) (.bn (zzE t_1 (FactorOf.mk (Atom.mk ((b.getD k.toNat default).Factors.getD j.toNat default).Atom.Kind ((b.getD k.toNat default).Factors.getD j.toNat default).Atom.Row ((b.getD k.toNat default).Factors.getD j.toNat default).Atom.Args ((b.getD k.toNat default).Factors.getD j.toNat default).Atom.Func ((b.getD k.toNat default).Factors.getD j.toNat default).Atom.Items ((b.getD k.toNat default).Factors.getD j.toNat default).Atom.Op ((b.getD k.toNat default).Factors.getD j.toNat default).Atom.Bound) ((b.getD k.toNat default).Factors.getD j.toNat default).Exp)) fun r0=>.h (a,b,(),i,k,(),(IntKind.i64.wrap (j+1)),()) (out_,(t_0,(r0),()),())) .d) .d) (.k (a,b,i,k,out_,t_0,t_1))) .d
def zBw (x:zq0) (y:zqG):Wy zq0 zqG zxi:=zot x.1 x.2.1 x.2.2.2.1 x.2.2.2.2.1 x.2.2.2.2.2.2.1 y.1 y.2.1.1 y.2.1.2.1
def zJe (n:Nat) (a:yC) (b:yC) (i:Int) (k:Int) (j:Int) (out_:yC) (t_0:Int) (t_1:yD):Bool×zxi:=zF (zBw) default n (a,b,(),i,k,(),j,()) (out_,(t_0,t_1,()),())
def zWg (r:zxi):LTree ty:=.done (.exit 4) [.sl 28 r.1,.sl 28 r.2.1,.own 264,.lit (.int .i64 r.2.2.1),.lit (.int .i64 r.2.2.2.1),.ptr 265 0] [.arr 28 r.2.2.2.2.1 false,.box ([.lit (.int .i64 r.2.2.2.2.2.1),.sl 69 r.2.2.2.2.2.2]) false]
def zYR:LL ty zq0:=za (lSl 28) (za (lSl 28) (za (lOwn 264) (za lI64 (za lI64 (za (zeJ 265 0) (za lI64 zn))))))
def zYz:BL ty zqG:=bArr 28 false (bBox (za (lInt .i64) (za (lSl 69) zn)) false (bNil))
def zqZ (a:yC) (b:yC) (i:Int) (k:Int) (out_:yC):Wy zrr zeZ zwW:=.i (decide (k<Int.ofNat b.length)) (.i (decide (0≤i)&&decide (i<Int.ofNat a.length)) (.i (decide (0≤k)&&decide (k<Int.ofNat b.length)) (.bn (zBT (a.getD i.toNat default).Coeff (b.getD k.toNat default).Coeff) fun r4=>.i (decide (0≤i)&&decide (i<Int.ofNat a.length)) (.bn (zJe ((a.length+b.length+i.toNat +k.toNat +Int.toNat 0+out_.length+r4.toNat +(a.getD i.toNat default).Factors.length+1)+szTs a+szTs b+szTs out_+szFs (a.getD i.toNat default).Factors) a b i k 0 out_ r4 (a.getD i.toNat default).Factors) fun r3=>.bn (zCE r3.2.2.2.2.1 (TermOf.mk r3.2.2.2.2.2.1 r3.2.2.2.2.2.2)) fun r2=>.h ((r3.1),(r3.2.1),(),(r3.2.2.1),(IntKind.i64.wrap (r3.2.2.2.1+1)),()) ((r2),())) .d) .d) .d) (.k (a,b,i,out_))
def zCg (x:zrr) (y:zeZ):Wy zrr zeZ zwW:=zqZ x.1 x.2.1 x.2.2.2.1 x.2.2.2.2.1 y.1
def zKK (n:Nat) (a:yC) (b:yC) (i:Int) (k:Int) (out_:yC):Bool×zwW:=zF (zCg) default n (a,b,(),i,k,()) (out_,())
def zYO (r:zwW):LTree ty:=.done (.exit 2) [.sl 28 r.1,.sl 28 r.2.1,.own 264,.lit (.int .i64 r.2.2.1)] [.arr 28 r.2.2.2 false]
def z1h:LL ty zrr:=za (lSl 28) (za (lSl 28) (za (lOwn 264) (za lI64 (za lI64 zn))))
def z0b:BL ty zeZ:=bArr 28 false (bNil)
def zqP (a:yC) (b:yC) (i:Int) (out_:yC):Wy zrg zeZ (yC):=.i (decide (i<Int.ofNat a.length)) (.bn (zKK ((a.length+b.length+i.toNat +Int.toNat 0+out_.length+1)+szTs a+szTs b+szTs out_) a b i 0 out_) fun r8=>.h ((r8.1),(r8.2.1),(),(IntKind.i64.wrap (r8.2.2.1+1)),()) ((r8.2.2.2),())) (.k out_)
def zCh (x:zrg) (y:zeZ):Wy zrg zeZ (yC):=zqP x.1 x.2.1 x.2.2.2.1 y.1
def zL2 (n:Nat) (a:yC) (b:yC) (i:Int) (out_:yC):Bool×yC:=zF (zCh) default n (a,b,(),i,()) (out_,())
def zYi (r:yC):LTree ty:=.done (.exit 0) [.own 264] [.arr 28 r false]
def z0h:LL ty zrg:=za (lSl 28) (za (lSl 28) (za (lOwn 264) (za lI64 zn)))
def zU7 (x:zq0) (y:zqG):Nat:=((x.1.length+x.2.1.length+Int.toNat x.2.2.2.1+Int.toNat x.2.2.2.2.1+Int.toNat x.2.2.2.2.2.2.1+y.1.length+Int.toNat y.2.1.1+y.2.1.2.1.length+1)+szTs x.1+szTs x.2.1+szTs y.1+szFs y.2.1.2.1)
def zYq (x:zrr) (y:zeZ):Nat:=((x.1.length+x.2.1.length+Int.toNat x.2.2.2.1+Int.toNat x.2.2.2.2.1+y.1.length+1)+szTs x.1+szTs x.2.1+szTs y.1)
def zX4 (x:zrg) (y:zeZ):Nat:=((x.1.length+x.2.1.length+Int.toNat x.2.2.2.1+y.1.length+1)+szTs x.1+szTs x.2.1+szTs y.1)
def zw6:Cx ty:=mkCx base 66 [(56,zMd),(57,zIT),(58,zFR)] [] [(3,(kpL [0,1,5,6])),(6,(kpL [0,1,5,6,7])),(10,(kpL [0,1,5,6,7,8,9]))] [(3,1,(kpL [5])),(6,3,(kpL [0,1,5,6])),(10,5,(kpL [0,1,5,6,7,8]))] [(10,spW zYR zYz (zBw) default zWg zU7),(6,spW z1h z0b (zCg) default zYO zYq),(3,spW z0h z0b (zCh) default zYi zX4)] []
theorem zXh:zK zw6 (lp (body Tryz.f17) 2):=zu (id:=10) (hl:=rfl)
theorem zYy:zK zw6 (lp (body Tryz.f17) 1):=zu (id:=6) (hl:=rfl)
theorem zYG:zK zw6 (lp (body Tryz.f17) 0):=zu (id:=3) (hl:=rfl)
def zNv (a:yC) (b:yC):Wy0 (yC):=.bn (zL2 ((a.length+b.length+Int.toNat 0+0+1)+szTs a+szTs b+szTs []) a b 0 []) fun r10=>.k r10
def zoc (a:yC) (b:yC):Bool×yC:=(zNv a b).fin default
def zGK:Ab.Spec ty:=zh zRZ fun x=>((zoc x.1 x.2.1).1,zO1 (zoc x.1 x.2.1).2)
theorem zUC:SdP 17 zGK:=
 sW (cx':=zw6) zr zi zk (zj ⟨zYd,zU6,zNS,trivial⟩) Tryz.call17 Tryz.func17 (c:=body Tryz.f17) (lOK (aC zYG (aC zYy (aC zXh aN)))) (sg:=⟨[.own 28],[]⟩)
abbrev zAv:=yC×yC×Int×Unit
def zAd (a:yC) (b:yC) (i:Int):Wy zAv (Unit) (yC):=.i (decide (i<Int.ofNat b.length)) (.i (decide (0≤i)&&decide (i<Int.ofNat b.length)) (.bn (zCE a (b.getD i.toNat default)) fun r0=>.h ((r0),b,(IntKind.i64.wrap (i+1)),()) ()) .d) (.k a)
def zK4 (x:zAv) (y:Unit):Wy zAv (Unit) (yC):=zAd x.1 x.2.1 x.2.2.1
def zU4 (n:Nat) (a:yC) (b:yC) (i:Int):Bool×yC:=zF (zK4) default n (a,b,i,()) ()
def z6h (r:yC):LTree ty:=.done (.exit 0) [.sl 28 r] []
def z7v:LL ty zAv:=za (lSl 28) (za (lSl 28) (za lI64 zn))
def z5N (x:zAv) (y:Unit):Nat:=(x.1.length+x.2.1.length+Int.toNat x.2.2.1+1)
def zVz:Cx ty:=mkCx base 19 [(58,zFR)] [] [(2,[(0,.sl 28),(1,.keep),(5,.keep)])] [(2,1,(kpL [0]))] [(2,spW z7v z6c (zK4) default z6h z5N)] []
theorem z56:zK zVz (lp (body Tryz.f45) 0):=zu (id:=2) (hl:=rfl)
def zZp (a:yC) (b:yC):Wy0 (yC):=.bn (zU4 (a.length+b.length+Int.toNat 0+1) a b 0) fun r2=>.k r2
def zCD (a:yC) (b:yC):Bool×yC:=(zZp a b).fin default
def z58 (r:yC):ARes ty:=⟨[.pure (.sl 28 r)],[]⟩
def zQC:Ab.Spec ty:=zh zRZ fun x=>((zCD x.1 x.2.1).1,z58 (zCD x.1 x.2.1).2)
theorem z3f:SdP 45 zQC:=
 sW (cx':=zVz) zr zi zk (zj ⟨zNS,trivial⟩) Tryz.call45 Tryz.func45 (c:=body Tryz.f45) (lOK (aC z56 aN))
abbrev zk8:=yF×yF×Int×Unit
abbrev zpt:=Int⊕(yF×yF)
def zSQ (a:yF) (b:yF) (i:Int):Wy zk8 (Unit) zpt:=.i (decide (i<Int.ofNat a.length)) (.i (decide (i<Int.ofNat b.length)) (.i (decide (0≤i)&&decide (i<Int.ofNat a.length)) (.i (decide (0≤i)&&decide (i<Int.ofNat b.length)) (.bn (zmH (a.getD i.toNat default) (b.getD i.toNat default)) fun r0=>.i (r0 != 0) (.k (.inl (r0))) (.h (a,b,(IntKind.i64.wrap (i+1)),()) ())) .d) .d) (.k (.inr (a,b)))) (.k (.inr (a,b)))
def zD4 (x:zk8) (y:Unit):Wy zk8 (Unit) zpt:=zSQ x.1 x.2.1 x.2.2.1
def zSu (n:Nat) (a:yF) (b:yF) (i:Int):Bool×zpt:=zF (zD4) (.inl default) n (a,b,i,()) ()
def zQB (r:zpt):LTree ty:=.ite (isL r) (.done .ret [.lit (.int .i64 (getL r))] []) (.done (.exit 0) [.sl 49 (getR r).1,.sl 49 (getR r).2] [])
def zSn:LL ty zk8:=za (lSl 49) (za (lSl 49) (za lI64 zn))
def zQJ (x:zk8) (y:Unit):Nat:=(x.1.length+x.2.1.length+Int.toNat x.2.2.1+1000)
def zD5:Cx ty:=mkCx base 41 [(105,zvr)] [] [(2,(kpL [0,1,5]))] [(2,1,(kpL [0,1])),(2,0,(kpL [4]))] [(2,spW zSn z6c (zD4) (.inl default) zQB zQJ)] []
theorem zPY:zK zD5 (lp (body Tryz.f76) 0):=zu (id:=2) (hl:=rfl)
def zT4 (a:yF) (b:yF):Wy0 (Int):=.bn (zSu (a.length+b.length+Int.toNat 0+1000) a b 0) fun r2=>.i (isL r2) (.k (getL r2)) (.i (Int.ofNat (getR r2).1.length==Int.ofNat (getR r2).2.length) (.k 0) (.i (decide (Int.ofNat (getR r2).1.length<Int.ofNat (getR r2).2.length)) (.k (-1:Int)) (.k 1)))
def zBn (a:yF) (b:yF):Bool×Int:=(zT4 a b).fin default
def zBJ:Ab.Spec ty:=zh zAI fun x=>((zBn x.1 x.2.1).1,zN6 (zBn x.1 x.2.1).2)
theorem zMA:SdP 76 zBJ:=
 sW (cx':=zD5) zr zi zk (zj ⟨zBF,trivial⟩) Tryz.call76 Tryz.func76 (c:=body Tryz.f76) (lOK (aC zPY aN))
abbrev zxH:=yB×yB×Int×Unit
def z6a (a:yB) (b:yB) (i:Int):Wy zxH (Unit) (Bool⊕Unit):=.i (decide (i<Int.ofNat a.length)) (.i (decide (0≤i)&&decide (i<Int.ofNat a.length)) (.i (decide (0≤i)&&decide (i<Int.ofNat b.length)) (.bn (zBn (a.getD i.toNat default) (b.getD i.toNat default)) fun r0=>.i (r0 != 0) (.k (.inl false)) (.h (a,b,(IntKind.i64.wrap (i+1)),()) ())) .d) .d) (.k (.inr ()))
def zS1 (x:zxH) (y:Unit):Wy zxH (Unit) (Bool⊕Unit):=z6a x.1 x.2.1 x.2.2.1
def z6x (n:Nat) (a:yB) (b:yB) (i:Int):Bool×(Bool⊕Unit):=zF (zS1) (.inl default) n (a,b,i,()) ()
def z6t:LL ty zxH:=za (lSl 43) (za (lSl 43) (za lI64 zn))
def z4A (x:zxH) (y:Unit):Nat:=(x.1.length+x.2.1.length+Int.toNat x.2.2.1+1000)
def zS6:Cx ty:=mkCx base 27 [(76,zBJ)] [] [(4,(kpL [0,1,5]))] [(4,1,[]),(4,0,(kpL [4]))] [(4,spW z6t z6c (zS1) (.inl default) zOp z4A)] []
theorem z4x:zK zS6 (lp (body Tryz.f26) 0):=zu (id:=4) (hl:=rfl)
def z7f (a:yB) (b:yB):Wy0 (Bool):=.i (Int.ofNat a.length != Int.ofNat b.length) (.k false) (.bn (z6x (a.length+b.length+Int.toNat 0+1000) a b 0) fun r2=>.i (isL r2) (.k (getL r2)) (.k true))
def zSS (a:yB) (b:yB):Bool×Bool:=(z7f a b).fin default
def zNM:Ab.Spec ty:=zh zZ3 fun x=>((zSS x.1 x.2.1).1,zTU (zSS x.1 x.2.1).2)
theorem z0q:SdP 26 zNM:=
 sW (cx':=zS6) zr zi zk (zj ⟨zMA,trivial⟩) Tryz.call26 Tryz.func26 (c:=body Tryz.f26) (lOK (aC z4x aN))
abbrev zAy:=yC×yC×yC×Unit×Int×Unit×Unit×Unit×Unit
abbrev zAJ:=yB×(Int×Int×Unit)×(Int×Int×Unit)×(Int×Int×Unit)×Unit
def z4c (x_:yC) (y_:yC) (a:yC) (e:Int) (l:yB) (one_0:Int) (one_1:Int) (two_0:Int) (two_1:Int) (three_0:Int) (three_1:Int):Wy zAy zAJ (Bool):=.bn (zel a) fun r7=>.bn (zoc y_ y_) fun r6=>.bn (zCD x_ r6) fun r5=>.bn (ztg r7 r5) fun r4=>.i (r4) (.i (e==0) (.bn (zSS l [[RowID.mk one_0 one_1,RowID.mk two_0 two_1],[RowID.mk one_0 one_1,RowID.mk three_0 three_1]]) fun r3=>.i (r3) (.bn (zeN a a) fun r2=>.i (r2) (.i (decide ((0:Int)≤(0:Int))&&decide (0<Int.ofNat x_.length)) (.bn (zoc x_ y_) fun r1=>.i (decide ((0:Int)≤(0:Int))&&decide (0<Int.ofNat r1.length)) (.bn (zfV (x_.getD (Int.toNat 0) default) (r1.getD (Int.toNat 0) default)) fun r0=>.k r0) .d) .d) (.k false)) (.k false)) (.k false)) (.k false)
def z3C (x:zAy) (y:zAJ):Wy zAy zAJ (Bool):=z4c x.1 x.2.1 x.2.2.1 x.2.2.2.2.1 y.1 y.2.1.1 y.2.1.2.1 y.2.2.1.1 y.2.2.1.2.1 y.2.2.2.1.1 y.2.2.2.1.2.1
def z3c (r:Bool):LTree ty:=.done .ret [.lit (.bool r)] []
def z4B:LL ty zAy:=za (lSl 28) (za (lSl 28) (za (lSl 28) (za (lOwn 328) (za lI64 (za (zeJ 329 0) (za (zeJ 330 0) (za (zeJ 331 0) zn)))))))
def z3D:BL ty zAJ:=bArr 43 false (bBox (za (lInt .i64) (za (lInt .i64) zn)) false (bBox (za (lInt .i64) (za (lInt .i64) zn)) false (bBox (za (lInt .i64) (za (lInt .i64) zn)) false (bNil))))
def zQw:Cx ty:=z6I base0 82 [(14,zl2),(17,zGK),(18,zuq),(22,zur),(24,zy4),(26,zNM),(30,zEp),(44,zE6),(45,zQC),(46,zMl),(47,zLI)] [] [(6,[(1,.sl 28),(2,.sl 28),(4,.sl 28),(7,.keep),(8,.keep),(9,.keep),(10,.keep),(11,.keep)])] [(6,0,(kpL [0]))] [] [] [(6,spW z4B z3D (z3C) default z3c fun x y=>(1))]
theorem z2c:zDQ zQw (jn (body Tryz.f12) 6):=zFT (id:=6) (hl:=rfl)
def z6i:Wy0 (Bool):=.k true
def zZz:Bool×Bool:=(z6i).fin default
def z6m:AL base0 (Unit):=aNil
def zLG:Ab.Spec ty:=zh z6m fun x=>((zZz ).1,zTU (zZz ).2)
theorem zYT:Sound Tryz.prog base0 12 zLG:=
 zXD (cx':=zQw) zr zja z9m (z8i ⟨zrx.nodr,zUC.nodr,zBd.nodr,zA3,zHS.nodr,z0q.nodr,zL4.nodr,zSm.nodr,z3f.nodr,zYZ.nodr,zYl.nodr,trivial⟩) Tryz.call12 Tryz.func12 (c:=body Tryz.f12) (by kernel_rfl) (zTs (l:=[]) (by kernel_rfl) trivial (js:=[jn (body Tryz.f12) 6]) (by kernel_rfl) ⟨z2c,trivial⟩) (sg:=⟨[.pure],[]⟩)
def z3N:AL base (yC×Int×Int×Unit):=zd (ze (vSl 28)) (zd (ze (vInt .i64)) (zd (ze (vInt .i64)) aNil))
def zvn (F:yC→Int→Int→Bool×Int):Ab.Spec ty:=zh z3N fun x=>((F x.1 x.2.1 x.2.2.1).1,zN6 (F x.1 x.2.1 x.2.2.1).2)
abbrev zfL:=yC×Int×Int×Int×Int×Int×Unit×Int×Unit
abbrev zyQ:=yC×Int×Int×Int×Int×Int×Atom
abbrev zy5:=yC×Int×Int×Int×Int×Int
abbrev ztl:=yC×Int×Int×Int×Int×Int×Unit
abbrev zy8:=yC×Int×Int×Int×Int
abbrev ztW:=yC×Int×Int×Int×Int×Unit
def zzC (zI:yC→Int→Int→Bool×Int) (a:yC) (limit:Int) (deep:Int) (n_:Int) (i:Int) (k:Int) (j:Int) (x_:Atom):Wy zfL (Atom×Unit) zyQ:=.i (decide (j<Int.ofNat x_.Args.length)) (.i (decide (n_≤limit)) (.i (decide (0≤j)&&decide (j<Int.ofNat x_.Args.length)) (.bn (zI (x_.Args.getD j.toNat default) (IntKind.i64.wrap (limit - n_)) (IntKind.i64.wrap (deep - 1))) fun r0=>.h (a,limit,deep,(IntKind.i64.wrap (n_+r0)),i,k,(),(IntKind.i64.wrap (j+1)),()) (x_,())) .d) (.k (a,limit,deep,n_,i,k,x_))) (.k (a,limit,deep,n_,i,k,x_))
def zGy (zI:yC→Int→Int→Bool×Int) (x:zfL) (y:Atom×Unit):Wy zfL (Atom×Unit) zyQ:=zzC zI x.1 x.2.1 x.2.2.1 x.2.2.2.1 x.2.2.2.2.1 x.2.2.2.2.2.1 x.2.2.2.2.2.2.2.1 y.1
def zzz (zI:yC→Int→Int→Bool×Int) (n:Nat) (a:yC) (limit:Int) (deep:Int) (n_:Int) (i:Int) (k:Int) (j:Int) (x_:Atom):Bool×zyQ:=zF (zGy zI) default n (a,limit,deep,n_,i,k,(),j,()) (x_,())
def zUf (r:zyQ):LTree ty:=.done (.exit 4) [.sl 28 r.1,.lit (.int .i64 r.2.1),.lit (.int .i64 r.2.2.1),.lit (.int .i64 r.2.2.2.1),.lit (.int .i64 r.2.2.2.2.1),.lit (.int .i64 r.2.2.2.2.2.1),.ptr 544 0] [.box (base.enc 67 r.2.2.2.2.2.2) false]
def zWf:LL ty zfL:=za (lSl 28) (za lI64 (za lI64 (za lI64 (za lI64 (za lI64 (za (zeJ 544 0) (za lI64 zn)))))))
def zAr (zI:yC→Int→Int→Bool×Int) (a:yC) (limit:Int) (deep:Int) (n_:Int) (i:Int) (k:Int) (j:Int) (x_:Atom):Wy zfL (Atom×Unit) zy5:=.i (decide (j<Int.ofNat x_.Items.length)) (.i (decide (n_≤limit)) (.i (decide (0≤j)&&decide (j<Int.ofNat x_.Items.length)) (.i (decide (0≤j)&&decide (j<Int.ofNat x_.Items.length)) (.bn (zI (x_.Items.getD j.toNat default).Ann (IntKind.i64.wrap (limit - n_)) (IntKind.i64.wrap (deep - 1))) fun r2=>.h (a,limit,deep,(IntKind.i64.wrap (IntKind.i64.wrap (n_+Int.ofNat (x_.Items.getD j.toNat default).Value.Text.size)+r2)),i,k,(),(IntKind.i64.wrap (j+1)),()) (x_,())) .d) .d) (.k (a,limit,deep,n_,i,k))) (.k (a,limit,deep,n_,i,k))
def zGX (zI:yC→Int→Int→Bool×Int) (x:zfL) (y:Atom×Unit):Wy zfL (Atom×Unit) zy5:=zAr zI x.1 x.2.1 x.2.2.1 x.2.2.2.1 x.2.2.2.2.1 x.2.2.2.2.2.1 x.2.2.2.2.2.2.2.1 y.1
def zzK (zI:yC→Int→Int→Bool×Int) (n:Nat) (a:yC) (limit:Int) (deep:Int) (n_:Int) (i:Int) (k:Int) (j:Int) (x_:Atom):Bool×zy5:=zF (zGX zI) default n (a,limit,deep,n_,i,k,(),j,()) (x_,())
def zUu (r:zy5):LTree ty:=.done (.exit 6) [.sl 28 r.1,.lit (.int .i64 r.2.1),.lit (.int .i64 r.2.2.1),.lit (.int .i64 r.2.2.2.1),.lit (.int .i64 r.2.2.2.2.1),.lit (.int .i64 r.2.2.2.2.2)] []
def zBf (zI:yC→Int→Int→Bool×Int) (a:yC) (limit:Int) (deep:Int) (n_:Int) (i:Int) (k:Int):Wy ztl (Unit) zy8:=.i (decide (0≤i)&&decide (i<Int.ofNat a.length)) (.i (decide (k<Int.ofNat (a.getD i.toNat default).Factors.length)) (.i (decide (n_≤limit)) (.i (decide (0≤i)&&decide (i<Int.ofNat a.length)) (.i (decide (0≤k)&&decide (k<Int.ofNat (a.getD i.toNat default).Factors.length)) (.bn (zzz zI (a.length+limit.toNat +deep.toNat +(IntKind.i64.wrap (IntKind.i64.wrap (IntKind.i64.wrap (n_+Int.ofNat ((a.getD i.toNat default).Factors.getD k.toNat default).Atom.Items.length)+Int.ofNat ((a.getD i.toNat default).Factors.getD k.toNat default).Atom.Args.length)+Int.ofNat ((a.getD i.toNat default).Factors.getD k.toNat default).Atom.Bound.Text.size)).toNat +i.toNat +k.toNat +Int.toNat 0+((a.getD i.toNat default).Factors.getD k.toNat default).Atom.Args.length+((a.getD i.toNat default).Factors.getD k.toNat default).Atom.Items.length+1) a limit deep (IntKind.i64.wrap (IntKind.i64.wrap (IntKind.i64.wrap (n_+Int.ofNat ((a.getD i.toNat default).Factors.getD k.toNat default).Atom.Items.length)+Int.ofNat ((a.getD i.toNat default).Factors.getD k.toNat default).Atom.Args.length)+Int.ofNat ((a.getD i.toNat default).Factors.getD k.toNat default).Atom.Bound.Text.size)) i k 0 (Atom.mk ((a.getD i.toNat default).Factors.getD k.toNat default).Atom.Kind ((a.getD i.toNat default).Factors.getD k.toNat default).Atom.Row ((a.getD i.toNat default).Factors.getD k.toNat default).Atom.Args ((a.getD i.toNat default).Factors.getD k.toNat default).Atom.Func ((a.getD i.toNat default).Factors.getD k.toNat default).Atom.Items ((a.getD i.toNat default).Factors.getD k.toNat default).Atom.Op ((a.getD i.toNat default).Factors.getD k.toNat default).Atom.Bound)) fun r5=>.bn (zzK zI (r5.1.length+r5.2.1.toNat +r5.2.2.1.toNat +r5.2.2.2.1.toNat +r5.2.2.2.2.1.toNat +r5.2.2.2.2.2.1.toNat +Int.toNat 0+r5.2.2.2.2.2.2.Args.length+r5.2.2.2.2.2.2.Items.length+1) r5.1 r5.2.1 r5.2.2.1 r5.2.2.2.1 r5.2.2.2.2.1 r5.2.2.2.2.2.1 0 (Atom.mk r5.2.2.2.2.2.2.Kind r5.2.2.2.2.2.2.Row r5.2.2.2.2.2.2.Args r5.2.2.2.2.2.2.Func r5.2.2.2.2.2.2.Items r5.2.2.2.2.2.2.Op r5.2.2.2.2.2.2.Bound)) fun r4=>.h ((r4.1),(r4.2.1),(r4.2.2.1),(r4.2.2.2.1),(r4.2.2.2.2.1),(IntKind.i64.wrap (r4.2.2.2.2.2+1)),()) ()) .d) .d) (.k (a,limit,deep,n_,i))) (.k (a,limit,deep,n_,i))) .d
def zI1 (zI:yC→Int→Int→Bool×Int) (x:ztl) (y:Unit):Wy ztl (Unit) zy8:=zBf zI x.1 x.2.1 x.2.2.1 x.2.2.2.1 x.2.2.2.2.1 x.2.2.2.2.2.1
def zBr (zI:yC→Int→Int→Bool×Int) (n:Nat) (a:yC) (limit:Int) (deep:Int) (n_:Int) (i:Int) (k:Int):Bool×zy8:=zF (zI1 zI) default n (a,limit,deep,n_,i,k,()) ()
def zWP (r:zy8):LTree ty:=.done (.exit 2) [.sl 28 r.1,.lit (.int .i64 r.2.1),.lit (.int .i64 r.2.2.1),.lit (.int .i64 r.2.2.2.1),.lit (.int .i64 r.2.2.2.2)] []
def zXZ:LL ty ztl:=za (lSl 28) (za lI64 (za lI64 (za lI64 (za lI64 (za lI64 zn)))))
def zBt (zI:yC→Int→Int→Bool×Int) (a:yC) (limit:Int) (deep:Int) (n_:Int) (i:Int):Wy ztW (Unit) (Int):=.i (decide (i<Int.ofNat a.length)) (.i (decide (n_≤limit)) (.i (decide (0≤i)&&decide (i<Int.ofNat a.length)) (.bn (zBr zI (a.length+limit.toNat +deep.toNat +(IntKind.i64.wrap (IntKind.i64.wrap (n_+1)+Int.ofNat (a.getD i.toNat default).Factors.length)).toNat +i.toNat +Int.toNat 0+1) a limit deep (IntKind.i64.wrap (IntKind.i64.wrap (n_+1)+Int.ofNat (a.getD i.toNat default).Factors.length)) i 0) fun r8=>.h ((r8.1),(r8.2.1),(r8.2.2.1),(r8.2.2.2.1),(IntKind.i64.wrap (r8.2.2.2.2+1)),()) ()) .d) (.k n_)) (.k n_)
def zI3 (zI:yC→Int→Int→Bool×Int) (x:ztW) (y:Unit):Wy ztW (Unit) (Int):=zBt zI x.1 x.2.1 x.2.2.1 x.2.2.2.1 x.2.2.2.2.1
def zBo (zI:yC→Int→Int→Bool×Int) (n:Nat) (a:yC) (limit:Int) (deep:Int) (n_:Int) (i:Int):Bool×Int:=zF (zI3 zI) default n (a,limit,deep,n_,i,()) ()
def zY5:LL ty ztW:=za (lSl 28) (za lI64 (za lI64 (za lI64 (za lI64 zn))))
def zUA (x:zfL) (y:Atom×Unit):Nat:=(x.1.length+Int.toNat x.2.1+Int.toNat x.2.2.1+Int.toNat x.2.2.2.1+Int.toNat x.2.2.2.2.1+Int.toNat x.2.2.2.2.2.1+Int.toNat x.2.2.2.2.2.2.2.1+y.1.Args.length+y.1.Items.length+1)
def zVI (x:ztl) (y:Unit):Nat:=(x.1.length+Int.toNat x.2.1+Int.toNat x.2.2.1+Int.toNat x.2.2.2.1+Int.toNat x.2.2.2.2.1+Int.toNat x.2.2.2.2.2.1+1)
def zWB (x:ztW) (y:Unit):Nat:=(x.1.length+Int.toNat x.2.1+Int.toNat x.2.2.1+Int.toNat x.2.2.2.1+Int.toNat x.2.2.2.2.1+1)
def zoF (zI:yC→Int→Int→Bool×Int):Cx ty:=mkCx base 136 [(48,(zvn zI))] [] [(5,(kpL [0,1,2,7,8])),(9,(kpL [0,1,2,7,8,9])),(14,(kpL [0,1,2,7,8,9,10,11])),(18,(kpL [0,1,2,7,8,9,10,12]))] [(5,1,(kpL [7])),(9,3,(kpL [0,1,2,7,8])),(14,5,(kpL [0,1,2,7,8,9,10])),(18,7,(kpL [0,1,2,7,8,9]))] [(14,spW zWf zUD (zGy zI) default zUf zUA),(18,spW zWf zUD (zGX zI) default zUu zUA),(9,spW zXZ z6c (zI1 zI) default zWP zVI),(5,spW zY5 z6c (zI3 zI) default zQr zWB)] []
theorem zUc (zI:yC→Int→Int→Bool×Int):zK (zoF zI) (lp (body Tryz.f48) 2):=zu (id:=14) (hl:=rfl)
theorem zTP (zI:yC→Int→Int→Bool×Int):zK (zoF zI) (lp (body Tryz.f48) 3):=zu (id:=18) (hl:=rfl)
theorem zU8 (zI:yC→Int→Int→Bool×Int):zK (zoF zI) (lp (body Tryz.f48) 1):=zu (id:=9) (hl:=rfl)
theorem zWs (zI:yC→Int→Int→Bool×Int):zK (zoF zI) (lp (body Tryz.f48) 0):=zu (id:=5) (hl:=rfl)
def zCk (zI:yC→Int→Int→Bool×Int) (a:yC) (limit:Int) (deep:Int):Wy0 (Int):=.i (deep==0) (.k (IntKind.i64.wrap (limit+1))) (.bn (zBo zI (a.length+limit.toNat +deep.toNat +Int.toNat 0+Int.toNat 0+1) a limit deep 0 0) fun r10=>.k r10)
def zvb (zI:yC→Int→Int→Bool×Int) (a:yC) (limit:Int) (deep:Int):Bool×Int:=(zCk zI a limit deep).fin default
theorem zRC (zI:yC→Int→Int→Bool×Int) (z0H:SdP 48 (zvn zI)):SdP 48 (zvn (zvb zI)):=
 sW (cx':=(zoF zI)) zr zi zk (zj ⟨z0H,trivial⟩) Tryz.call48 Tryz.func48 (c:=body Tryz.f48) (lOK (aC (zWs zI) (aC (zU8 zI) (aC (zUc zI) (aC (zTP zI) aN)))))
def zZg:Nat→(yC→Int→Int→Bool×Int)
 | 0=>fun _ _ _=>(false,default)
 | n+1=>zvb (zZg n)
def zqn (n:Nat):yC→Int→Int→Bool×Int:=zZg n
theorem zJb (n:Nat):zqn (n+1)=zvb (zqn n):=rfl
theorem zS2:∀ n,SdP 48 (zvn (zqn n))
 | 0=>z6 Tryz.call48 (fun _=>rfl)
 | n+1=>by
  have ih:=zS2 n;exact zRC _ (ih)
def zLp:yC→Int→Int→Bool×Int:=zqn 1000
def ref05_weight_spec:Ab.Spec ty:=zvn zLp
theorem zV3:SdP 48 ref05_weight_spec:=(zS2 1000)
abbrev zzY:=Int×yA×Int×Unit
def zKR (limit:Int) (l:yA) (i:Int):Wy zzY (Unit) (Bool⊕Unit):=.i (decide (i<Int.ofNat l.length)) (.i (decide (0≤i)&&decide (i<Int.ofNat l.length)) (.bn (zLp (l.getD i.toNat default) limit 12) fun r0=>.i (decide (r0>limit)) (.k (.inl false)) (.h (limit,l,(IntKind.i64.wrap (i+1)),()) ())) .d) (.k (.inr ()))
def zWq (x:zzY) (y:Unit):Wy zzY (Unit) (Bool⊕Unit):=zKR x.1 x.2.1 x.2.2.1
def zLs (n:Nat) (limit:Int) (l:yA) (i:Int):Bool×(Bool⊕Unit):=zF (zWq) (.inl default) n (limit,l,i,()) ()
def z7P:LL ty zzY:=za lI64 (za (lSl 23) (za lI64 zn))
def z5M (x:zzY) (y:Unit):Nat:=(Int.toNat x.1+x.2.1.length+Int.toNat x.2.2.1+1)
def zWk:Cx ty:=mkCx base 20 [(48,ref05_weight_spec)] [] [(2,(kpL [0,1,5]))] [(2,1,[]),(2,0,(kpL [4]))] [(2,spW z7P z6c (zWq) (.inl default) zOp z5M)] []
theorem z6d:zK zWk (lp (body Tryz.f13) 0):=zu (id:=2) (hl:=rfl)
def zZo (limit:Int) (l:yA):Wy0 (Bool):=.bn (zLs (limit.toNat +l.length+Int.toNat 0+1) limit l 0) fun r2=>.i (isL r2) (.k (getL r2)) (.k true)
def zzs (limit:Int) (l:yA):Bool×Bool:=(zZo limit l).fin default
def z8S:AL base (Int×yA×Unit):=zd (ze vI64) (zd (ze (vSl 23)) aNil)
def zQz:Ab.Spec ty:=zh z8S fun x=>((zzs x.1 x.2.1).1,zTU (zzs x.1 x.2.1).2)
theorem z3n:SdP 13 zQz:=
 sW (cx':=zWk) zr zi zk (zj ⟨zV3,trivial⟩) Tryz.call13 Tryz.func13 (c:=body Tryz.f13) (lOK (aC z6d aN))
abbrev zrJ:=Unit×Unit×Int×Bool×Int×Unit
abbrev zeF:=Term×Term×Unit
abbrev zxh:=Int×Bool×Term×Term
abbrev zrn:=Unit×Unit×Int×Unit
def zCB (i:Int) (found:Bool) (k:Int) (a:Term) (b:Term):Wy zrJ zeF zxh:=.i (decide (k<Int.ofNat b.Factors.length)) (.i (found) (.h ((),(),i,true,(IntKind.i64.wrap (k+1)),()) (a,b,())) (.i (decide (0≤i)&&decide (i<Int.ofNat a.Factors.length)) (.i (decide (0≤k)&&decide (k<Int.ofNat b.Factors.length)) (.bn (zjc (Atom.mk (a.Factors.getD i.toNat default).Atom.Kind (a.Factors.getD i.toNat default).Atom.Row (a.Factors.getD i.toNat default).Atom.Args (a.Factors.getD i.toNat default).Atom.Func (a.Factors.getD i.toNat default).Atom.Items (a.Factors.getD i.toNat default).Atom.Op (a.Factors.getD i.toNat default).Atom.Bound) (Atom.mk (b.Factors.getD k.toNat default).Atom.Kind (b.Factors.getD k.toNat default).Atom.Row (b.Factors.getD k.toNat default).Atom.Args (b.Factors.getD k.toNat default).Atom.Func (b.Factors.getD k.toNat default).Atom.Items (b.Factors.getD k.toNat default).Atom.Op (b.Factors.getD k.toNat default).Atom.Bound)) fun r0=>.i (r0==0) (.i (decide (0≤i)&&decide (i<Int.ofNat a.Factors.length)) (.i (decide (0≤k)&&decide (k<Int.ofNat b.Factors.length)) (.h ((),(),i,(decide ((a.Factors.getD i.toNat default).Exp≤(b.Factors.getD k.toNat default).Exp)),(IntKind.i64.wrap (k+1)),()) (a,b,())) .d) .d) (.h ((),(),i,false,(IntKind.i64.wrap (k+1)),()) (a,b,()))) .d) .d)) (.k (i,found,a,b))
def zMj (x:zrJ) (y:zeF):Wy zrJ zeF zxh:=zCB x.2.2.1 x.2.2.2.1 x.2.2.2.2.1 y.1 y.2.1
def zCs (n:Nat) (i:Int) (found:Bool) (k:Int) (a:Term) (b:Term):Bool×zxh:=zF (zMj) default n ((),(),i,found,k,()) (a,b,())
def zY2 (r:zxh):LTree ty:=.done (.exit 2) [.ptr 224 0,.ptr 225 0,.lit (.int .i64 r.1),.lit (.bool r.2.1)] [.box (base.enc 28 r.2.2.1) false,.box (base.enc 28 r.2.2.2) false]
def z0s:LL ty zrJ:=za (zeJ 224 0) (za (zeJ 225 0) (za lI64 (za zRW (za lI64 zn))))
def zZ1:BL ty zeF:=bBox (zfl (fun x=>(⟨x.1,x.2.1⟩:Term)) (fun x=>(x.Coeff,x.Factors,())) (fun _=>rfl) (za (lInt .i64) (za (lSl 69) zn))) false (bBox (zfl (fun x=>(⟨x.1,x.2.1⟩:Term)) (fun x=>(x.Coeff,x.Factors,())) (fun _=>rfl) (za (lInt .i64) (za (lSl 69) zn))) false (bNil))
def zCw (i:Int) (a:Term) (b:Term):Wy zrn zeF (Bool⊕Unit):=.i (decide (i<Int.ofNat a.Factors.length)) (.bn (zCs (i.toNat +Int.toNat 0+a.Factors.length+b.Factors.length+1000) i false 0 a b) fun r2=>.i (!r2.2.1) (.k (.inl false)) (.h ((),(),(IntKind.i64.wrap (r2.1+1)),()) ((r2.2.2.1),(r2.2.2.2),()))) (.k (.inr ()))
def zK6 (x:zrn) (y:zeF):Wy zrn zeF (Bool⊕Unit):=zCw x.2.2.1 y.1 y.2.1
def zCt (n:Nat) (i:Int) (a:Term) (b:Term):Bool×(Bool⊕Unit):=zF (zK6) (.inl default) n ((),(),i,()) (a,b,())
def z0w:LL ty zrn:=za (zeJ 224 0) (za (zeJ 225 0) (za lI64 zn))
def zYX (x:zrJ) (y:zeF):Nat:=(Int.toNat x.2.2.1+Int.toNat x.2.2.2.2.1+y.1.Factors.length+y.2.1.Factors.length+1000)
def zY0 (x:zrn) (y:zeF):Nat:=(Int.toNat x.2.2.1+y.1.Factors.length+y.2.1.Factors.length+1000)
def zCz:Cx ty:=mkCx base 56 [(53,ref05_CompareAtom_spec)] [] [(2,(kpL [2,3,5])),(6,(kpL [2,3,5,6,7]))] [(2,1,[]),(2,0,(kpL [4])),(6,3,(kpL [2,3,5,6]))] [(6,spW z0s zZ1 (zMj) default zY2 zYX),(2,spW z0w zZ1 (zK6) (.inl default) zOp zY0)] []
theorem zYj:zK zCz (lp (body Tryz.f15) 1):=zu (id:=6) (hl:=rfl)
theorem zY1:zK zCz (lp (body Tryz.f15) 0):=zu (id:=2) (hl:=rfl)
def zNG (a:Term) (b:Term):Wy0 (Bool):=.bn (zCt (Int.toNat 0+a.Factors.length+b.Factors.length+1000) 0 a b) fun r4=>.i (isL r4) (.k (getL r4)) (.k true)
def zxR (a:Term) (b:Term):Bool×Bool:=(zNG a b).fin default
def z2N:AL base zeF:=zd (ze (vAgg 28)) (zd (ze (vAgg 28)) aNil)
def zGI:Ab.Spec ty:=zh z2N fun x=>((zxR x.1 x.2.1).1,zTU (zxR x.1 x.2.1).2)
theorem zUi:SdP 15 zGI:=
 sW (cx':=zCz) zr zi zk (zj ⟨zsJ,trivial⟩) Tryz.call15 Tryz.func15 (c:=body Tryz.f15) (lOK (aC zY1 (aC zYj aN)))
abbrev ztD:=yC×yC×Int×Bool×Int×Unit
abbrev zyO:=yC×yC×Int×Bool
abbrev ztJ:=yC×yC×Int×Unit
def zEg (a:yC) (b:yC) (i:Int) (found:Bool) (k:Int):Wy ztD (Unit) zyO:=.i (decide (k<Int.ofNat b.length)) (.i (found) (.h (a,b,i,true,(IntKind.i64.wrap (k+1)),()) ()) (.i (decide (0≤k)&&decide (k<Int.ofNat b.length)) (.i (decide (0≤i)&&decide (i<Int.ofNat a.length)) (.bn (zxR (b.getD k.toNat default) (a.getD i.toNat default)) fun r0=>.h (a,b,i,(r0),(IntKind.i64.wrap (k+1)),()) ()) .d) .d)) (.k (a,b,i,found))
def zNB (x:ztD) (y:Unit):Wy ztD (Unit) zyO:=zEg x.1 x.2.1 x.2.2.1 x.2.2.2.1 x.2.2.2.2.1
def zD0 (n:Nat) (a:yC) (b:yC) (i:Int) (found:Bool) (k:Int):Bool×zyO:=zF (zNB) default n (a,b,i,found,k,()) ()
def z01 (r:zyO):LTree ty:=.done (.exit 2) [.sl 28 r.1,.sl 28 r.2.1,.lit (.int .i64 r.2.2.1),.lit (.bool r.2.2.2)] []
def z2r:LL ty ztD:=za (lSl 28) (za (lSl 28) (za lI64 (za zRW (za lI64 zn))))
def zD8 (a:yC) (b:yC) (i:Int):Wy ztJ (Unit) (Bool⊕Unit):=.i (decide (i<Int.ofNat a.length)) (.bn (zD0 (a.length+b.length+i.toNat +Int.toNat 0+1000) a b i false 0) fun r2=>.i (!r2.2.2.2) (.k (.inl false)) (.h ((r2.1),(r2.2.1),(IntKind.i64.wrap (r2.2.2.1+1)),()) ())) (.k (.inr ()))
def zNi (x:ztJ) (y:Unit):Wy ztJ (Unit) (Bool⊕Unit):=zD8 x.1 x.2.1 x.2.2.1
def zDD (n:Nat) (a:yC) (b:yC) (i:Int):Bool×(Bool⊕Unit):=zF (zNi) (.inl default) n (a,b,i,()) ()
def z2n:LL ty ztJ:=za (lSl 28) (za (lSl 28) (za lI64 zn))
def zZ2 (x:ztD) (y:Unit):Nat:=(x.1.length+x.2.1.length+Int.toNat x.2.2.1+Int.toNat x.2.2.2.2.1+1000)
def z0Q (x:ztJ) (y:Unit):Nat:=(x.1.length+x.2.1.length+Int.toNat x.2.2.1+1000)
def zDA:Cx ty:=mkCx base 42 [(15,zGI),(16,ref05_Valid_spec)] [] [(4,(kpL [0,1,5])),(8,(kpL [0,1,5,6,7]))] [(4,1,[]),(4,0,(kpL [4])),(8,3,(kpL [0,1,5,6]))] [(8,spW z2r z6c (zNB) default z01 zZ2),(4,spW z2n z6c (zNi) (.inl default) zOp z0Q)] []
theorem zZ4:zK zDA (lp (body Tryz.f19) 1):=zu (id:=8) (hl:=rfl)
theorem z1j:zK zDA (lp (body Tryz.f19) 0):=zu (id:=4) (hl:=rfl)
def zQQ (a:yC) (b:yC):Wy0 (Bool):=.bn (zeP a) fun r6=>.i (!r6) (.k false) (.bn (zeP b) fun r5=>.i (!r5) (.k false) (.bn (zDD (a.length+b.length+Int.toNat 0+1000) a b 0) fun r4=>.i (isL r4) (.k (getL r4)) (.k true)))
def zAi (a:yC) (b:yC):Bool×Bool:=(zQQ a b).fin default
def zI8:Ab.Spec ty:=zh zRZ fun x=>((zAi x.1 x.2.1).1,zTU (zAi x.1 x.2.1).2)
theorem zWc:SdP 19 zI8:=
 sW (cx':=zDA) zr zi zk (zj ⟨zUi,zI6,trivial⟩) Tryz.call19 Tryz.func19 (c:=body Tryz.f19) (lOK (aC z1j (aC zZ4 aN)))
abbrev zk6:=yC×yC×Bool×Unit
abbrev zdV:=yC×yC×Bool×Bool×Unit
abbrev zdc:=yC×yC×yC×Unit
def zps (a:yC) (b:yC) (x_:Bool):Wy zk6 (Unit) (Bool):=.bn (zp2 a b) fun r3=>.i (r3.2 != 0) (.k true) (.bn (zel r3.1) fun r2=>.bn (zel b) fun r1=>.bn (zee r2 r1) fun r0=>.k (x_==r0))
def zpp (x:zk6) (y:Unit):Wy zk6 (Unit) (Bool):=zps x.1 x.2.1 x.2.2.1
def zpr (n:Nat) (a:yC) (b:yC) (x_:Bool):Bool×Bool:=zF (zpp) default n (a,b,x_,()) ()
def zJk:LL ty zk6:=za (lSl 28) (za (lSl 28) (za zRW zn))
def zpD (a:yC) (b:yC) (x_:Bool) (y_:Bool):Wy zdV (Unit) (Bool):=.i (x_) (.bn (zel a) fun r11=>.bn (zel b) fun r10=>.bn (zee r11 r10) fun r9=>.i (!y_==r9) (.k false) (.bn (zpr 1 a b x_) fun r8=>.k r8)) (.bn (zel a) fun r15=>.bn (zel b) fun r14=>.bn (zee r15 r14) fun r13=>.i (!false==r13) (.k false) (.bn (zpr 1 a b x_) fun r12=>.k r12))
def zpM (x:zdV) (y:Unit):Wy zdV (Unit) (Bool):=zpD x.1 x.2.1 x.2.2.1 x.2.2.2.1
def zyK (n:Nat) (a:yC) (b:yC) (x_:Bool) (y_:Bool):Bool×Bool:=zF (zpM) default n (a,b,x_,y_,()) ()
def zJv:LL ty zdV:=za (lSl 28) (za (lSl 28) (za zRW (za zRW zn)))
def zrL (a:yC) (b:yC) (x_:Bool) (y_:Bool):Wy zdV (Unit) (Bool):=.bn (zbU a) fun r26=>.i (!r26) (.i (!x_) (.k (!y_)) (.k false)) (.bn (zbU b) fun r25=>.i (!r25) (.i (!x_) (.k (!y_)) (.k false)) (.bn (zyK 1 a b x_ y_) fun r24=>.k r24))
def zru (x:zdV) (y:Unit):Wy zdV (Unit) (Bool):=zrL x.1 x.2.1 x.2.2.1 x.2.2.2.1
def zle (n:Nat) (a:yC) (b:yC) (x_:Bool) (y_:Bool):Bool×Bool:=zF (zru) default n (a,b,x_,y_,()) ()
def zqW (a:yC) (b:yC) (c:yC):Wy zdc (Unit) (Bool):=.bn (zeN a b) fun r37=>.bn (zeN b a) fun r36=>.bn (zAi a b) fun r35=>.i (!r37==r35) (.k false) (.i (r37) (.bn (zeN b c) fun r33=>.i (r33) (.bn (zeN a c) fun r31=>.i (!r31) (.k false) (.bn (zle 1 a b r37 r36) fun r30=>.k r30)) (.bn (zle 1 a b r37 r36) fun r32=>.k r32)) (.bn (zle 1 a b r37 r36) fun r34=>.k r34))
def zrs (x:zdc) (y:Unit):Wy zdc (Unit) (Bool):=zqW x.1 x.2.1 x.2.2.1
def zAm (n:Nat) (a:yC) (b:yC) (c:yC):Bool×Bool:=zF (zrs) default n (a,b,c,()) ()
def zKL:LL ty zdc:=za (lSl 28) (za (lSl 28) (za (lSl 28) zn))
def zrG (a:yC) (b:yC) (c:yC):Wy zdc (Unit) (Bool):=.bn (zzs 30 [a,b,c]) fun r47=>.i (!r47) (.k true) (.bn (zAm 1 a b c) fun r46=>.k r46)
def zrp (x:zdc) (y:Unit):Wy zdc (Unit) (Bool):=zrG x.1 x.2.1 x.2.2.1
def zAq (n:Nat) (a:yC) (b:yC) (c:yC):Bool×Bool:=zF (zrp) default n (a,b,c,()) ()
def zfA:Cx ty:=z6I base0 85 [(12,zLG),(13,zQz),(18,zuq),(19,zI8),(20,annotation_Valid_spec),(21,zkt),(22,zur),(23,zyv)] [] [(3,(kpL [0,1,2])),(5,(kpL [0,1,2])),(8,(kpL [0,1,7,8])),(10,(kpL [0,1,7,8])),(12,(kpL [0,1,7]))] [(3,0,(kpL [6])),(5,0,(kpL [6])),(8,0,(kpL [6])),(10,0,(kpL [6])),(12,0,(kpL [6]))] [] [] [(12,spW zJk z6c (zpp) default z3c fun x y=>(1)),(10,spW zJv z6c (zpM) default z3c fun x y=>(1)),(8,spW zJv z6c (zru) default z3c fun x y=>(1)),(5,spW zKL z6c (zrs) default z3c fun x y=>(1)),(3,spW zKL z6c (zrp) default z3c fun x y=>(1))]
theorem zIH:zDQ zfA (jn (body Tryz.f4) 12):=zFT (id:=12) (hl:=rfl)
theorem zHL:zDQ zfA (jn (body Tryz.f4) 10):=zFT (id:=10) (hl:=rfl)
theorem zKe:zDQ zfA (jn (body Tryz.f4) 8):=zFT (id:=8) (hl:=rfl)
theorem zJO:zDQ zfA (jn (body Tryz.f4) 5):=zFT (id:=5) (hl:=rfl)
theorem zKm:zDQ zfA (jn (body Tryz.f4) 3):=zFT (id:=3) (hl:=rfl)
def zAX (a:yC) (b:yC) (c:yC):Wy0 (Bool):=.bn (zAq 1 a b c) fun r50=>.k r50
def zhk (a:yC) (b:yC) (c:yC):Bool×Bool:=(zAX a b c).fin default
def zM4:AL base0 zdc:=zd (ze (vSl 28)) (zd (ze (vSl 28)) (zd (ze (vSl 28)) aNil))
def zoe:Ab.Spec ty:=zh zM4 fun x=>((zhk x.1 x.2.1 x.2.2.1).1,zTU (zhk x.1 x.2.1 x.2.2.1).2)
theorem zG5:Sound Tryz.prog base0 4 zoe:=
 zXD (cx':=zfA) zr zja z9m (z8i ⟨zYT,z3n.nodr,zBd.nodr,zWc.nodr,zb9.nodr,zmR.nodr,zA3,zDM,trivial⟩) Tryz.call4 Tryz.func4 (c:=body Tryz.f4) (by kernel_rfl) (zTs (l:=[]) (by kernel_rfl) trivial (js:=[jn (body Tryz.f4) 3,jn (body Tryz.f4) 5,jn (body Tryz.f4) 8,jn (body Tryz.f4) 10,jn (body Tryz.f4) 12]) (by kernel_rfl) ⟨zKm,zJO,zKe,zHL,zIH,trivial⟩) (sg:=⟨[.pure],[]⟩)
def trV (v:Value):TT:=.l [.i v.Kind,.i v.Int,trB v.Text]
mutual
def zdl:Atom→TT
 | ⟨k,r,a,f,i,o,b⟩=>.l [.i k,.i r.Table,.i r.Seq,.l (zxL a),.i f,.l (zht i),.i o,trV b]
def zh2:Factor→TT
 | ⟨x,e⟩=>.l [zdl x,.i e]
def zbz:yD→List TT
 | []=>[]
 | x::r=>zh2 x::zbz r
def zzP:Term→TT
 | ⟨c,fs⟩=>.l [.l (zbz fs),.i c]
def zdz:yC→List TT
 | []=>[]
 | x::r=>zzP x::zdz r
def zxL:yA→List TT
 | []=>[]
 | x::r=>.l (zdz x)::zxL r
def zbc:Weighted→TT
 | ⟨v,a⟩=>.l [trV v,.l (zdz a)]
def zht:yE→List TT
 | []=>[]
 | x::r=>zbc x::zht r
end
theorem zxY:∀ l,zbz l=l.map zh2
 | []=>by rw [zbz]; rfl
 | x::r=>by rw [zbz,zxY r]; rfl
theorem zGU:∀ l,zdz l=l.map zzP
 | []=>by rw [zdz]; rfl
 | x::r=>by rw [zdz,zGU r]; rfl
theorem zDs:∀ l,zxL l=l.map fun x=>.l (zdz x)
 | []=>by rw [zxL]; rfl
 | x::r=>by rw [zxL,zDs r]; rfl
theorem zmX:∀ l,zht l=l.map zbc
 | []=>by rw [zht]; rfl
 | x::r=>by rw [zht,zmX r]; rfl
theorem zHH:∀ a b:List UInt8,(a.map fun x=>TT.i (x.toNat:Int))=(b.map fun x=>TT.i (x.toNat:Int))→a=b
 | [],[]=>fun _=>rfl
 | [],_::_=>fun h=>by simp at h
 | _::_,[]=>fun h=>by simp at h
 | x::a,y::b=>fun h=>by
  simp only [List.map,qj,TT.i.injEq] at h;rw [zHH a b h.2,UInt8.toNat_inj.1 (Int.ofNat.inj h.1)]
theorem z9x {a b:Value} (h:trV a=trV b):a=b:=by
 obtain ⟨k,n,s⟩:=a; obtain ⟨k',n',s'⟩:=b;simp only [trV,trB,TT.l.injEq,qj,TT.i.injEq,and_true] at h;obtain ⟨rfl,rfl,h⟩:=h;have:=zHH _ _ h;obtain ⟨⟨l⟩⟩:=s; obtain ⟨⟨l'⟩⟩:=s';simp only at this; subst this; rfl
mutual
theorem zRf:∀ a b:Atom,zdl a=zdl b→a=b
 | ⟨k,r,a,f,i,o,v⟩,⟨k',r',a',f',i',o',v'⟩=>fun h=>by
  simp only [zdl,TT.l.injEq,qj,TT.i.injEq,and_true] at h;obtain ⟨rfl,h1,h2,h3,rfl,h4,rfl,h5⟩:=h;obtain ⟨t,s⟩:=r; obtain ⟨t',s'⟩:=r';simp only at h1 h2; subst h1 h2;rw [z2w a a' h3,zZN i i' h4,z9x h5]
theorem zWF:∀ a b:Factor,zh2 a=zh2 b→a=b
 | ⟨x,e⟩,⟨x',e'⟩=>fun h=>by
  simp only [zh2,TT.l.injEq,qj,TT.i.injEq,and_true] at h;rw [zRf x x' h.1,h.2]
theorem zCc:∀ a b:yD,zbz a=zbz b→a=b
 | [],[]=>fun _=>rfl
 | [],_::_=>fun h=>by simp [zbz] at h
 | _::_,[]=>fun h=>by simp [zbz] at h
 | x::a,y::b=>fun h=>by
  simp only [zbz,qj] at h;rw [zWF x y h.1,zCc a b h.2]
theorem z97:∀ a b:Term,zzP a=zzP b→a=b
 | ⟨c,l⟩,⟨c',l'⟩=>fun h=>by
  simp only [zzP,TT.l.injEq,qj,TT.i.injEq,and_true] at h;rw [zCc l l' h.1,h.2]
theorem zGA:∀ a b:yC,zdz a=zdz b→a=b
 | [],[]=>fun _=>rfl
 | [],_::_=>fun h=>by simp [zdz] at h
 | _::_,[]=>fun h=>by simp [zdz] at h
 | x::a,y::b=>fun h=>by
  simp only [zdz,qj] at h;rw [z97 x y h.1,zGA a b h.2]
theorem z2w:∀ a b:yA,zxL a=zxL b→a=b
 | [],[]=>fun _=>rfl
 | [],_::_=>fun h=>by simp [zxL] at h
 | _::_,[]=>fun h=>by simp [zxL] at h
 | x::a,y::b=>fun h=>by
  simp only [zxL,qj,TT.l.injEq] at h;rw [zGA x y h.1,z2w a b h.2]
theorem z2T:∀ a b:Weighted,zbc a=zbc b→a=b
 | ⟨c,l⟩,⟨c',l'⟩=>fun h=>by
  simp only [zbc,TT.l.injEq,qj,and_true] at h;rw [z9x h.1,zGA l l' h.2]
theorem zZN:∀ a b:yE,zht a=zht b→a=b
 | [],[]=>fun _=>rfl
 | [],_::_=>fun h=>by simp [zht] at h
 | _::_,[]=>fun h=>by simp [zht] at h
 | x::a,y::b=>fun h=>by
  simp only [zht,qj] at h;rw [z2T x y h.1,zZN a b h.2]
end
def zcV (P:yC→Prop) (x:Atom):Prop:=
 (x.Args.length≤1000000∧x.Items.length≤1000000∧x.Bound.Text.size≤1000000000000)∧(∀ a∈x.Args,P a)∧∀ w∈x.Items,w.Value.Text.size≤1000000000000∧P w.Ann
def zcb (P:yC→Prop) (l:yD):Prop:=l.length≤1000000∧∀ f∈l,zcV P f.Atom
def zo:Nat→yC→Prop
 | 0,_=>False
 | n+1,a=>a.length≤1000000∧∀ t∈a,zcb (zo n) t.Factors
theorem zcV.imp {P Q:yC→Prop} (h:∀ a,P a→Q a) {x:Atom} (hx:zcV P x):zcV Q x:=⟨hx.1,fun a ha=>h a (hx.2.1 a ha),fun w hw=>⟨(hx.2.2 w hw).1,h _ (hx.2.2 w hw).2⟩⟩
theorem zo.succ:∀ (n:Nat) (a:yC),zo n a→zo (n+1) a
 | 0,_,h=>h.elim
 | n+1,a,h=>⟨h.1,fun t ht=>⟨(h.2 t ht).1,fun f hf=>((h.2 t ht).2 f hf).imp (zo.succ n)⟩⟩
theorem zo.mono {n m:Nat} {a:yC} (h:zo n a) (hm:n≤m):zo m a:=by
 obtain ⟨k,rfl⟩:=Nat.exists_eq_add_of_le hm;clear hm;induction k with
 | zero=>exact h
 | succ k ih=>exact zo.succ _ _ ih
end Go.Proofs.YtljlfiomikifjaaGreatDoor
end
