/- Texts of this claim, joined (the program, its functions in plain words, and what they compute). -/
import Derived.Test.YtljlfiomikifjaaGreatDoorGC2
set_option autoImplicit false
set_option linter.unusedVariables false
set_option linter.unusedSectionVars false
set_option linter.unusedSimpArgs false
set_option maxRecDepth 1000000
set_option maxHeartbeats 0
noncomputable section
namespace Go.Proofs.YtljlfiomikifjaaGreatDoor
open Go Go.Ab
abbrev zjw:=Int×Unit×Int×yC×Int×Int×yD×Int×Int×yA×Int×Int×Unit
abbrev zmO:=Int×Int×yC×Int×Int×yD×Int×Int×Factor
abbrev zi8:=Int×Int×yC×Int×Int×yD×Int×Int×yE×Int×Int×Unit
abbrev zmB:=Int×Int×yC×Int×Int×yD×Int×Int
abbrev zjc:=Int×yC×Int×Int×yD×Int×Int×Unit
abbrev zmK:=Int×yC×Int×Int
abbrev zjo:=Int×yC×Int×Int×Unit
def zg7 (zm:yC→Bool×Int) (n_:Int) (inner:Int) (t13:yC) (t14:Int) (t15:Int) (t20:yD) (t21:Int) (t22:Int) (t32:yA) (t33:Int) (t34:Int) (f:Factor):Wy zjw (Factor×Unit) zmO:=.i (decide (t34<t33)) (.i (decide (0≤t34)&&decide (t34<Int.ofNat t32.length)) (.bn (zm (t32.getD t34.toNat default)) fun r0=>.h (n_,(),(if r0>inner then r0 else inner),t13,t14,t15,t20,t21,t22,t32,t33,(IntKind.i64.wrap (t34+1)),()) (f,())) .d) (.k (n_,inner,t13,t14,t15,t20,t21,t22,f))
def zo3 (zm:yC→Bool×Int) (x:zjw) (y:Factor×Unit):Wy zjw (Factor×Unit) zmO:=zg7 zm x.1 x.2.2.1 x.2.2.2.1 x.2.2.2.2.1 x.2.2.2.2.2.1 x.2.2.2.2.2.2.1 x.2.2.2.2.2.2.2.1 x.2.2.2.2.2.2.2.2.1 x.2.2.2.2.2.2.2.2.2.1 x.2.2.2.2.2.2.2.2.2.2.1 x.2.2.2.2.2.2.2.2.2.2.2.1 y.1
def zxH (zm:yC→Bool×Int) (n:Nat) (n_:Int) (inner:Int) (t13:yC) (t14:Int) (t15:Int) (t20:yD) (t21:Int) (t22:Int) (t32:yA) (t33:Int) (t34:Int) (f:Factor):Bool×zmO:=zJ (zo3 zm) default n (n_,(),inner,t13,t14,t15,t20,t21,t22,t32,t33,t34,()) (f,())
def zGv (r:zmO):LTree ty:=.done (.exit 4) [.lit (.int .i64 r.1),.ptr 256 0,.lit (.int .i64 r.2.1),.sl 28 r.2.2.1,.lit (.int .i64 r.2.2.2.1),.lit (.int .i64 r.2.2.2.2.1),.sl 69 r.2.2.2.2.2.1,.lit (.int .i64 r.2.2.2.2.2.2.1),.lit (.int .i64 r.2.2.2.2.2.2.2.1)] [.box (base.enc 69 r.2.2.2.2.2.2.2.2) false]
def zJb:LL ty zjw:=za lI64 (za (zdC 256 0) (za lI64 (za (lSl 28) (za lI64 (za lI64 (za (lSl 69) (za lI64 (za lI64 (za (lSl 23) (za lI64 (za lI64 zn)))))))))))
def zgZ (zm:yC→Bool×Int) (n_:Int) (inner:Int) (t13:yC) (t14:Int) (t15:Int) (t20:yD) (t21:Int) (t22:Int) (t45:yE) (t46:Int) (t47:Int):Wy zi8 (Unit) zmB:=.i (decide (t47<t46)) (.i (decide (0≤t47)&&decide (t47<Int.ofNat t45.length)) (.bn (zm (t45.getD t47.toNat default).Ann) fun r2=>.h (n_,(if r2>inner then r2 else inner),t13,t14,t15,t20,t21,t22,t45,t46,(IntKind.i64.wrap (t47+1)),()) ()) .d) (.k (n_,inner,t13,t14,t15,t20,t21,t22))
def zpd (zm:yC→Bool×Int) (x:zi8) (y:Unit):Wy zi8 (Unit) zmB:=zgZ zm x.1 x.2.1 x.2.2.1 x.2.2.2.1 x.2.2.2.2.1 x.2.2.2.2.2.1 x.2.2.2.2.2.2.1 x.2.2.2.2.2.2.2.1 x.2.2.2.2.2.2.2.2.1 x.2.2.2.2.2.2.2.2.2.1 x.2.2.2.2.2.2.2.2.2.2.1
def zxl (zm:yC→Bool×Int) (n:Nat) (n_:Int) (inner:Int) (t13:yC) (t14:Int) (t15:Int) (t20:yD) (t21:Int) (t22:Int) (t45:yE) (t46:Int) (t47:Int):Bool×zmB:=zJ (zpd zm) default n (n_,inner,t13,t14,t15,t20,t21,t22,t45,t46,t47,()) ()
def zGH (r:zmB):LTree ty:=.done (.exit 6) [.lit (.int .i64 r.1),.lit (.int .i64 r.2.1),.sl 28 r.2.2.1,.lit (.int .i64 r.2.2.2.1),.lit (.int .i64 r.2.2.2.2.1),.sl 69 r.2.2.2.2.2.1,.lit (.int .i64 r.2.2.2.2.2.2.1),.lit (.int .i64 r.2.2.2.2.2.2.2)] []
def zH4:LL ty zi8:=za lI64 (za lI64 (za (lSl 28) (za lI64 (za lI64 (za (lSl 69) (za lI64 (za lI64 (za (lSl 100) (za lI64 (za lI64 zn))))))))))
def zhP (zm:yC→Bool×Int) (n_:Int) (t13:yC) (t14:Int) (t15:Int) (t20:yD) (t21:Int) (t22:Int):Wy zjc (Unit) zmK:=.i (decide (t22<t21)) (.i (decide (0≤t22)&&decide (t22<Int.ofNat t20.length)) (.i ((t20.getD t22.toNat default).Atom.Kind==0) (.h (n_,t13,t14,t15,t20,t21,(IntKind.i64.wrap (t22+1)),()) ()) (.bn (zxH zm (n_.toNat +Int.toNat 0+t13.length+t14.toNat +t15.toNat +t20.length+t21.toNat +t22.toNat +(t20.getD t22.toNat default).Atom.Args.length+(Int.ofNat (t20.getD t22.toNat default).Atom.Args.length).toNat +Int.toNat 0+(t20.getD t22.toNat default).Atom.Args.length+(t20.getD t22.toNat default).Atom.Items.length+1) n_ 0 t13 t14 t15 t20 t21 t22 (t20.getD t22.toNat default).Atom.Args (Int.ofNat (t20.getD t22.toNat default).Atom.Args.length) 0 (FactorOf.mk (Atom.mk (t20.getD t22.toNat default).Atom.Kind (t20.getD t22.toNat default).Atom.Row (t20.getD t22.toNat default).Atom.Args (t20.getD t22.toNat default).Atom.Func (t20.getD t22.toNat default).Atom.Items (t20.getD t22.toNat default).Atom.Op (t20.getD t22.toNat default).Atom.Bound) (t20.getD t22.toNat default).Exp)) fun r5=>.bn (zxl zm (r5.1.toNat +r5.2.1.toNat +r5.2.2.1.length+r5.2.2.2.1.toNat +r5.2.2.2.2.1.toNat +r5.2.2.2.2.2.1.length+r5.2.2.2.2.2.2.1.toNat +r5.2.2.2.2.2.2.2.1.toNat +r5.2.2.2.2.2.2.2.2.Atom.Items.length+(Int.ofNat r5.2.2.2.2.2.2.2.2.Atom.Items.length).toNat +Int.toNat 0+1) r5.1 r5.2.1 r5.2.2.1 r5.2.2.2.1 r5.2.2.2.2.1 r5.2.2.2.2.2.1 r5.2.2.2.2.2.2.1 r5.2.2.2.2.2.2.2.1 r5.2.2.2.2.2.2.2.2.Atom.Items (Int.ofNat r5.2.2.2.2.2.2.2.2.Atom.Items.length) 0) fun r4=>.h ((if IntKind.i64.wrap (1+r4.2.1)>r4.1 then IntKind.i64.wrap (1+r4.2.1) else r4.1),(r4.2.2.1),(r4.2.2.2.1),(r4.2.2.2.2.1),(r4.2.2.2.2.2.1),(r4.2.2.2.2.2.2.1),(IntKind.i64.wrap (r4.2.2.2.2.2.2.2+1)),()) ())) .d) (.k (n_,t13,t14,t15))
def zrh (zm:yC→Bool×Int) (x:zjc) (y:Unit):Wy zjc (Unit) zmK:=zhP zm x.1 x.2.1 x.2.2.1 x.2.2.2.1 x.2.2.2.2.1 x.2.2.2.2.2.1 x.2.2.2.2.2.2.1
def zyG (zm:yC→Bool×Int) (n:Nat) (n_:Int) (t13:yC) (t14:Int) (t15:Int) (t20:yD) (t21:Int) (t22:Int):Bool×zmK:=zJ (zrh zm) default n (n_,t13,t14,t15,t20,t21,t22,()) ()
def zHL (r:zmK):LTree ty:=.done (.exit 2) [.lit (.int .i64 r.1),.sl 28 r.2.1,.lit (.int .i64 r.2.2.1),.lit (.int .i64 r.2.2.2)] []
def zJW:LL ty zjc:=za lI64 (za (lSl 28) (za lI64 (za lI64 (za (lSl 69) (za lI64 (za lI64 zn))))))
def zh2 (zm:yC→Bool×Int) (n_:Int) (t13:yC) (t14:Int) (t15:Int):Wy zjo (Unit) (Int):=.i (decide (t15<t14)) (.i (decide (0≤t15)&&decide (t15<Int.ofNat t13.length)) (.bn (zyG zm (n_.toNat +t13.length+t14.toNat +t15.toNat +(t13.getD t15.toNat default).Factors.length+(Int.ofNat (t13.getD t15.toNat default).Factors.length).toNat +Int.toNat 0+1) n_ t13 t14 t15 (t13.getD t15.toNat default).Factors (Int.ofNat (t13.getD t15.toNat default).Factors.length) 0) fun r8=>.h ((r8.1),(r8.2.1),(r8.2.2.1),(IntKind.i64.wrap (r8.2.2.2+1)),()) ()) .d) (.k n_)
def zrj (zm:yC→Bool×Int) (x:zjo) (y:Unit):Wy zjo (Unit) (Int):=zh2 zm x.1 x.2.1 x.2.2.1 x.2.2.2.1
def zyC (zm:yC→Bool×Int) (n:Nat) (n_:Int) (t13:yC) (t14:Int) (t15:Int):Bool×Int:=zJ (zrj zm) default n (n_,t13,t14,t15,()) ()
def zJA:LL ty zjo:=za lI64 (za (lSl 28) (za lI64 (za lI64 zn)))
def zHf (x:zjw) (y:Factor×Unit):Nat:=(Int.toNat x.1+Int.toNat x.2.2.1+x.2.2.2.1.length+Int.toNat x.2.2.2.2.1+Int.toNat x.2.2.2.2.2.1+x.2.2.2.2.2.2.1.length+Int.toNat x.2.2.2.2.2.2.2.1+Int.toNat x.2.2.2.2.2.2.2.2.1+x.2.2.2.2.2.2.2.2.2.1.length+Int.toNat x.2.2.2.2.2.2.2.2.2.2.1+Int.toNat x.2.2.2.2.2.2.2.2.2.2.2.1+y.1.Atom.Args.length+y.1.Atom.Items.length+1)
def zGU (x:zi8) (y:Unit):Nat:=(Int.toNat x.1+Int.toNat x.2.1+x.2.2.1.length+Int.toNat x.2.2.2.1+Int.toNat x.2.2.2.2.1+x.2.2.2.2.2.1.length+Int.toNat x.2.2.2.2.2.2.1+Int.toNat x.2.2.2.2.2.2.2.1+x.2.2.2.2.2.2.2.2.1.length+Int.toNat x.2.2.2.2.2.2.2.2.2.1+Int.toNat x.2.2.2.2.2.2.2.2.2.2.1+1)
def zJc (x:zjc) (y:Unit):Nat:=(Int.toNat x.1+x.2.1.length+Int.toNat x.2.2.1+Int.toNat x.2.2.2.1+x.2.2.2.2.1.length+Int.toNat x.2.2.2.2.2.1+Int.toNat x.2.2.2.2.2.2.1+1)
def zH1 (x:zjo) (y:Unit):Nat:=(Int.toNat x.1+x.2.1.length+Int.toNat x.2.2.1+Int.toNat x.2.2.2.1+1)
def zhS (zm:yC→Bool×Int):Cx ty:=mkCx base 64 [(114,(zsf zm))] [] [(3,(kpL [3,13,14,15])),(6,(kpL [3,13,14,15,20,21,22])),(11,(kpL [3,7,8,13,14,15,20,21,22,32,33,34])),(16,(kpL [3,8,13,14,15,20,21,22,45,46,47]))] [(3,1,(kpL [3])),(6,3,(kpL [3,13,14,15])),(11,5,(kpL [3,7,8,13,14,15,20,21,22])),(16,7,(kpL [3,8,13,14,15,20,21,22]))] [(11,spW zJb zM2 (zo3 zm) default zGv zHf),(16,spW zH4 zSV (zpd zm) default zGH zGU),(6,spW zJW zSV (zrh zm) default zHL zJc),(3,spW zJA zSV (zrj zm) default zQS zH1)] []
theorem zGY (zm:yC→Bool×Int):zI (zhS zm) (lp (body Tryz.f114) 2):=zt (id:=11) (hl:=rfl)
theorem zHs (zm:yC→Bool×Int):zI (zhS zm) (lp (body Tryz.f114) 3):=zt (id:=16) (hl:=rfl)
theorem zH6 (zm:yC→Bool×Int):zI (zhS zm) (lp (body Tryz.f114) 1):=zt (id:=6) (hl:=rfl)
theorem zH7 (zm:yC→Bool×Int):zI (zhS zm) (lp (body Tryz.f114) 0):=zt (id:=3) (hl:=rfl)
def zzj (zm:yC→Bool×Int) (a:yC):Wy0 (Int):=.bn (zyC zm (Int.toNat 0+a.length+(Int.ofNat a.length).toNat +Int.toNat 0+1) 0 a (Int.ofNat a.length) 0) fun r10=>.k r10
def zn0 (zm:yC→Bool×Int) (a:yC):Bool×Int:=(zzj zm a).fin default
theorem zFg (zm:yC→Bool×Int) (zK6:SdP 114 (zsf zm)):SdP 114 (zsf (zn0 zm)):=
 sW (cx':=(zhS zm)) zq zi zk (zj ⟨zK6,trivial⟩) Tryz.call114 Tryz.func114 (c:=body Tryz.f114) (lOK (aC (zH7 zm) (aC (zH6 zm) (aC (zGY zm) (aC (zHs zm) aN)))))
def zWp:Nat→(yC→Bool×Int)
 | 0=>fun _=>(false,default)
 | n+1=>zn0 (zWp n)
def zft (n:Nat):yC→Bool×Int:=zWp n
theorem zJP (n:Nat):zft (n+1)=zn0 (zft n):=rfl
theorem zPM:∀ n,SdP 114 (zsf (zft n))
 | 0=>zY Tryz.call114 (fun _=>rfl)
 | n+1=>by
  have ih:=zPM n;exact zFg _ (ih)
def zxJ:yC→Bool×Int:=zft 1000
def annotation_nesting_spec:Ab.Spec ty:=zsf zxJ
theorem zIY:SdP 114 annotation_nesting_spec:=(zPM 1000)
def zFV:Cx ty:=mkCx base 13 [] [] [] [] [] []
def zwN (f:Factor):Wy0 (Bool):=.i (decide (f.Exp>64)) (.k true) (.k (decide (Int.ofNat f.Atom.Items.length>1024)))
def zfp (f:Factor):Bool×Bool:=(zwN f).fin default
def zHx:AL base (Factor×Unit):=zd (ze (vAgg 69)) aNil
def zhu:Ab.Spec ty:=zh zHx fun x=>((zfp x.1).1,zY8 (zfp x.1).2)
theorem zkQ:SdP 117 zhu:=
 sW (cx':=zFV) zq zi zk (zj trivial) Tryz.call117 Tryz.func117 (c:=body Tryz.f117) (lOK aN)
abbrev zcW:=yD×Unit×Int×Int×Unit
def zio (s:yD) (t7:Int) (t8:Int):Wy zcW (Unit) (Int⊕Unit):=.i (decide (t8<t7)) (.i (decide (0≤t8)&&decide (t8<Int.ofNat s.length)) (.bn (zfp (FactorOf.mk (Atom.mk (s.getD t8.toNat default).Atom.Kind (s.getD t8.toNat default).Atom.Row (s.getD t8.toNat default).Atom.Args (s.getD t8.toNat default).Atom.Func (s.getD t8.toNat default).Atom.Items (s.getD t8.toNat default).Atom.Op (s.getD t8.toNat default).Atom.Bound) (s.getD t8.toNat default).Exp)) fun r0=>.i (r0) (.k (.inl t8)) (.h (s,(),t7,(IntKind.i64.wrap (t8+1)),()) ())) .d) (.k (.inr ()))
def zdc (x:zcW) (y:Unit):Wy zcW (Unit) (Int⊕Unit):=zio x.1 x.2.2.1 x.2.2.2.1
def zil (n:Nat) (s:yD) (t7:Int) (t8:Int):Bool×(Int⊕Unit):=zJ (zdc) (.inl default) n (s,(),t7,t8,()) ()
def zrz:LL ty zcW:=za (lSl 69) (za (lFn 117 (zn)) (za lI64 (za lI64 zn)))
def zqR (x:zcW) (y:Unit):Nat:=(x.1.length+Int.toNat x.2.2.1+Int.toNat x.2.2.2.1+1)
def ziq:Cx ty:=mkCx base 19 [(117,zhu)] [] [(2,(kpL [0,1,7,8]))] [(2,1,[]),(2,0,(kpL [4]))] [(2,spW zrz zSV (zdc) (.inl default) zq1 zqR)] []
theorem zqW:zI ziq (lp (body Tryz.f103) 0):=zt (id:=2) (hl:=rfl)
def zix (s:yD):Wy0 (Int):=.bn (zil (s.length+(Int.ofNat s.length).toNat +Int.toNat 0+1) s (Int.ofNat s.length) 0) fun r2=>.i (isL r2) (.k (getL r2)) (.k (-1:Int))
def zcA (s:yD):Bool×Int:=(zix s).fin default
def zsu:AL base (yD×Unit×Unit):=zd (ze (vSl 69)) (zd (ze (vFn 117 vNil)) aNil)
def zhj:Ab.Spec ty:=zh zsu fun x=>((zcA x.1).1,zVk (zcA x.1).2)
theorem zpS:SdP 103 zhj:=
 sW (cx':=ziq) zq zi zk (zj ⟨zkQ,trivial⟩) Tryz.call103 Tryz.func103 (c:=body Tryz.f103) (lOK (aC zqW aN))
def zpF:Cx ty:=mkCx base 9 [(103,zhj),(117,zhu)] [] [] [] [] []
def zhf (s:yD):Wy0 (Bool):=.bn (zcA s) fun r0=>.k (decide (r0≥0))
def zcg (s:yD):Bool×Bool:=(zhf s).fin default
def zgh:Ab.Spec ty:=zh zsu fun x=>((zcg x.1).1,zY8 (zcg x.1).2)
theorem znz:SdP 49 zgh:=
 sW (cx':=zpF) zq zi zk (zj ⟨zpS,zkQ,trivial⟩) Tryz.call49 Tryz.func49 (c:=body Tryz.f49) (lOK aN)
def zJw:Cx ty:=mkCx base 12 [(49,zgh),(117,zhu)] [] [] [] [] []
def zy9 (t:Term):Wy0 (Bool):=.i (decide (Int.ofNat t.Factors.length>64)) (.k true) (.bn (zcg t.Factors) fun r0=>.k r0)
def zjW (t:Term):Bool×Bool:=(zy9 t).fin default
def zLw:AL base (Term×Unit):=zd (ze (vAgg 28)) aNil
def zjC:Ab.Spec ty:=zh zLw fun x=>((zjW x.1).1,zY8 (zjW x.1).2)
theorem zm9:SdP 116 zjC:=
 sW (cx':=zJw) zq zi zk (zj ⟨znz,zkQ,trivial⟩) Tryz.call116 Tryz.func116 (c:=body Tryz.f116) (lOK aN)
abbrev zcL:=yC×Unit×Int×Int×Unit
def zrk (s:yC) (t7:Int) (t8:Int):Wy zcL (Unit) (Int⊕Unit):=.i (decide (t8<t7)) (.i (decide (0≤t8)&&decide (t8<Int.ofNat s.length)) (.bn (zjW (s.getD t8.toNat default)) fun r0=>.i (r0) (.k (.inl t8)) (.h (s,(),t7,(IntKind.i64.wrap (t8+1)),()) ())) .d) (.k (.inr ()))
def zhW (x:zcL) (y:Unit):Wy zcL (Unit) (Int⊕Unit):=zrk x.1 x.2.2.1 x.2.2.2.1
def zqU (n:Nat) (s:yC) (t7:Int) (t8:Int):Bool×(Int⊕Unit):=zJ (zhW) (.inl default) n (s,(),t7,t8,()) ()
def zqO:LL ty zcL:=za (lSl 28) (za (lFn 116 (zn)) (za lI64 (za lI64 zn)))
def zqB (x:zcL) (y:Unit):Nat:=(x.1.length+Int.toNat x.2.2.1+Int.toNat x.2.2.2.1+1)
def zhI:Cx ty:=mkCx base 19 [(116,zjC)] [] [(2,(kpL [0,1,7,8]))] [(2,1,[]),(2,0,(kpL [4]))] [(2,spW zqO zSV (zhW) (.inl default) zq1 zqB)] []
theorem zqm:zI zhI (lp (body Tryz.f113) 0):=zt (id:=2) (hl:=rfl)
def zrJ (s:yC):Wy0 (Int):=.bn (zqU (s.length+(Int.ofNat s.length).toNat +Int.toNat 0+1) s (Int.ofNat s.length) 0) fun r2=>.i (isL r2) (.k (getL r2)) (.k (-1:Int))
def zdy (s:yC):Bool×Int:=(zrJ s).fin default
def zrK:AL base (yC×Unit×Unit):=zd (ze (vSl 28)) (zd (ze (vFn 116 vNil)) aNil)
def zg0:Ab.Spec ty:=zh zrK fun x=>((zdy x.1).1,zVk (zdy x.1).2)
theorem zot:SdP 113 zg0:=
 sW (cx':=zhI) zq zi zk (zj ⟨zm9,trivial⟩) Tryz.call113 Tryz.func113 (c:=body Tryz.f113) (lOK (aC zqm aN))
def zoD:Cx ty:=mkCx base 9 [(113,zg0),(116,zjC)] [] [] [] [] []
def zgJ (s:yC):Wy0 (Bool):=.bn (zdy s) fun r0=>.k (decide (r0≥0))
def zb6 (s:yC):Bool×Bool:=(zgJ s).fin default
def zfQ:Ab.Spec ty:=zh zrK fun x=>((zb6 x.1).1,zY8 (zb6 x.1).2)
theorem zm8:SdP 59 zfQ:=
 sW (cx':=zoD) zq zi zk (zj ⟨zot,zm9,trivial⟩) Tryz.call59 Tryz.func59 (c:=body Tryz.f59) (lOK aN)
def zOG:Cx ty:=mkCx base 19 [(59,zfQ),(114,annotation_nesting_spec),(115,annotation_Size_spec),(116,zjC)] [] [] [] [] []
def zCs (a:yC):Wy0 (Bool):=.i (decide (Int.ofNat a.length>512)) (.k false) (.bn (zxJ a) fun r2=>.i (decide (r2>8)) (.k false) (.bn (zBm a) fun r1=>.i (decide (r1>4096)) (.k false) (.bn (zb6 a) fun r0=>.k (!r0))))
def zkE (a:yC):Bool×Bool:=(zCs a).fin default
def zsw:Ab.Spec ty:=zh z1A fun x=>((zkE x.1).1,zY8 (zkE x.1).2)
theorem zyt:SdP 62 zsw:=
 sW (cx':=zOG) zq zi zk (zj ⟨zm8,zIY,zNr,zm9,trivial⟩) Tryz.call62 Tryz.func62 (c:=body Tryz.f62) (lOK aN)
abbrev zlb:=yC×Unit×yC×Int×Int×yD×Int×Int×Unit
abbrev zp1:=Bool⊕(yC×yC×Int×Int)
abbrev zlf:=yC×yC×Int×Int×Unit
def zjg (zB:Atom→Bool×Bool) (a:yC) (t10:yC) (t11:Int) (t12:Int) (t40:yD) (t41:Int) (t42:Int) (t:Term):Wy zlb (Term×Unit) zp1:=.i (decide (t42<t41)) (.i (decide (0≤t42)&&decide (t42<Int.ofNat t40.length)) (.i (decide ((t40.getD t42.toNat default).Exp<1)) (.k (.inl false)) (.bn (zeZ (Atom.mk (t40.getD t42.toNat default).Atom.Kind (t40.getD t42.toNat default).Atom.Row (t40.getD t42.toNat default).Atom.Args (t40.getD t42.toNat default).Atom.Func (t40.getD t42.toNat default).Atom.Items (t40.getD t42.toNat default).Atom.Op (t40.getD t42.toNat default).Atom.Bound)) fun r6=>.i (r6) (.i ((t40.getD t42.toNat default).Exp != 1) (.k (.inl false)) (.i (decide (t42>0)) (.i (decide (0≤IntKind.i64.wrap (t42 - 1))&&decide (IntKind.i64.wrap (t42 - 1)<Int.ofNat t.Factors.length)) (.bn (zhM (Atom.mk (t.Factors.getD (IntKind.i64.wrap (t42 - 1)).toNat default).Atom.Kind (t.Factors.getD (IntKind.i64.wrap (t42 - 1)).toNat default).Atom.Row (t.Factors.getD (IntKind.i64.wrap (t42 - 1)).toNat default).Atom.Args (t.Factors.getD (IntKind.i64.wrap (t42 - 1)).toNat default).Atom.Func (t.Factors.getD (IntKind.i64.wrap (t42 - 1)).toNat default).Atom.Items (t.Factors.getD (IntKind.i64.wrap (t42 - 1)).toNat default).Atom.Op (t.Factors.getD (IntKind.i64.wrap (t42 - 1)).toNat default).Atom.Bound) (Atom.mk (t40.getD t42.toNat default).Atom.Kind (t40.getD t42.toNat default).Atom.Row (t40.getD t42.toNat default).Atom.Args (t40.getD t42.toNat default).Atom.Func (t40.getD t42.toNat default).Atom.Items (t40.getD t42.toNat default).Atom.Op (t40.getD t42.toNat default).Atom.Bound)) fun r1=>.i (decide (r1≥0)) (.k (.inl false)) (.bn (zB (Atom.mk (t40.getD t42.toNat default).Atom.Kind (t40.getD t42.toNat default).Atom.Row (t40.getD t42.toNat default).Atom.Args (t40.getD t42.toNat default).Atom.Func (t40.getD t42.toNat default).Atom.Items (t40.getD t42.toNat default).Atom.Op (t40.getD t42.toNat default).Atom.Bound)) fun r0=>.i (!r0) (.k (.inl false)) (.h (a,(),t10,t11,t12,t40,t41,(IntKind.i64.wrap (t42+1)),()) (t,())))) .d) (.bn (zB (Atom.mk (t40.getD t42.toNat default).Atom.Kind (t40.getD t42.toNat default).Atom.Row (t40.getD t42.toNat default).Atom.Args (t40.getD t42.toNat default).Atom.Func (t40.getD t42.toNat default).Atom.Items (t40.getD t42.toNat default).Atom.Op (t40.getD t42.toNat default).Atom.Bound)) fun r2=>.i (!r2) (.k (.inl false)) (.h (a,(),t10,t11,t12,t40,t41,(IntKind.i64.wrap (t42+1)),()) (t,()))))) (.i (decide (t42>0)) (.i (decide (0≤IntKind.i64.wrap (t42 - 1))&&decide (IntKind.i64.wrap (t42 - 1)<Int.ofNat t.Factors.length)) (.bn (zhM (Atom.mk (t.Factors.getD (IntKind.i64.wrap (t42 - 1)).toNat default).Atom.Kind (t.Factors.getD (IntKind.i64.wrap (t42 - 1)).toNat default).Atom.Row (t.Factors.getD (IntKind.i64.wrap (t42 - 1)).toNat default).Atom.Args (t.Factors.getD (IntKind.i64.wrap (t42 - 1)).toNat default).Atom.Func (t.Factors.getD (IntKind.i64.wrap (t42 - 1)).toNat default).Atom.Items (t.Factors.getD (IntKind.i64.wrap (t42 - 1)).toNat default).Atom.Op (t.Factors.getD (IntKind.i64.wrap (t42 - 1)).toNat default).Atom.Bound) (Atom.mk (t40.getD t42.toNat default).Atom.Kind (t40.getD t42.toNat default).Atom.Row (t40.getD t42.toNat default).Atom.Args (t40.getD t42.toNat default).Atom.Func (t40.getD t42.toNat default).Atom.Items (t40.getD t42.toNat default).Atom.Op (t40.getD t42.toNat default).Atom.Bound)) fun r4=>.i (decide (r4≥0)) (.k (.inl false)) (.bn (zB (Atom.mk (t40.getD t42.toNat default).Atom.Kind (t40.getD t42.toNat default).Atom.Row (t40.getD t42.toNat default).Atom.Args (t40.getD t42.toNat default).Atom.Func (t40.getD t42.toNat default).Atom.Items (t40.getD t42.toNat default).Atom.Op (t40.getD t42.toNat default).Atom.Bound)) fun r3=>.i (!r3) (.k (.inl false)) (.h (a,(),t10,t11,t12,t40,t41,(IntKind.i64.wrap (t42+1)),()) (t,())))) .d) (.bn (zB (Atom.mk (t40.getD t42.toNat default).Atom.Kind (t40.getD t42.toNat default).Atom.Row (t40.getD t42.toNat default).Atom.Args (t40.getD t42.toNat default).Atom.Func (t40.getD t42.toNat default).Atom.Items (t40.getD t42.toNat default).Atom.Op (t40.getD t42.toNat default).Atom.Bound)) fun r5=>.i (!r5) (.k (.inl false)) (.h (a,(),t10,t11,t12,t40,t41,(IntKind.i64.wrap (t42+1)),()) (t,())))))) .d) (.k (.inr (a,t10,t11,t12)))
def zti (zB:Atom→Bool×Bool) (x:zlb) (y:Term×Unit):Wy zlb (Term×Unit) zp1:=zjg zB x.1 x.2.2.1 x.2.2.2.1 x.2.2.2.2.1 x.2.2.2.2.2.1 x.2.2.2.2.2.2.1 x.2.2.2.2.2.2.2.1 y.1
def ztN (zB:Atom→Bool×Bool) (n:Nat) (a:yC) (t10:yC) (t11:Int) (t12:Int) (t40:yD) (t41:Int) (t42:Int) (t:Term):Bool×zp1:=zJ (zti zB) (.inl default) n (a,(),t10,t11,t12,t40,t41,t42,()) (t,())
def zLf (r:zp1):LTree ty:=.ite (isL r) (.done .ret [.lit (.bool (getL r))] []) (.done (.exit 2) [.sl 28 (getR r).1,.sl 28 (getR r).2.1,.lit (.int .i64 (getR r).2.2.1),.lit (.int .i64 (getR r).2.2.2)] [])
def zNe:LL ty zlb:=za (lSl 28) (za (zdC 340 0) (za (lSl 28) (za lI64 (za lI64 (za (lSl 69) (za lI64 (za lI64 zn)))))))
def zjs (zB:Atom→Bool×Bool) (a:yC) (t10:yC) (t11:Int) (t12:Int):Wy zlf (Unit) (Bool⊕Unit):=.i (decide (t12<t11)) (.i (decide (0≤t12)&&decide (t12<Int.ofNat t10.length)) (.i (decide ((t10.getD t12.toNat default).Coeff<1)) (.k (.inl false)) (.i (decide ((t10.getD t12.toNat default).Coeff>1152921504606846976)) (.k (.inl false)) (.i (decide (t12>0)) (.i (decide (0≤IntKind.i64.wrap (t12 - 1))&&decide (IntKind.i64.wrap (t12 - 1)<Int.ofNat a.length)) (.bn (zb7 (a.getD (IntKind.i64.wrap (t12 - 1)).toNat default) (t10.getD t12.toNat default)) fun r15=>.i (decide (r15≥0)) (.k (.inl false)) (.bn (ztN zB (a.length+t10.length+t11.toNat +t12.toNat +(t10.getD t12.toNat default).Factors.length+(Int.ofNat (t10.getD t12.toNat default).Factors.length).toNat +Int.toNat 0+(t10.getD t12.toNat default).Factors.length+1) a t10 t11 t12 (t10.getD t12.toNat default).Factors (Int.ofNat (t10.getD t12.toNat default).Factors.length) 0 (t10.getD t12.toNat default)) fun r14=>.i (isL r14) (.k (.inl (getL r14))) (.h ((getR r14).1,(getR r14).2.1,(getR r14).2.2.1,(IntKind.i64.wrap ((getR r14).2.2.2+1)),()) ()))) .d) (.bn (ztN zB (a.length+t10.length+t11.toNat +t12.toNat +(t10.getD t12.toNat default).Factors.length+(Int.ofNat (t10.getD t12.toNat default).Factors.length).toNat +Int.toNat 0+(t10.getD t12.toNat default).Factors.length+1) a t10 t11 t12 (t10.getD t12.toNat default).Factors (Int.ofNat (t10.getD t12.toNat default).Factors.length) 0 (t10.getD t12.toNat default)) fun r16=>.i (isL r16) (.k (.inl (getL r16))) (.h ((getR r16).1,(getR r16).2.1,(getR r16).2.2.1,(IntKind.i64.wrap ((getR r16).2.2.2+1)),()) ()))))) .d) (.k (.inr ()))
def zs6 (zB:Atom→Bool×Bool) (x:zlf) (y:Unit):Wy zlf (Unit) (Bool⊕Unit):=zjs zB x.1 x.2.1 x.2.2.1 x.2.2.2.1
def zAu (zB:Atom→Bool×Bool) (n:Nat) (a:yC) (t10:yC) (t11:Int) (t12:Int):Bool×(Bool⊕Unit):=zJ (zs6 zB) (.inl default) n (a,t10,t11,t12,()) ()
def zMe:LL ty zlf:=za (lSl 28) (za (lSl 28) (za lI64 (za lI64 zn)))
def zLG (x:zlb) (y:Term×Unit):Nat:=(x.1.length+x.2.2.1.length+Int.toNat x.2.2.2.1+Int.toNat x.2.2.2.2.1+x.2.2.2.2.2.1.length+Int.toNat x.2.2.2.2.2.2.1+Int.toNat x.2.2.2.2.2.2.2.1+y.1.Factors.length+1)
def zKW (x:zlf) (y:Unit):Nat:=(x.1.length+x.2.1.length+Int.toNat x.2.2.1+Int.toNat x.2.2.2.1+1)
def ztp (zB:Atom→Bool×Bool):Cx ty:=mkCx base 85 [(62,zsw),(63,annotation_compareLists_spec),(64,ziR),(65,annotation_compareAtoms_spec),(66,(zs2 zB))] [] [(4,(kpL [0,10,11,12])),(9,(kpL [0,4,10,11,12,40,41,42]))] [(4,1,[]),(4,0,(kpL [2])),(9,3,(kpL [0,10,11,12])),(9,0,(kpL [2]))] [(9,spW zNe zUU (zti zB) (.inl default) zLf zLG),(4,spW zMe zSV (zs6 zB) (.inl default) z0q zKW)] []
theorem zLP (zB:Atom→Bool×Bool):zI (ztp zB) (lp (body Tryz.f20) 1):=zt (id:=9) (hl:=rfl)
theorem zLv (zB:Atom→Bool×Bool):zI (ztp zB) (lp (body Tryz.f20) 0):=zt (id:=4) (hl:=rfl)
def zAS (zB:Atom→Bool×Bool) (a:yC):Wy0 (Bool):=.bn (zkE a) fun r21=>.i (!r21) (.k false) (.bn (zAu zB (a.length+a.length+(Int.ofNat a.length).toNat +Int.toNat 0+1) a a (Int.ofNat a.length) 0) fun r20=>.i (isL r20) (.k (getL r20)) (.k true))
def zl3 (zB:Atom→Bool×Bool) (a:yC):Bool×Bool:=(zAS zB a).fin default
theorem zJk (zB:Atom→Bool×Bool) (zIn:SdP 66 (zs2 zB)):SdP 20 (zvp (zl3 zB)):=
 sW (cx':=(ztp zB)) zq zi zk (zj ⟨zyt,zkR,zmg,zsQ,zIn,trivial⟩) Tryz.call20 Tryz.func20 (c:=body Tryz.f20) (lOK (aC (zLv zB) (aC (zLP zB) aN)))
def z0b:Cx ty:=mkCx base 36 [] [] [] [] [] []
def zPL (v:Value):Wy0 (Bool):=.i (v.Kind==0) (.k (v.Text.toList==(ByteArray.mk #[]).toList)) (.i (v.Kind==1) (.i (v.Int==0) (.k (decide (Int.ofNat v.Text.size≤255))) (.k false)) (.i (v.Kind==2) (.i (v.Int==0) (.k (v.Text.toList==(ByteArray.mk #[]).toList)) (.i (v.Int==1) (.k (v.Text.toList==(ByteArray.mk #[]).toList)) (.k false))) (.k false)))
def zsq (v:Value):Bool×Bool:=(zPL v).fin default
def zuN:Ab.Spec ty:=zh z1X fun x=>((zsq x.1).1,zY8 (zsq x.1).2)
theorem zyV:SdP 164 zuN:=
 sW (cx':=z0b) zq zi zk (zj trivial) Tryz.call164 Tryz.func164 (c:=body Tryz.f164) (lOK aN)
def zHV:Cx ty:=mkCx base 27 [(164,zuN)] [] [] [] [] []
def zyD (w:Weighted) (p1:Value) (p2:Int):Wy0 (Bool):=.bn (zsq w.Value) fun r0=>.i (!r0) (.k true) (.i (w.Value.Kind != p1.Kind) (.k true) (.i (p2==0) (.k (w.Value.Int != 1)) (.k false)))
def zgz (w:Weighted) (p1:Value) (p2:Int):Bool×Bool:=(zyD w p1 p2).fin default
def zJU:AL base (Weighted×Value×(Int×Unit)×Unit):=zd (ze (vAgg 100)) (zd (ze (zwI 65)) (zd (ze (vBox (zdj vI64 vNil))) aNil))
def ziX:Ab.Spec ty:=zh zJU fun x=>((zgz x.1 x.2.1 x.2.2.1.1).1,zY8 (zgz x.1 x.2.1 x.2.2.1.1).2)
theorem zl0:SdP 165 ziX:=
 sW (cx':=zHV) zq zi zk (zj ⟨zyV,trivial⟩) Tryz.call165 Tryz.func165 (c:=body Tryz.f165) (lOK aN)
abbrev zcj:=yE×(Value×(Int×Unit)×Unit)×Int×Int×Unit
def zoG (s:yE) (f_0:Value) (f_1:Int) (t7:Int) (t8:Int):Wy zcj (Unit) (Int⊕Unit):=.i (decide (t8<t7)) (.i (decide (0≤t8)&&decide (t8<Int.ofNat s.length)) (.bn (zgz (s.getD t8.toNat default) f_0 f_1) fun r0=>.i (r0) (.k (.inl t8)) (.h (s,(f_0,(f_1,()),()),t7,(IntKind.i64.wrap (t8+1)),()) ())) .d) (.k (.inr ()))
def zgx (x:zcj) (y:Unit):Wy zcj (Unit) (Int⊕Unit):=zoG x.1 x.2.1.1 x.2.1.2.1.1 x.2.2.1 x.2.2.2.1
def zoJ (n:Nat) (s:yE) (f_0:Value) (f_1:Int) (t7:Int) (t8:Int):Bool×(Int⊕Unit):=zJ (zgx) (.inl default) n (s,(f_0,(f_1,()),()),t7,t8,()) ()
def zoU:LL ty zcj:=za (lSl 100) (za (lFn 165 (za (zlS (zd6 (fun x=>(⟨x.1,x.2.1,x.2.2.1⟩:Value)) (fun x=>(x.Kind,x.Int,x.Text,())) (fun _=>rfl) (za lI64 (za lI64 (za lStr zn)))) 0) (za (zlS (za lI64 zn) 0) zn))) (za lI64 (za lI64 zn)))
def znN (x:zcj) (y:Unit):Nat:=(x.1.length+Int.toNat x.2.1.2.1.1+Int.toNat x.2.2.1+Int.toNat x.2.2.2.1+1)
def zgr:Cx ty:=mkCx base 19 [(165,ziX)] [] [(2,(kpL [0,1,7,8]))] [(2,1,[]),(2,0,(kpL [4]))] [(2,spW zoU zSV (zgx) (.inl default) zq1 znN)] []
theorem znS:zI zgr (lp (body Tryz.f163) 0):=zt (id:=2) (hl:=rfl)
def zpT (s:yE) (f_0:Value) (f_1:Int):Wy0 (Int):=.bn (zoJ (s.length+f_1.toNat +(Int.ofNat s.length).toNat +Int.toNat 0+1) s f_0 f_1 (Int.ofNat s.length) 0) fun r2=>.i (isL r2) (.k (getL r2)) (.k (-1:Int))
def zc7 (s:yE) (f_0:Value) (f_1:Int):Bool×Int:=(zpT s f_0 f_1).fin default
def zpq:AL base (yE×(Value×(Int×Unit)×Unit)×Unit):=zd (ze (vSl 100)) (zd (ze (vFn 165 (zdj (zwI 65) (zdj (vBox (zdj vI64 vNil)) vNil)))) aNil)
def zfV:Ab.Spec ty:=zh zpq fun x=>((zc7 x.1 x.2.1.1 x.2.1.2.1.1).1,zVk (zc7 x.1 x.2.1.1 x.2.1.2.1.1).2)
theorem zmW:SdP 163 zfV:=
 sW (cx':=zgr) zq zi zk (zj ⟨zl0,trivial⟩) Tryz.call163 Tryz.func163 (c:=body Tryz.f163) (lOK (aC znS aN))
def zmU:Cx ty:=mkCx base 9 [(163,zfV),(165,ziX)] [] [] [] [] []
def zfT (s:yE) (f_0:Value) (f_1:Int):Wy0 (Bool):=.bn (zc7 s f_0 f_1) fun r0=>.k (decide (r0≥0))
def zbs (s:yE) (f_0:Value) (f_1:Int):Bool×Bool:=(zfT s f_0 f_1).fin default
def zfn:Ab.Spec ty:=zh zpq fun x=>((zbs x.1 x.2.1.1 x.2.1.2.1.1).1,zY8 (zbs x.1 x.2.1.1 x.2.1.2.1.1).2)
theorem zlL:SdP 132 zfn:=
 sW (cx':=zmU) zq zi zk (zj ⟨zmW,zl0,trivial⟩) Tryz.call132 Tryz.func132 (c:=body Tryz.f132) (lOK aN)
def zMT:Cx ty:=mkCx base 43 [(132,zfn),(164,zuN),(165,ziX)] [] [] [] [] []
def zBp (fn:Int) (items:yE) (op:Int) (bound:Value):Wy0 (Bool):=.i (decide (fn<0)) (.k false) (.i (decide (fn>3)) (.k false) (.i (decide (op<5)) (.k false) (.i (decide (op>10)) (.k false) (.bn (zsq bound) fun r3=>.i (!r3) (.k false) (.i (fn==0) (.i (bound.Kind != 0) (.k false) (.bn (zbs items bound fn) fun r0=>.k (!r0))) (.i (fn==1) (.i (bound.Kind != 0) (.k false) (.bn (zbs items bound fn) fun r1=>.k (!r1))) (.bn (zbs items bound fn) fun r2=>.k (!r2))))))))
def zjr (fn:Int) (items:yE) (op:Int) (bound:Value):Bool×Bool:=(zBp fn items op bound).fin default
def zqN:Ab.Spec ty:=zh z1o fun x=>((zjr x.1 x.2.1 x.2.2.1 x.2.2.2.1).1,zY8 (zjr x.1 x.2.1 x.2.2.1 x.2.2.2.1).2)
theorem zxT:SdP 135 zqN:=
 sW (cx':=zMT) zq zi zk (zj ⟨zlL,zyV,zl0,trivial⟩) Tryz.call135 Tryz.func135 (c:=body Tryz.f135) (lOK aN)
def zDe:Cx ty:=mkCx base 7 [] [] [] [] [] []
def zuw (t:Term):Wy0 (Bool):=.k (Int.ofNat t.Factors.length==0)
def zgj (t:Term):Bool×Bool:=(zuw t).fin default
def zgd:Ab.Spec ty:=zh zLw fun x=>((zgj x.1).1,zY8 (zgj x.1).2)
theorem zjM:SdP 162 zgd:=
 sW (cx':=zDe) zq zi zk (zj trivial) Tryz.call162 Tryz.func162 (c:=body Tryz.f162) (lOK aN)
abbrev zcO:=yC×Unit×Int×Int×Unit
def zqP (s:yC) (t7:Int) (t8:Int):Wy zcO (Unit) (Int⊕Unit):=.i (decide (t8<t7)) (.i (decide (0≤t8)&&decide (t8<Int.ofNat s.length)) (.i ((zgj (s.getD t8.toNat default)).2) (.k (.inl t8)) (.h (s,(),t7,(IntKind.i64.wrap (t8+1)),()) ())) .d) (.k (.inr ()))
def zhY (x:zcO) (y:Unit):Wy zcO (Unit) (Int⊕Unit):=zqP x.1 x.2.2.1 x.2.2.2.1
def zqS (n:Nat) (s:yC) (t7:Int) (t8:Int):Bool×(Int⊕Unit):=zJ (zhY) (.inl default) n (s,(),t7,t8,()) ()
def zqV:LL ty zcO:=za (lSl 28) (za (lFn 162 (zn)) (za lI64 (za lI64 zn)))
def zqi (x:zcO) (y:Unit):Nat:=(x.1.length+Int.toNat x.2.2.1+Int.toNat x.2.2.2.1+1)
def zhZ:Cx ty:=mkCx base 19 [(162,zgd)] [] [(2,(kpL [0,1,7,8]))] [(2,1,[]),(2,0,(kpL [4]))] [(2,spW zqV zSV (zhY) (.inl default) zq1 zqi)] []
theorem zqc:zI zhZ (lp (body Tryz.f113) 0):=zt (id:=2) (hl:=rfl)
def zr2 (s:yC):Wy0 (Int):=.bn (zqS (s.length+(Int.ofNat s.length).toNat +Int.toNat 0+1) s (Int.ofNat s.length) 0) fun r0=>.i (isL r0) (.k (getL r0)) (.k (-1:Int))
def zdx (s:yC):Bool×Int:=(zr2 s).fin default
def zrO:AL base (yC×Unit×Unit):=zd (ze (vSl 28)) (zd (ze (vFn 162 vNil)) aNil)
def zg4:Ab.Spec ty:=zh zrO fun x=>((zdx x.1).1,zVk (zdx x.1).2)
theorem zoW:SdP 113 zg4:=
 sW (cx':=zhZ) zq zi zk (zj ⟨zjM,trivial⟩) Tryz.call113 Tryz.func113 (c:=body Tryz.f113) (lOK (aC zqc aN))
def zoO:Cx ty:=mkCx base 9 [(113,zg4),(162,zgd)] [] [] [] [] []
def zgR (s:yC):Wy0 (Bool):=.bn (zdx s) fun r0=>.k (decide (r0≥0))
def zda (s:yC):Bool×Bool:=(zgR s).fin default
def zfS:Ab.Spec ty:=zh zrO fun x=>((zda x.1).1,zY8 (zda x.1).2)
theorem zmT:SdP 59 zfS:=
 sW (cx':=zoO) zq zi zk (zj ⟨zoW,zjM,trivial⟩) Tryz.call59 Tryz.func59 (c:=body Tryz.f59) (lOK aN)
def zHd:Cx ty:=mkCx base 5 [(59,zfS),(162,zgd)] [] [] [] [] []
def zxw (a:yC):Wy0 (Bool):=.bn (zda a) fun r0=>.k r0
def zex (a:yC):Bool×Bool:=(zxw a).fin default
def zlN:Ab.Spec ty:=zh z1A fun x=>((zex x.1).1,zY8 (zex x.1).2)
theorem ztH:SdP 131 zlN:=
 sW (cx':=zHd) zq zi zk (zj ⟨zmT,zjM,trivial⟩) Tryz.call131 Tryz.func131 (c:=body Tryz.f131) (lOK aN)
def zHS:Cx ty:=mkCx base 14 [] [] [] [] [] []
def zyy (a:yC):Wy0 (Bool):=.i (Int.ofNat a.length==1) (.i (decide ((0:Int)≤(0:Int))&&decide (0<Int.ofNat a.length)) (.k (Int.ofNat (a.getD (Int.toNat 0) default).Factors.length==0)) .d) (.k false)
def zgs (a:yC):Bool×Bool:=(zyy a).fin default
def zmR:Ab.Spec ty:=zh z1A fun x=>((zgs x.1).1,zY8 (zgs x.1).2)
theorem zum:SdP 129 zmR:=
 sW (cx':=zHS) zq zi zk (zj trivial) Tryz.call129 Tryz.func129 (c:=body Tryz.f129) (lOK aN)
def zPh:Cx ty:=mkCx base 42 [(64,ziR)] [] [] [] [] []
def zCk (a:yC):Wy0 (Bool):=.i (Int.ofNat a.length != 1) (.k false) (.i (decide ((0:Int)≤(0:Int))&&decide (0<Int.ofNat a.length)) (.i ((a.getD (Int.toNat 0) default).Coeff != 1) (.k false) (.i (decide ((0:Int)≤(0:Int))&&decide (0<Int.ofNat a.length)) (.i (Int.ofNat (a.getD (Int.toNat 0) default).Factors.length != 1) (.k false) (.i (decide ((0:Int)≤(0:Int))&&decide (0<Int.ofNat a.length)) (.i (decide ((0:Int)≤(0:Int))&&decide (0<Int.ofNat (a.getD (Int.toNat 0) default).Factors.length)) (.i (((a.getD (Int.toNat 0) default).Factors.getD (Int.toNat 0) default).Exp==1) (.i (((a.getD (Int.toNat 0) default).Factors.getD (Int.toNat 0) default).Atom.Kind==2) (.k true) (.bn (zeZ (Atom.mk ((a.getD (Int.toNat 0) default).Factors.getD (Int.toNat 0) default).Atom.Kind ((a.getD (Int.toNat 0) default).Factors.getD (Int.toNat 0) default).Atom.Row ((a.getD (Int.toNat 0) default).Factors.getD (Int.toNat 0) default).Atom.Args ((a.getD (Int.toNat 0) default).Factors.getD (Int.toNat 0) default).Atom.Func ((a.getD (Int.toNat 0) default).Factors.getD (Int.toNat 0) default).Atom.Items ((a.getD (Int.toNat 0) default).Factors.getD (Int.toNat 0) default).Atom.Op ((a.getD (Int.toNat 0) default).Factors.getD (Int.toNat 0) default).Atom.Bound)) fun r0=>.k r0)) (.k false)) .d) .d)) .d)) .d)
def zkD (a:yC):Bool×Bool:=(zCk a).fin default
def zsM:Ab.Spec ty:=zh z1A fun x=>((zkD x.1).1,zY8 (zkD x.1).2)
theorem zyx:SdP 130 zsM:=
 sW (cx':=zPh) zq zi zk (zj ⟨zmg,trivial⟩) Tryz.call130 Tryz.func130 (c:=body Tryz.f130) (lOK aN)
def zYV:Cx ty:=mkCx base 11 [] [] [] [] [] []
def zM4 (id:RowID):Wy0 (Bool):=.i (decide (id.Table≥1)) (.k (decide (id.Seq≥1))) (.k false)
def zpw (id:RowID):Bool×Bool:=(zM4 id).fin default
def zZS:AL base (RowID×Unit):=zd (ze (vAgg 49)) aNil
def zs0:Ab.Spec ty:=zh zZS fun x=>((zpw x.1).1,zY8 (zpw x.1).2)
theorem zxR:SdP 128 zs0:=
 sW (cx':=zYV) zq zi zk (zj trivial) Tryz.call128 Tryz.func128 (c:=body Tryz.f128) (lOK aN)
abbrev zdd:=yE×Unit×Int×Unit
def zdY (x_:yE) (i:Int):Wy zdd (Unit) (Bool⊕Unit):=.i (decide (i>0)) (.i (decide (0≤i)&&decide (i<Int.ofNat x_.length)) (.i (decide (0≤IntKind.i64.wrap (i - 1))&&decide (IntKind.i64.wrap (i - 1)<Int.ofNat x_.length)) (.bn (zbt (x_.getD i.toNat default) (x_.getD (IntKind.i64.wrap (i - 1)).toNat default)) fun r0=>.i (decide (r0<0)) (.k (.inl false)) (.h (x_,(),(IntKind.i64.wrap (i - 1)),()) ())) .d) .d) (.k (.inr ()))
def zgv (x:zdd) (y:Unit):Wy zdd (Unit) (Bool⊕Unit):=zdY x.1 x.2.2.1
def zdZ (n:Nat) (x_:yE) (i:Int):Bool×(Bool⊕Unit):=zJ (zgv) (.inl default) n (x_,(),i,()) ()
def zoN:LL ty zdd:=za (lSl 100) (za (lFn 124 (zn)) (za lI64 zn))
def zgt:Cx ty:=mkCx base 25 [(124,annotation_compareItems_spec)] [] [(2,(kpL [0,1,5]))] [(2,1,[]),(2,0,(kpL [4]))] [(2,spW zoN zSV (zgv) (.inl default) z0q fun x y=>(x.1.length+Int.toNat x.2.2.1+1))] []
theorem znI:zI zgt (lp (body Tryz.f134) 0):=zt (id:=2) (hl:=rfl)
def zg2 (x_:yE):Wy0 (Bool):=.bn (zdZ (x_.length+(IntKind.i64.wrap (Int.ofNat x_.length - 1)).toNat +1) x_ (IntKind.i64.wrap (Int.ofNat x_.length - 1))) fun r2=>.i (isL r2) (.k (getL r2)) (.k true)
def zb8 (x_:yE):Bool×Bool:=(zg2 x_).fin default
def zpV:AL base (yE×Unit×Unit):=zd (ze (vSl 100)) (zd (ze (vFn 124 vNil)) aNil)
def zfP:Ab.Spec ty:=zh zpV fun x=>((zb8 x.1).1,zY8 (zb8 x.1).2)
theorem zm5:SdP 134 zfP:=
 sW (cx':=zgt) zq zi zk (zj ⟨zgG,trivial⟩) Tryz.call134 Tryz.func134 (c:=body Tryz.f134) (lOK (aC znI aN))
def zcF (zb:yA→Bool×Bool) (zf:yC→Bool×Bool) (zc:yE→Bool×Bool) (zg:Weighted→Bool×Bool):Cx ty:=mkCx base 149 [(21,zmL),(124,annotation_compareItems_spec),(126,(zcb zb)),(127,(zvp zf)),(128,zs0),(129,zmR),(130,zsM),(131,zlN),(132,(zcx zc)),(133,(zdh zg)),(134,zfP),(135,zqN)] [] [] [] [] []
def zbZ (zb:yA→Bool×Bool) (zf:yC→Bool×Bool) (zc:yE→Bool×Bool) (zg:Weighted→Bool×Bool) (x_:Atom):Wy0 (Bool):=.i (x_.Kind==0) (.i (x_.Func != 0) (.k false) (.i (Int.ofNat x_.Items.length != 0) (.k false) (.i (x_.Op != 0) (.k false) (.i (!(x_.Bound.Kind==0&&(x_.Bound.Int==0&&(x_.Bound.Text.toList==(ByteArray.mk #[]).toList&&true)))) (.k false) (.bn (zb x_.Args) fun r1=>.i (r1) (.k false) (.bn (zpw x_.Row) fun r0=>.i (r0) (.k (Int.ofNat x_.Args.length==0)) (.k false))))))) (.i (x_.Kind==1) (.i (x_.Func != 0) (.k false) (.i (Int.ofNat x_.Items.length != 0) (.k false) (.i (x_.Op != 0) (.k false) (.i (!(x_.Bound.Kind==0&&(x_.Bound.Int==0&&(x_.Bound.Text.toList==(ByteArray.mk #[]).toList&&true)))) (.k false) (.i (!(x_.Row.Table==0&&(x_.Row.Seq==0&&true))) (.k false) (.bn (zb x_.Args) fun r3=>.i (r3) (.k false) (.i (Int.ofNat x_.Args.length==2) (.i (decide ((0:Int)≤(0:Int))&&decide (0<Int.ofNat x_.Args.length)) (.i (decide ((0:Int)≤(1:Int))&&decide (1<Int.ofNat x_.Args.length)) (.bn (zgX (x_.Args.getD (Int.toNat 0) default) (x_.Args.getD (Int.toNat 1) default)) fun r2=>.k (!r2)) .d) .d) (.k false)))))))) (.i (x_.Kind==2) (.i (x_.Func != 0) (.k false) (.i (Int.ofNat x_.Items.length != 0) (.k false) (.i (x_.Op != 0) (.k false) (.i (!(x_.Bound.Kind==0&&(x_.Bound.Int==0&&(x_.Bound.Text.toList==(ByteArray.mk #[]).toList&&true)))) (.k false) (.i (!(x_.Row.Table==0&&(x_.Row.Seq==0&&true))) (.k false) (.bn (zb x_.Args) fun r6=>.i (r6) (.k false) (.i (Int.ofNat x_.Args.length==1) (.i (decide ((0:Int)≤(0:Int))&&decide (0<Int.ofNat x_.Args.length)) (.bn (zgs (x_.Args.getD (Int.toNat 0) default)) fun r5=>.i (!r5) (.i (decide ((0:Int)≤(0:Int))&&decide (0<Int.ofNat x_.Args.length)) (.bn (zkD (x_.Args.getD (Int.toNat 0) default)) fun r4=>.k (!r4)) .d) (.k false)) .d) (.k false)))))))) (.i (x_.Kind==3) (.i (x_.Func != 0) (.k false) (.i (Int.ofNat x_.Items.length != 0) (.k false) (.i (x_.Op != 0) (.k false) (.i (!(x_.Bound.Kind==0&&(x_.Bound.Int==0&&(x_.Bound.Text.toList==(ByteArray.mk #[]).toList&&true)))) (.k false) (.i (!(x_.Row.Table==0&&(x_.Row.Seq==0&&true))) (.k false) (.bn (zb x_.Args) fun r8=>.i (r8) (.k false) (.i (Int.ofNat x_.Args.length==1) (.i (decide ((0:Int)≤(0:Int))&&decide (0<Int.ofNat x_.Args.length)) (.bn (zex (x_.Args.getD (Int.toNat 0) default)) fun r7=>.k (!r7)) .d) (.k false)))))))) (.i (x_.Kind==4) (.i (!(x_.Row.Table==0&&(x_.Row.Seq==0&&true))) (.k false) (.bn (zb x_.Args) fun r12=>.i (r12) (.k false) (.bn (zc x_.Items) fun r11=>.i (Int.ofNat x_.Args.length==0) (.i (decide (Int.ofNat x_.Items.length>0)) (.i (!r11) (.bn (zb8 x_.Items) fun r10=>.i (r10) (.bn (zjr x_.Func x_.Items x_.Op x_.Bound) fun r9=>.k r9) (.k false)) (.k false)) (.k false)) (.k false)))) (.i (x_.Func != 0) (.k false) (.i (Int.ofNat x_.Items.length != 0) (.k false) (.i (x_.Op != 0) (.k false) (.i (!(x_.Bound.Kind==0&&(x_.Bound.Int==0&&(x_.Bound.Text.toList==(ByteArray.mk #[]).toList&&true)))) (.k false) (.i (!(x_.Row.Table==0&&(x_.Row.Seq==0&&true))) (.k false) (.bn (zb x_.Args) fun r14=>.i (r14) (.k false) (.k false)))))))))))
def ziD (zb:yA→Bool×Bool) (zf:yC→Bool×Bool) (zc:yE→Bool×Bool) (zg:Weighted→Bool×Bool) (x_:Atom):Bool×Bool:=(zbZ zb zf zc zg x_).fin default
theorem zEg (zb:yA→Bool×Bool) (zf:yC→Bool×Bool) (zc:yE→Bool×Bool) (zg:Weighted→Bool×Bool) (v_Row:RowID) (v_Args:yA) (v_Func:Int) (v_Items:yE) (v_Op:Int) (v_Bound:Value)  :zf6 (zcF zb zf zc zg) Tryz.f66 (body Tryz.f66) ⟨[.pure],[]⟩ [.pure (.agg (base.enc 67 (Atom.mk (Int.ofNat 0) v_Row v_Args v_Func v_Items v_Op v_Bound)))]=(zbZ zb zf zc zg (Atom.mk (Int.ofNat 0) v_Row v_Args v_Func v_Items v_Op v_Bound)).ev noH (fun r=>some (zY8 r)) none:=by kernel_rfl
theorem zDM (zb:yA→Bool×Bool) (zf:yC→Bool×Bool) (zc:yE→Bool×Bool) (zg:Weighted→Bool×Bool) (v_Row:RowID) (v_Args:yA) (v_Func:Int) (v_Items:yE) (v_Op:Int) (v_Bound:Value)  :zf6 (zcF zb zf zc zg) Tryz.f66 (body Tryz.f66) ⟨[.pure],[]⟩ [.pure (.agg (base.enc 67 (Atom.mk (Int.ofNat 1) v_Row v_Args v_Func v_Items v_Op v_Bound)))]=(zbZ zb zf zc zg (Atom.mk (Int.ofNat 1) v_Row v_Args v_Func v_Items v_Op v_Bound)).ev noH (fun r=>some (zY8 r)) none:=by kernel_rfl
theorem zDV (zb:yA→Bool×Bool) (zf:yC→Bool×Bool) (zc:yE→Bool×Bool) (zg:Weighted→Bool×Bool) (v_Row:RowID) (v_Args:yA) (v_Func:Int) (v_Items:yE) (v_Op:Int) (v_Bound:Value)  :zf6 (zcF zb zf zc zg) Tryz.f66 (body Tryz.f66) ⟨[.pure],[]⟩ [.pure (.agg (base.enc 67 (Atom.mk (Int.ofNat 2) v_Row v_Args v_Func v_Items v_Op v_Bound)))]=(zbZ zb zf zc zg (Atom.mk (Int.ofNat 2) v_Row v_Args v_Func v_Items v_Op v_Bound)).ev noH (fun r=>some (zY8 r)) none:=by kernel_rfl
theorem zD3 (zb:yA→Bool×Bool) (zf:yC→Bool×Bool) (zc:yE→Bool×Bool) (zg:Weighted→Bool×Bool) (v_Row:RowID) (v_Args:yA) (v_Func:Int) (v_Items:yE) (v_Op:Int) (v_Bound:Value)  :zf6 (zcF zb zf zc zg) Tryz.f66 (body Tryz.f66) ⟨[.pure],[]⟩ [.pure (.agg (base.enc 67 (Atom.mk (Int.ofNat 3) v_Row v_Args v_Func v_Items v_Op v_Bound)))]=(zbZ zb zf zc zg (Atom.mk (Int.ofNat 3) v_Row v_Args v_Func v_Items v_Op v_Bound)).ev noH (fun r=>some (zY8 r)) none:=by kernel_rfl
theorem zEv (zb:yA→Bool×Bool) (zf:yC→Bool×Bool) (zc:yE→Bool×Bool) (zg:Weighted→Bool×Bool) (v_Row:RowID) (v_Args:yA) (v_Func:Int) (v_Items:yE) (v_Op:Int) (v_Bound:Value)  :zf6 (zcF zb zf zc zg) Tryz.f66 (body Tryz.f66) ⟨[.pure],[]⟩ [.pure (.agg (base.enc 67 (Atom.mk (Int.ofNat 4) v_Row v_Args v_Func v_Items v_Op v_Bound)))]=(zbZ zb zf zc zg (Atom.mk (Int.ofNat 4) v_Row v_Args v_Func v_Items v_Op v_Bound)).ev noH (fun r=>some (zY8 r)) none:=by kernel_rfl
theorem zD1 (zb:yA→Bool×Bool) (zf:yC→Bool×Bool) (zc:yE→Bool×Bool) (zg:Weighted→Bool×Bool) (n:Nat) (v_Row:RowID) (v_Args:yA) (v_Func:Int) (v_Items:yE) (v_Op:Int) (v_Bound:Value)  :zf6 (zcF zb zf zc zg) Tryz.f66 (body Tryz.f66) ⟨[.pure],[]⟩ [.pure (.agg (base.enc 67 (Atom.mk (Int.ofNat (n+5)) v_Row v_Args v_Func v_Items v_Op v_Bound)))]=(zbZ zb zf zc zg (Atom.mk (Int.ofNat (n+5)) v_Row v_Args v_Func v_Items v_Op v_Bound)).ev noH (fun r=>some (zY8 r)) none:=by kernel_rfl
theorem zEB (zb:yA→Bool×Bool) (zf:yC→Bool×Bool) (zc:yE→Bool×Bool) (zg:Weighted→Bool×Bool) (n:Nat) (v_Row:RowID) (v_Args:yA) (v_Func:Int) (v_Items:yE) (v_Op:Int) (v_Bound:Value)  :zf6 (zcF zb zf zc zg) Tryz.f66 (body Tryz.f66) ⟨[.pure],[]⟩ [.pure (.agg (base.enc 67 (Atom.mk (Int.negSucc n) v_Row v_Args v_Func v_Items v_Op v_Bound)))]=(zbZ zb zf zc zg (Atom.mk (Int.negSucc n) v_Row v_Args v_Func v_Items v_Op v_Bound)).ev noH (fun r=>some (zY8 r)) none:=by kernel_rfl
theorem zFB (zb:yA→Bool×Bool) (zf:yC→Bool×Bool) (zc:yE→Bool×Bool) (zg:Weighted→Bool×Bool) (x_:Atom):zf6 (zcF zb zf zc zg) Tryz.f66 (body Tryz.f66) ⟨[.pure],[]⟩ [.pure (.agg (base.enc 67 x_))]=(zbZ zb zf zc zg x_).ev noH (fun r=>some (zY8 r)) none:=by
 obtain ⟨v_Kind,v_Row,v_Args,v_Func,v_Items,v_Op,v_Bound⟩:=x_
 match v_Kind with
 | .ofNat 0=>exact zEg zb zf zc zg v_Row v_Args v_Func v_Items v_Op v_Bound 
 | .ofNat 1=>exact zDM zb zf zc zg v_Row v_Args v_Func v_Items v_Op v_Bound 
 | .ofNat 2=>exact zDV zb zf zc zg v_Row v_Args v_Func v_Items v_Op v_Bound 
 | .ofNat 3=>exact zD3 zb zf zc zg v_Row v_Args v_Func v_Items v_Op v_Bound 
 | .ofNat 4=>exact zEv zb zf zc zg v_Row v_Args v_Func v_Items v_Op v_Bound 
 | .ofNat (n+5)=>exact zD1 zb zf zc zg n v_Row v_Args v_Func v_Items v_Op v_Bound 
 | .negSucc n=>exact zEB zb zf zc zg n v_Row v_Args v_Func v_Items v_Op v_Bound 
theorem zCP (zb:yA→Bool×Bool) (zf:yC→Bool×Bool) (zc:yE→Bool×Bool) (zg:Weighted→Bool×Bool) (zk8:SdP 126 (zcb zb)) (zfm:SdP 127 (zvp zf)) (zmz:SdP 132 (zcx zc)) (zfe:SdP 133 (zdh zg)):SdP 66 (zs2 (ziD zb zf zc zg)):=
 zT8 (cx':=(zcF zb zf zc zg)) zq zi zk (zj ⟨zsr,zgG,zk8,zfm,zxR,zum,zyx,ztH,zmz,zfe,zm5,zxT,trivial⟩) Tryz.call66 Tryz.func66 (c:=body Tryz.f66) (by kernel_rfl) (zyf (l:=[]) (by kernel_rfl) trivial) (sg:=⟨[.pure],[]⟩) (A:=zUv) (res:=zY8) (W:=fun x=>zbZ zb zf zc zg x.1) (z:=default) (fun x=>zFB zb zf zc zg x.1) (fun _=>by kernel_rfl)
def zCw (zbG:yC→Bool×Bool):Cx ty:=mkCx base 11 [(20,(zvp zbG))] [] [] [] [] []
def zuo (zbG:yC→Bool×Bool) (a:yC):Wy0 (Bool):=.bn (zbG a) fun r0=>.i (!r0) (.k true) (.k (Int.ofNat a.length==0))
def zjH (zbG:yC→Bool×Bool) (a:yC):Bool×Bool:=(zuo zbG a).fin default
theorem zAL (zbG:yC→Bool×Bool) (zuM:SdP 20 (zvp zbG)):SdP 127 (zvp (zjH zbG)):=
 sW (cx':=(zCw zbG)) zq zi zk (zj ⟨zuM,trivial⟩) Tryz.call127 Tryz.func127 (c:=body Tryz.f127) (lOK aN)
def zCz (zbG:yC→Bool×Bool):Cx ty:=mkCx base 13 [(20,(zvp zbG))] [] [] [] [] []
def zux (zbG:yC→Bool×Bool) (w:Weighted):Wy0 (Bool):=.bn (zbG w.Ann) fun r0=>.i (!r0) (.k true) (.k (Int.ofNat w.Ann.length==0))
def zjI (zbG:yC→Bool×Bool) (w:Weighted):Bool×Bool:=(zux zbG w).fin default
theorem zAE (zbG:yC→Bool×Bool) (zuM:SdP 20 (zvp zbG)):SdP 133 (zdh (zjI zbG)):=
 sW (cx':=(zCz zbG)) zq zi zk (zj ⟨zuM,trivial⟩) Tryz.call133 Tryz.func133 (c:=body Tryz.f133) (lOK aN)
def zkO (zf:yC→Bool×Bool) (zW:yA→Bool×Int):Cx ty:=mkCx base 9 [(127,(zvp zf)),(161,(zcr zW))] [] [] [] [] []
def zeJ (zf:yC→Bool×Bool) (zW:yA→Bool×Int) (s:yA):Wy0 (Bool):=.bn (zW s) fun r0=>.k (decide (r0≥0))
def zcc (zf:yC→Bool×Bool) (zW:yA→Bool×Int) (s:yA):Bool×Bool:=(zeJ zf zW s).fin default
theorem zjU (zf:yC→Bool×Bool) (zW:yA→Bool×Int) (zfm:SdP 127 (zvp zf)) (zme:SdP 161 (zcr zW)):SdP 126 (zcb (zcc zf zW)):=
 sW (cx':=(zkO zf zW)) zq zi zk (zj ⟨zfm,zme,trivial⟩) Tryz.call126 Tryz.func126 (c:=body Tryz.f126) (lOK aN)
def zl4 (zg:Weighted→Bool×Bool) (z6:yE→Bool×Int):Cx ty:=mkCx base 9 [(133,(zdh zg)),(163,(zcZ z6))] [] [] [] [] []
def zfx (zg:Weighted→Bool×Bool) (z6:yE→Bool×Int) (s:yE):Wy0 (Bool):=.bn (z6 s) fun r0=>.k (decide (r0≥0))
def zcv (zg:Weighted→Bool×Bool) (z6:yE→Bool×Int) (s:yE):Bool×Bool:=(zfx zg z6 s).fin default
theorem zk4 (zg:Weighted→Bool×Bool) (z6:yE→Bool×Int) (zfe:SdP 133 (zdh zg)) (znZ:SdP 163 (zcZ z6)):SdP 132 (zcx (zcv zg z6)):=
 sW (cx':=(zl4 zg z6)) zq zi zk (zj ⟨zfe,znZ,trivial⟩) Tryz.call132 Tryz.func132 (c:=body Tryz.f132) (lOK aN)
abbrev zb0:=yA×Unit×Int×Int×Unit
def zly (zf:yC→Bool×Bool) (s:yA) (t7:Int) (t8:Int):Wy zb0 (Unit) (Int⊕Unit):=.i (decide (t8<t7)) (.i (decide (0≤t8)&&decide (t8<Int.ofNat s.length)) (.bn (zf (s.getD t8.toNat default)) fun r0=>.i (r0) (.k (.inl t8)) (.h (s,(),t7,(IntKind.i64.wrap (t8+1)),()) ())) .d) (.k (.inr ()))
def ze9 (zf:yC→Bool×Bool) (x:zb0) (y:Unit):Wy zb0 (Unit) (Int⊕Unit):=zly zf x.1 x.2.2.1 x.2.2.2.1
def zlx (zf:yC→Bool×Bool) (n:Nat) (s:yA) (t7:Int) (t8:Int):Bool×(Int⊕Unit):=zJ (ze9 zf) (.inl default) n (s,(),t7,t8,()) ()
def zlK:LL ty zb0:=za (lSl 23) (za (lFn 127 (zn)) (za lI64 (za lI64 zn)))
def zlt (x:zb0) (y:Unit):Nat:=(x.1.length+Int.toNat x.2.2.1+Int.toNat x.2.2.2.1+1)
def ze6 (zf:yC→Bool×Bool):Cx ty:=mkCx base 19 [(127,(zvp zf))] [] [(2,(kpL [0,1,7,8]))] [(2,1,[]),(2,0,(kpL [4]))] [(2,spW zlK zSV (ze9 zf) (.inl default) zq1 zlt)] []
theorem zlu (zf:yC→Bool×Bool):zI (ze6 zf) (lp (body Tryz.f161) 0):=zt (id:=2) (hl:=rfl)
def zmq (zf:yC→Bool×Bool) (s:yA):Wy0 (Int):=.bn (zlx zf (s.length+(Int.ofNat s.length).toNat +Int.toNat 0+1) s (Int.ofNat s.length) 0) fun r2=>.i (isL r2) (.k (getL r2)) (.k (-1:Int))
def zcs (zf:yC→Bool×Bool) (s:yA):Bool×Int:=(zmq zf s).fin default
theorem zkN (zf:yC→Bool×Bool) (zfm:SdP 127 (zvp zf)):SdP 161 (zcr (zcs zf)):=
 sW (cx':=(ze6 zf)) zq zi zk (zj ⟨zfm,trivial⟩) Tryz.call161 Tryz.func161 (c:=body Tryz.f161) (lOK (aC (zlu zf) aN))
abbrev zcq:=yE×Unit×Int×Int×Unit
def znG (zg:Weighted→Bool×Bool) (s:yE) (t7:Int) (t8:Int):Wy zcq (Unit) (Int⊕Unit):=.i (decide (t8<t7)) (.i (decide (0≤t8)&&decide (t8<Int.ofNat s.length)) (.bn (zg (s.getD t8.toNat default)) fun r0=>.i (r0) (.k (.inl t8)) (.h (s,(),t7,(IntKind.i64.wrap (t8+1)),()) ())) .d) (.k (.inr ()))
def zfW (zg:Weighted→Bool×Bool) (x:zcq) (y:Unit):Wy zcq (Unit) (Int⊕Unit):=znG zg x.1 x.2.2.1 x.2.2.2.1
def znx (zg:Weighted→Bool×Bool) (n:Nat) (s:yE) (t7:Int) (t8:Int):Bool×(Int⊕Unit):=zJ (zfW zg) (.inl default) n (s,(),t7,t8,()) ()
def znk:LL ty zcq:=za (lSl 100) (za (lFn 133 (zn)) (za lI64 (za lI64 zn)))
def zmX (x:zcq) (y:Unit):Nat:=(x.1.length+Int.toNat x.2.2.1+Int.toNat x.2.2.2.1+1)
def zfU (zg:Weighted→Bool×Bool):Cx ty:=mkCx base 19 [(133,(zdh zg))] [] [(2,(kpL [0,1,7,8]))] [(2,1,[]),(2,0,(kpL [4]))] [(2,spW znk zSV (zfW zg) (.inl default) zq1 zmX)] []
theorem zm0 (zg:Weighted→Bool×Bool):zI (zfU zg) (lp (body Tryz.f163) 0):=zt (id:=2) (hl:=rfl)
def znQ (zg:Weighted→Bool×Bool) (s:yE):Wy0 (Int):=.bn (znx zg (s.length+(Int.ofNat s.length).toNat +Int.toNat 0+1) s (Int.ofNat s.length) 0) fun r2=>.i (isL r2) (.k (getL r2)) (.k (-1:Int))
def zcT (zg:Weighted→Bool×Bool) (s:yE):Bool×Int:=(znQ zg s).fin default
theorem zl5 (zg:Weighted→Bool×Bool) (zfe:SdP 133 (zdh zg)):SdP 163 (zcZ (zcT zg)):=
 sW (cx':=(zfU zg)) zq zi zk (zj ⟨zfe,trivial⟩) Tryz.call163 Tryz.func163 (c:=body Tryz.f163) (lOK (aC (zm0 zg) aN))
def zdW:Nat→(yC→Bool×Bool)×(Atom→Bool×Bool)×(yC→Bool×Bool)×(Weighted→Bool×Bool)×(yA→Bool×Int)×(yA→Bool×Bool)×(yE→Bool×Int)×(yE→Bool×Bool)
 | 0=>(fun _=>(false,default),fun _=>(false,default),fun _=>(false,default),fun _=>(false,default),fun _=>(false,default),fun _=>(false,default),fun _=>(false,default),fun _=>(false,default))
 | n+1=>(zl3 ((zdW n).2.1),ziD ((zdW n).2.2.2.2.2.1) ((zdW n).2.2.1) ((zdW n).2.2.2.2.2.2.2) ((zdW n).2.2.2.1),zjH ((zdW n).1),zjI ((zdW n).1),zcs ((zdW n).2.2.1),zcc ((zdW n).2.2.1) ((zdW n).2.2.2.2.1),zcT ((zdW n).2.2.2.1),zcv ((zdW n).2.2.2.1) ((zdW n).2.2.2.2.2.2.1))
def zjn (n:Nat):yC→Bool×Bool:=(zdW n).1
def zlA (n:Nat):Atom→Bool×Bool:=(zdW n).2.1
def zeB (n:Nat):yC→Bool×Bool:=(zdW n).2.2.1
def zeC (n:Nat):Weighted→Bool×Bool:=(zdW n).2.2.2.1
def zcu (n:Nat):yA→Bool×Int:=(zdW n).2.2.2.2.1
def zca (n:Nat):yA→Bool×Bool:=(zdW n).2.2.2.2.2.1
def zcS (n:Nat):yE→Bool×Int:=(zdW n).2.2.2.2.2.2.1
def zcy (n:Nat):yE→Bool×Bool:=(zdW n).2.2.2.2.2.2.2
theorem zMA (n:Nat):zjn (n+1)=zl3 (zlA n):=rfl
theorem zG7 (n:Nat):zlA (n+1)=ziD (zca n) (zeB n) (zcy n) (zeC n):=rfl
theorem zC4 (n:Nat):zeB (n+1)=zjH (zjn n):=rfl
theorem zC5 (n:Nat):zeC (n+1)=zjI (zjn n):=rfl
theorem zlF (n:Nat):zcu (n+1)=zcs (zeB n):=rfl
theorem zkP (n:Nat):zca (n+1)=zcc (zeB n) (zcu n):=rfl
theorem zng (n:Nat):zcS (n+1)=zcT (zeC n):=rfl
theorem zmh (n:Nat):zcy (n+1)=zcv (zeC n) (zcS n):=rfl
theorem zV9:∀ n,SdP 20 (zvp (zjn n))∧SdP 66 (zs2 (zlA n))∧SdP 127 (zvp (zeB n))∧SdP 133 (zdh (zeC n))∧SdP 161 (zcr (zcu n))∧SdP 126 (zcb (zca n))∧SdP 163 (zcZ (zcS n))∧SdP 132 (zcx (zcy n))
 | 0=>⟨zY Tryz.call20 (fun _=>rfl),zY Tryz.call66 (fun _=>rfl),zY Tryz.call127 (fun _=>rfl),zY Tryz.call133 (fun _=>rfl),zY Tryz.call161 (fun _=>rfl),zY Tryz.call126 (fun _=>rfl),zY Tryz.call163 (fun _=>rfl),zY Tryz.call132 (fun _=>rfl)⟩
 | n+1=>by
  have ih:=zV9 n;exact ⟨zJk _ (ih.2.1),zCP _ _ _ _ (ih.2.2.2.2.2.1) (ih.2.2.1) (ih.2.2.2.2.2.2.2) (ih.2.2.2.1),zAL _ (ih.1),zAE _ (ih.1),zkN _ (ih.2.2.1),zjU _ _ (ih.2.2.1) (ih.2.2.2.2.1),zl5 _ (ih.2.2.2.1),zk4 _ _ (ih.2.2.2.1) (ih.2.2.2.2.2.2.1)⟩
def zce:yC→Bool×Bool:=zjn 1000
def annotation_Valid_spec:Ab.Spec ty:=zvp zce
theorem zco:SdP 20 annotation_Valid_spec:=(zV9 1000).1
def zLE (r:yC×Int):ARes ty:=⟨[.own 28 r.1,.pure (.lit (.int .i64 r.2))],[]⟩
def zN1:AL base0 (yC×((yG×Unit)×Unit)×Unit):=zd (ze (vSl 28)) (zd (ze (vFn 84 (zdj (vBox (zdj (vSl 51) vNil)) vNil))) aNil)
def zj8 (F:yC→yG→Bool×(yC×Int)):Ab.Spec ty:=zh zN1 fun x=>((F x.1 x.2.1.1.1).1,zLE (F x.1 x.2.1.1.1).2)
def zI2:AL base0 (Atom×((yG×Unit)×Unit)×Unit):=zd (ze (vAgg 67)) (zd (ze (vFn 84 (zdj (vBox (zdj (vSl 51) vNil)) vNil))) aNil)
def zkf (F:Atom→yG→Bool×(yC×Int)):Ab.Spec ty:=zh zI2 fun x=>((F x.1 x.2.1.1.1).1,zLE (F x.1 x.2.1.1.1).2)
def zG5 (k:Go.Value) (l:List (Go.Value×Int)):Option Int:=mget (ty:=ty) (V:=3) k l
def zbah (k:Go.Value) (l:List (Go.Value×Int)):Bool:=mhas (ty:=ty) (V:=3) k l
def zbaq (k:Go.Value) (x:Int) (l:List (Go.Value×Int)):List (Go.Value×Int):=mset (ty:=ty) (V:=3) k x l
def zRl (r:ByteArray):ARes ty:=⟨[.pure (.lit (.string r))],[]⟩
def zVK:AL base0 (yC×Unit):=zd (ze (vSl 28)) aNil
def zsZ (F:yC→Bool×ByteArray):Ab.Spec ty:=zh zVK fun x=>((F x.1).1,zRl (F x.1).2)
def zJx:AL base0 (Atom×Unit):=zd (ze (vAgg 67)) aNil
def zk0 (F:Atom→Bool×ByteArray):Ab.Spec ty:=zh zJx fun x=>((F x.1).1,zRl (F x.1).2)
def zFC:AL base0 (yD×Unit):=zd (ze (vSl 69)) aNil
def zfA (F:yD→Bool×ByteArray):Ab.Spec ty:=zh zFC fun x=>((F x.1).1,zRl (F x.1).2)
def zJz:Cx ty:=mkCx base 2 [] [] [] [] [] []
def zLW:Wy0 (List ByteArray):=.k [ByteArray.mk #[(67:UInt8),(79:UInt8),(85:UInt8),(78:UInt8),(84:UInt8)],ByteArray.mk #[(83:UInt8),(85:UInt8),(77:UInt8)],ByteArray.mk #[(77:UInt8),(73:UInt8),(78:UInt8)],ByteArray.mk #[(77:UInt8),(65:UInt8),(88:UInt8)]]
def zct:Bool×List ByteArray:=(zLW).fin default
def zIT (r:List ByteArray):ARes ty:=⟨[.own 9 r],[]⟩
def zLs:AL base (Unit):=aNil
def zwR:Ab.Spec ty:=zh zLs fun x=>((zct ).1,zIT (zct ).2)
theorem zE8:SdP 198 zwR:=
 sW (cx':=zJz) zq zi zk (zj trivial) Tryz.call198 Tryz.func198 (c:=body Tryz.f198) (lOK aN) (sg:=⟨[.own 9],[]⟩)
def zJq:Cx ty:=mkCx base 2 [] [] [] [] [] []
def zK5:Wy0 (List ByteArray):=.k [ByteArray.mk #[(61:UInt8)],ByteArray.mk #[(60:UInt8),(62:UInt8)],ByteArray.mk #[(60:UInt8)],ByteArray.mk #[(60:UInt8),(61:UInt8)],ByteArray.mk #[(62:UInt8)],ByteArray.mk #[(62:UInt8),(61:UInt8)]]
def zej:Bool×List ByteArray:=(zK5).fin default
def zwQ:Ab.Spec ty:=zh zLs fun x=>((zej ).1,zIT (zej ).2)
theorem zFj:SdP 199 zwQ:=
 sW (cx':=zJq) zq zi zk (zj trivial) Tryz.call199 Tryz.func199 (c:=body Tryz.f199) (lOK aN) (sg:=⟨[.own 9],[]⟩)
def strings_Join (l:List ByteArray) (sep:ByteArray):Bool×ByteArray:=z19 l sep
def strings_Join_spec:Ab.Spec ty:=zh (cx:=base0) (zd (ze (vSl 9)) (zd (ze vStr) aNil)) fun x=>((strings_Join x.1 x.2.1).1,⟨[.pure (.lit (.string (strings_Join x.1 x.2.1).2))],[]⟩)
theorem zxS:Sound Tryz.prog base0 169 strings_Join_spec:=z54 (T:=9) zh8 rfl Go.Proofs.Tryz.lays156 Go.Proofs.Tryz.Builder_Extra_156 Tryz.call169 (fun s:ByteArray=>s) (fun _=>rfl) strings_Join (fun l sep=>congrArg (fun l=>z19 l sep) (List.map_id' (α:=ByteArray) l).symm)
def strconv_Itoa (x:Int):Bool×ByteArray:=zUb x
def strconv_Itoa_spec:Ab.Spec ty:=zh (cx:=base) (zd (ze (vInt .i64)) aNil) fun x=>((strconv_Itoa x.1).1,⟨[.pure (.lit (.string (strconv_Itoa x.1).2))],[]⟩)
theorem zEi:SdP 168 strconv_Itoa_spec:=z5H zi Go.Proofs.Tryz.laysM171 Tryz.call168 (fun _ h=>h.1)
def zWX:Cx ty:=mkCx base 15 [(128,zs0),(168,strconv_Itoa_spec)] [] [] [] [] []
def zYg (id:RowID):Wy0 (ByteArray):=.bn (zpw id) fun r2=>.i (!r2) (.k (ByteArray.mk #[])) (.bn (strconv_Itoa id.Table) fun r1=>.i (decide ((ByteArray.mk #[(116:UInt8)]).size+r1.size≤9223372036854775807)) (.i (decide ((ByteArray.mk #[(116:UInt8)]++r1).size+(ByteArray.mk #[(46:UInt8)]).size≤9223372036854775807)) (.bn (strconv_Itoa id.Seq) fun r0=>.i (decide ((ByteArray.mk #[(116:UInt8)]++r1++ByteArray.mk #[(46:UInt8)]).size+r0.size≤9223372036854775807)) (.k (ByteArray.mk #[(116:UInt8)]++r1++ByteArray.mk #[(46:UInt8)]++r0)) .d) .d) .d)
def zFq (id:RowID):Bool×ByteArray:=(zYg id).fin default
def zEl:Ab.Spec ty:=zh zZS fun x=>((zFq x.1).1,zRl (zFq x.1).2)
theorem zQB:SdP 195 zEl:=
 sW (cx':=zWX) zq zi zk (zj ⟨zxR,zEi,trivial⟩) Tryz.call195 Tryz.func195 (c:=body Tryz.f195) (lOK aN)
def zni (m b:Int):Bool×ByteArray:=zyo m b
def strconv_FormatInt_spec:Ab.Spec ty:=zh (cx:=base) (zd (ze (vInt .i64)) (zd (ze (vInt .i64)) aNil)) fun x=>((zni x.1 x.2.1).1,⟨[.pure (.lit (.string (zni x.1 x.2.1).2))],[]⟩)
theorem zyu:SdP 227 strconv_FormatInt_spec:=zY0 zi Go.Proofs.Tryz.laysM173 Tryz.call227 (fun _ h=>h.1)
def strings_ReplaceAll (s p q:ByteArray):Bool×ByteArray:=zwc s p q
def strings_ReplaceAll_spec:Ab.Spec ty:=zh (cx:=base0) (zd (ze vStr) (zd (ze vStr) (zd (ze vStr) aNil))) fun x=>((strings_ReplaceAll x.1 x.2.1 x.2.2.1).1,⟨[.pure (.lit (.string (strings_ReplaceAll x.1 x.2.1 x.2.2.1).2))],[]⟩)
theorem zHM:Sound Tryz.prog base0 228 strings_ReplaceAll_spec:=zWL zh8 rfl Go.Proofs.Tryz.lays155 Go.Proofs.Tryz.Builder_Extra_155 Tryz.call228 (fun _ h=>h.2)
def zXY:Cx ty:=mkCx base0 27 [(164,zuN),(227,strconv_FormatInt_spec),(228,strings_ReplaceAll_spec)] [] [] [] [] []
def z0r (v:Value):Wy0 (ByteArray):=.bn (zsq v) fun r2=>.i (!r2) (.k (ByteArray.mk #[])) (.i (v.Kind==0) (.bn (zni v.Int 10) fun r0=>.k r0) (.i (v.Kind==1) (.bn (strings_ReplaceAll v.Text (ByteArray.mk #[(39:UInt8)]) (ByteArray.mk #[(39:UInt8),(39:UInt8)])) fun r1=>.i (decide ((ByteArray.mk #[(39:UInt8)]).size+r1.size≤9223372036854775807)) (.i (decide ((ByteArray.mk #[(39:UInt8)]++r1).size+(ByteArray.mk #[(39:UInt8)]).size≤9223372036854775807)) (.k (ByteArray.mk #[(39:UInt8)]++r1++ByteArray.mk #[(39:UInt8)])) .d) .d) (.i (v.Int==1) (.k (ByteArray.mk #[(84:UInt8),(82:UInt8),(85:UInt8),(69:UInt8)])) (.k (ByteArray.mk #[(70:UInt8),(65:UInt8),(76:UInt8),(83:UInt8),(69:UInt8)])))))
def zAY (v:Value):Bool×ByteArray:=(z0r v).fin default
def z0s:AL base0 (Value×Unit):=zd (ze (vAgg 65)) aNil
def zGh:Ab.Spec ty:=zh z0s fun x=>((zAY x.1).1,zRl (zAY x.1).2)
theorem zRx:Sound Tryz.prog base0 197 zGh:=
 sW (cx':=zXY) zq zh8 zk (zj ⟨zyV.nodr,zyu.nodr,zHM,trivial⟩) Tryz.call197 Tryz.func197 (c:=body Tryz.f197) (lOK aN)
abbrev zgN:=Unit×Unit×yE×Int×Int×Unit
abbrev zgK:=Atom×List ByteArray×Unit
abbrev zkj:=Atom×List ByteArray
def zEH (zbm:yC→Bool×ByteArray) (t48:yE) (t49:Int) (t50:Int) (x_:Atom) (items:List ByteArray):Wy zgN zgK zkj:=.i (decide (t50<t49)) (.i (decide (0≤t50)&&decide (t50<Int.ofNat t48.length)) (.bn (zAY (t48.getD t50.toNat default).Value) fun r1=>.i (decide (r1.size+(ByteArray.mk #[(58:UInt8),(32:UInt8)]).size≤9223372036854775807)) (.bn (zbm (t48.getD t50.toNat default).Ann) fun r0=>.i (decide ((r1++ByteArray.mk #[(58:UInt8),(32:UInt8)]).size+r0.size≤9223372036854775807)) (.i (decide ((items.length+[r1++ByteArray.mk #[(58:UInt8),(32:UInt8)]++r0].length)*16≤zbk)) (.h ((),(),t48,t49,(IntKind.i64.wrap (t50+1)),()) (x_,(items++[r1++ByteArray.mk #[(58:UInt8),(32:UInt8)]++r0]),())) .d) .d) .d) .d) (.k (x_,items))
def zuy (zbm:yC→Bool×ByteArray) (x:zgN) (y:zgK):Wy zgN zgK zkj:=zEH zbm x.2.2.1 x.2.2.2.1 x.2.2.2.2.1 y.1 y.2.1
def zEo (zbm:yC→Bool×ByteArray) (n:Nat) (t48:yE) (t49:Int) (t50:Int) (x_:Atom) (items:List ByteArray):Bool×zkj:=zJ (zuy zbm) default n ((),(),t48,t49,t50,()) (x_,items,())
def zCy (r:zkj):LTree ty:=.done (.exit 1) [.ptr 360 0,.own 361] [.box (base.enc 67 r.1) false,.arr 9 r.2 false]
def zD6:LL ty zgN:=za (zdC 360 0) (za (lOwn 361) (za (lSl 100) (za lI64 (za lI64 zn))))
def zEt:BL ty zgK:=bBox (zd6 (fun x=>(⟨x.1,⟨x.2.1,x.2.2.1⟩,x.2.2.2.1,x.2.2.2.2.1,x.2.2.2.2.2.1,x.2.2.2.2.2.2.1,⟨x.2.2.2.2.2.2.2.1,x.2.2.2.2.2.2.2.2.1,x.2.2.2.2.2.2.2.2.2.1⟩⟩:Atom)) (fun x=>(x.Kind,x.Row.Table,x.Row.Seq,x.Args,x.Func,x.Items,x.Op,x.Bound.Kind,x.Bound.Int,x.Bound.Text,())) (fun _=>rfl) (za (lInt .i64) (za (lInt .i64) (za (lInt .i64) (za (lSl 23) (za (lInt .i64) (za (lSl 100) (za (lInt .i64) (za (lInt .i64) (za (lInt .i64) (za lStr zn))))))))))) false (bArr 9 false (bNil))
def zDk (x:zgN) (y:zgK):Nat:=(x.2.2.1.length+Int.toNat x.2.2.2.1+Int.toNat x.2.2.2.2.1+y.1.Args.length+y.1.Items.length+y.2.1.length+1)
def zv6 (zbm:yC→Bool×ByteArray):Cx ty:=mkCx base0 90 [(169,strings_Join_spec),(195,zEl),(196,(zsZ zbm)),(197,zGh),(198,zwR),(199,zwQ)] [] [(12,[(1,.keep),(3,.own 9),(48,.keep),(49,.keep),(50,.keep)])] [(12,2,(kpL [1,3]))] [(12,spW zD6 zEt (zuy zbm) default zCy zDk)] []
theorem zCE (zbm:yC→Bool×ByteArray):zI (zv6 zbm) (lp (body Tryz.f167) 0):=zt (id:=12) (hl:=rfl)
def zHh (zbm:yC→Bool×ByteArray) (x_:Atom):Wy0 (ByteArray):=.i (x_.Kind==0) (.bn (zFq x_.Row) fun r4=>.k r4) (.i (x_.Kind==1) (.i (decide ((0:Int)≤(0:Int))&&decide (0<Int.ofNat x_.Args.length)) (.bn (zbm (x_.Args.getD (Int.toNat 0) default)) fun r6=>.i (decide ((ByteArray.mk #[(109:UInt8),(111:UInt8),(110:UInt8),(117:UInt8),(115:UInt8),(91:UInt8)]).size+r6.size≤9223372036854775807)) (.i (decide ((ByteArray.mk #[(109:UInt8),(111:UInt8),(110:UInt8),(117:UInt8),(115:UInt8),(91:UInt8)]++r6).size+(ByteArray.mk #[(44:UInt8),(32:UInt8)]).size≤9223372036854775807)) (.i (decide ((0:Int)≤(1:Int))&&decide (1<Int.ofNat x_.Args.length)) (.bn (zbm (x_.Args.getD (Int.toNat 1) default)) fun r5=>.i (decide ((ByteArray.mk #[(109:UInt8),(111:UInt8),(110:UInt8),(117:UInt8),(115:UInt8),(91:UInt8)]++r6++ByteArray.mk #[(44:UInt8),(32:UInt8)]).size+r5.size≤9223372036854775807)) (.i (decide ((ByteArray.mk #[(109:UInt8),(111:UInt8),(110:UInt8),(117:UInt8),(115:UInt8),(91:UInt8)]++r6++ByteArray.mk #[(44:UInt8),(32:UInt8)]++r5).size+(ByteArray.mk #[(93:UInt8)]).size≤9223372036854775807)) (.k (ByteArray.mk #[(109:UInt8),(111:UInt8),(110:UInt8),(117:UInt8),(115:UInt8),(91:UInt8)]++r6++ByteArray.mk #[(44:UInt8),(32:UInt8)]++r5++ByteArray.mk #[(93:UInt8)])) .d) .d) .d) .d) .d) .d) (.i (x_.Kind==2) (.i (decide ((0:Int)≤(0:Int))&&decide (0<Int.ofNat x_.Args.length)) (.bn (zbm (x_.Args.getD (Int.toNat 0) default)) fun r7=>.i (decide ((ByteArray.mk #[(100:UInt8),(101:UInt8),(108:UInt8),(116:UInt8),(97:UInt8),(91:UInt8)]).size+r7.size≤9223372036854775807)) (.i (decide ((ByteArray.mk #[(100:UInt8),(101:UInt8),(108:UInt8),(116:UInt8),(97:UInt8),(91:UInt8)]++r7).size+(ByteArray.mk #[(93:UInt8)]).size≤9223372036854775807)) (.k (ByteArray.mk #[(100:UInt8),(101:UInt8),(108:UInt8),(116:UInt8),(97:UInt8),(91:UInt8)]++r7++ByteArray.mk #[(93:UInt8)])) .d) .d) .d) (.i (x_.Kind==3) (.i (decide ((0:Int)≤(0:Int))&&decide (0<Int.ofNat x_.Args.length)) (.bn (zbm (x_.Args.getD (Int.toNat 0) default)) fun r8=>.i (decide ((ByteArray.mk #[(97:UInt8),(98:UInt8),(115:UInt8),(101:UInt8),(110:UInt8),(116:UInt8),(91:UInt8)]).size+r8.size≤9223372036854775807)) (.i (decide ((ByteArray.mk #[(97:UInt8),(98:UInt8),(115:UInt8),(101:UInt8),(110:UInt8),(116:UInt8),(91:UInt8)]++r8).size+(ByteArray.mk #[(93:UInt8)]).size≤9223372036854775807)) (.k (ByteArray.mk #[(97:UInt8),(98:UInt8),(115:UInt8),(101:UInt8),(110:UInt8),(116:UInt8),(91:UInt8)]++r8++ByteArray.mk #[(93:UInt8)])) .d) .d) .d) (.bn (zEo zbm (x_.Items.length+(Int.ofNat x_.Items.length).toNat +Int.toNat 0+x_.Args.length+x_.Items.length+0+1) x_.Items (Int.ofNat x_.Items.length) 0 (Atom.mk x_.Kind x_.Row x_.Args x_.Func x_.Items x_.Op x_.Bound) []) fun r11=>.i (decide (0≤r11.1.Func)&&decide (r11.1.Func<Int.ofNat zct.2.length)) (.i (decide ((ByteArray.mk #[(116:UInt8),(101:UInt8),(115:UInt8),(116:UInt8),(91:UInt8)]).size+ByteArray.size (zct.2.getD r11.1.Func.toNat default)≤9223372036854775807)) (.i (decide ((ByteArray.mk #[(116:UInt8),(101:UInt8),(115:UInt8),(116:UInt8),(91:UInt8)]++zct.2.getD r11.1.Func.toNat default).size+(ByteArray.mk #[(123:UInt8)]).size≤9223372036854775807)) (.bn (strings_Join r11.2 (ByteArray.mk #[(59:UInt8),(32:UInt8)])) fun r10=>.i (decide ((ByteArray.mk #[(116:UInt8),(101:UInt8),(115:UInt8),(116:UInt8),(91:UInt8)]++zct.2.getD r11.1.Func.toNat default++ByteArray.mk #[(123:UInt8)]).size+r10.size≤9223372036854775807)) (.i (decide ((ByteArray.mk #[(116:UInt8),(101:UInt8),(115:UInt8),(116:UInt8),(91:UInt8)]++zct.2.getD r11.1.Func.toNat default++ByteArray.mk #[(123:UInt8)]++r10).size+(ByteArray.mk #[(125:UInt8),(32:UInt8)]).size≤9223372036854775807)) (.i (decide (0≤IntKind.i64.wrap (r11.1.Op - 5))&&decide (IntKind.i64.wrap (r11.1.Op - 5)<Int.ofNat zej.2.length)) (.i (decide ((ByteArray.mk #[(116:UInt8),(101:UInt8),(115:UInt8),(116:UInt8),(91:UInt8)]++zct.2.getD r11.1.Func.toNat default++ByteArray.mk #[(123:UInt8)]++r10++ByteArray.mk #[(125:UInt8),(32:UInt8)]).size+ByteArray.size (zej.2.getD (IntKind.i64.wrap (r11.1.Op - 5)).toNat default)≤9223372036854775807)) (.i (decide ((ByteArray.mk #[(116:UInt8),(101:UInt8),(115:UInt8),(116:UInt8),(91:UInt8)]++zct.2.getD r11.1.Func.toNat default++ByteArray.mk #[(123:UInt8)]++r10++ByteArray.mk #[(125:UInt8),(32:UInt8)]++zej.2.getD (IntKind.i64.wrap (r11.1.Op - 5)).toNat default).size+(ByteArray.mk #[(32:UInt8)]).size≤9223372036854775807)) (.bn (zAY r11.1.Bound) fun r9=>.i (decide ((ByteArray.mk #[(116:UInt8),(101:UInt8),(115:UInt8),(116:UInt8),(91:UInt8)]++zct.2.getD r11.1.Func.toNat default++ByteArray.mk #[(123:UInt8)]++r10++ByteArray.mk #[(125:UInt8),(32:UInt8)]++zej.2.getD (IntKind.i64.wrap (r11.1.Op - 5)).toNat default++ByteArray.mk #[(32:UInt8)]).size+r9.size≤9223372036854775807)) (.i (decide ((ByteArray.mk #[(116:UInt8),(101:UInt8),(115:UInt8),(116:UInt8),(91:UInt8)]++zct.2.getD r11.1.Func.toNat default++ByteArray.mk #[(123:UInt8)]++r10++ByteArray.mk #[(125:UInt8),(32:UInt8)]++zej.2.getD (IntKind.i64.wrap (r11.1.Op - 5)).toNat default++ByteArray.mk #[(32:UInt8)]++r9).size+(ByteArray.mk #[(93:UInt8)]).size≤9223372036854775807)) (.k (ByteArray.mk #[(116:UInt8),(101:UInt8),(115:UInt8),(116:UInt8),(91:UInt8)]++zct.2.getD r11.1.Func.toNat default++ByteArray.mk #[(123:UInt8)]++r10++ByteArray.mk #[(125:UInt8),(32:UInt8)]++zej.2.getD (IntKind.i64.wrap (r11.1.Op - 5)).toNat default++ByteArray.mk #[(32:UInt8)]++r9++ByteArray.mk #[(93:UInt8)])) .d) .d) .d) .d) .d) .d) .d) .d) .d) .d))))
def zyB (zbm:yC→Bool×ByteArray) (x_:Atom):Bool×ByteArray:=(zHh zbm x_).fin default
theorem zBZ (zbm:yC→Bool×ByteArray) (zQm:Sound Tryz.prog base0 196 (zsZ zbm)):Sound Tryz.prog base0 167 (zk0 (zyB zbm)):=
 sW (cx':=(zv6 zbm)) zq zh8 zk (zj ⟨zxS,zQB.nodr,zQm,zRx,zE8.nodr,zFj.nodr,trivial⟩) Tryz.call167 Tryz.func167 (c:=body Tryz.f167) (lOK (aC (zCE zbm) aN))
end Go.Proofs.YtljlfiomikifjaaGreatDoor
end
