/- Texts of this claim, joined (the program, its functions in plain words, and what they compute). -/
import Derived.Test.YtljlfiomikifjaaGreatDoorGC4
set_option autoImplicit false
set_option linter.unusedVariables false
set_option linter.unusedSectionVars false
set_option linter.unusedSimpArgs false
set_option maxRecDepth 1000000
set_option maxHeartbeats 0
noncomputable section
namespace Go.Proofs.YtljlfiomikifjaaGreatDoor
open Go Go.Ab
open Go.Proofs.Tryz
def zdN (F:Term->Bool×Bool):Ab.Spec ty:=zi zSj λx=>((F x.1).1,zYq (F x.1).2)
def zc9 (F:Fc->Bool×Bool):Ab.Spec ty:=zi zMW λx=>((F x.1).1,zYq (F x.1).2)
def zup:AL base (yC×Unit×Unit):=ze (zf (vSl 28)) (ze (zf (vFn 141 zb5)) zu)
def zdP (F:yC->Bool×Int):Ab.Spec ty:=zi zup λx=>((F x.1).1,zSM (F x.1).2)
def zdp (F:yC->Bool×Bool):Ab.Spec ty:=zi zup λx=>((F x.1).1,zYq (F x.1).2)
def zvx:AL base (yD×Unit×Unit):=ze (zf (vSl 69)) (ze (zf (vFn 142 zb5)) zu)
def zd6 (F:yD->Bool×Int):Ab.Spec ty:=zi zvx λx=>((F x.1).1,zSM (F x.1).2)
def zdt (F:yD->Bool×Bool):Ab.Spec ty:=zi zvx λx=>((F x.1).1,zYq (F x.1).2)
def zNh (zbe:yC->Bool×Bool) (zt:Term->Bool×Bool):=zbr base 6 [(59,(zdp zbe)),(141,(zdN zt))]
def zPY (zbe:yC->Bool×Bool) (zt:Term->Bool×Bool) (a:yC):Wy0 (Bool):=.bn (zbe a) λr0=>.k (!r0)
def zET (zbe:yC->Bool×Bool) (zt:Term->Bool×Bool) (a:yC):=(zPY zbe zt a).fin default
theorem zJb (zbe:yC->Bool×Bool) (zt:Term->Bool×Bool) (zqI:SdP 59 (zdp zbe)) (zgJ:SdP 141 (zdN zt)):SdP 73 (ziP (zET zbe zt)):=
 sT (cx':=(zNh zbe zt)) (zk ⟨zqI,zgJ,trivial⟩) call73 func73 (lOK aN)
def zIZ (zbi:yD->Bool×Bool) (zm:Fc->Bool×Bool):=zbr base 6 [(49,(zdt zbi)),(142,(zc9 zm))]
def zLd (zbi:yD->Bool×Bool) (zm:Fc->Bool×Bool) (t:Term):Wy0 (Bool):=.bn (zbi t.Fs) λr0=>.k r0
def zBh (zbi:yD->Bool×Bool) (zm:Fc->Bool×Bool) (t:Term):=(zLd zbi zm t).fin default
theorem zGx (zbi:yD->Bool×Bool) (zm:Fc->Bool×Bool) (zrq:SdP 49 (zdt zbi)) (zfn:SdP 142 (zc9 zm)):SdP 141 (zdN (zBh zbi zm)):=
 sT (cx':=(zIZ zbi zm)) (zk ⟨zrq,zfn,trivial⟩) call141 func141 (lOK aN)
def zGo (zd3:yC->Bool×Bool):=zbr base 22 [(73,(ziP zd3))]
def zHP (zd3:yC->Bool×Bool) (f:Fc):Wy0 (Bool):=.i (f.At.Kind != 0) (.i (f.At.Kind != 2) (.k true) (.i (decide ((0:Int)<=(0:Int))&&decide (0<Int.ofNat f.At.Ag.length)) (.bn (zd3 (f.At.Ag.getD (Int.toNat 0) default)) λr0=>.k (!r0)) .d)) (.k false)
def zw2 (zd3:yC->Bool×Bool) (f:Fc):=(zHP zd3 f).fin default
theorem zEs (zd3:yC->Bool×Bool) (zPi:SdP 73 (ziP zd3)):SdP 142 (zc9 (zw2 zd3)):=
 sT (cx':=(zGo zd3)) (zk ⟨zPi,trivial⟩) call142 func142 (lOK aN)
def zqs (zbo:yD->Bool×Int) (zm:Fc->Bool×Bool):=zbr base 9 [(103,(zd6 zbo)),(142,(zc9 zm))]
def zrD (zbo:yD->Bool×Int) (zm:Fc->Bool×Bool) (s:yD):Wy0 (Bool):=.bn (zbo s) λr0=>.k (decide (r0≥0))
def zjj (zbo:yD->Bool×Int) (zm:Fc->Bool×Bool) (s:yD):=(zrD zbo zm s).fin default
theorem zoW (zbo:yD->Bool×Int) (zm:Fc->Bool×Bool) (zt4:SdP 103 (zd6 zbo)) (zfn:SdP 142 (zc9 zm)):SdP 49 (zdt (zjj zbo zm)):=
 sT (cx':=(zqs zbo zm)) (zk ⟨zt4,zfn,trivial⟩) call49 func49 (lOK aN)
def zp0 (zbk:yC->Bool×Int) (zt:Term->Bool×Bool):=zbr base 9 [(113,(zdP zbk)),(141,(zdN zt))]
def zqG (zbk:yC->Bool×Int) (zt:Term->Bool×Bool) (s:yC):Wy0 (Bool):=.bn (zbk s) λr0=>.k (decide (r0≥0))
def ziL (zbk:yC->Bool×Int) (zt:Term->Bool×Bool) (s:yC):=(zqG zbk zt s).fin default
theorem zoP (zbk:yC->Bool×Int) (zt:Term->Bool×Bool) (ztp:SdP 113 (zdP zbk)) (zgJ:SdP 141 (zdN zt)):SdP 59 (zdp (ziL zbk zt)):=
 sT (cx':=(zp0 zbk zt)) (zk ⟨ztp,zgJ,trivial⟩) call59 func59 (lOK aN)
abbrev zeJ:=yD×Unit×Int×Int×Unit
def zth (zm:Fc->Bool×Bool) (s:yD) (t7:Int) (t8:Int):Wy zeJ Unit (Int⊕Unit):=.i (decide (t8<t7)) (.i (decide (0<=t8)&&decide (t8<Int.ofNat s.length)) (.bn (zm (FO.mk (At.mk (s.getD t8.toNat default).At.Kind (s.getD t8.toNat default).At.Row (s.getD t8.toNat default).At.Ag (s.getD t8.toNat default).At.Func (s.getD t8.toNat default).At.Items (s.getD t8.toNat default).At.Op (s.getD t8.toNat default).At.Bd) (s.getD t8.toNat default).Exp)) λr0=>.i (r0) (.k (.inl t8)) (.h (s,(),t7,(IntKind.i64.wrap (t8+1)),()) ())) .d) (.k (.inr ()))
def zjc (zm:Fc->Bool×Bool) (x:zeJ) (y:Unit):=zth zm x.1 x.2.2.1 x.2.2.2.1
def ztl (zm:Fc->Bool×Bool) (n:Nat) (s:yD) (t7:Int) (t8:Int):=zC (zjc zm) (.inl default) n (s,(),t7,t8,()) ()
def ztc:LL ty zeJ:=za (lSl 69) (za (lFn 142 (zl)) (za zj (za zj zl)))
def zso (x:zeJ) (y:Unit):Nat:=(x.1.length+Int.toNat x.2.2.1+Int.toNat x.2.2.2.1+1000)
def zi8 (zm:Fc->Bool×Bool):=zbV base 19 [(142,(zc9 zm))] [] [(2,(kpL [0,1,7,8]))] [(2,1,[]),(2,0,(kpL [4]))] [(2,spW ztc zba6 (zjc zm) (.inl default) ztL zso)] []
theorem zr2 (zm:Fc->Bool×Bool):zF (zi8 zm) (lp (body f103) 0):=zq (id:=2) (hl:=rfl)
def ztQ (zm:Fc->Bool×Bool) (s:yD):Wy0 (Int):=.bn (ztl zm (s.length+(Int.ofNat s.length).toNat +Int.toNat 0+1000) s (Int.ofNat s.length) 0) λr2=>.i (isL r2) (.k (getL r2)) (.k (-1:Int))
def zkw (zm:Fc->Bool×Bool) (s:yD):=(ztQ zm s).fin default
theorem zq4 (zm:Fc->Bool×Bool) (zfn:SdP 142 (zc9 zm)):SdP 103 (zd6 (zkw zm)):=
 sT (cx':=(zi8 zm)) (zk ⟨zfn,trivial⟩) call103 func103 (lOK (aC (zr2 zm) aN))
abbrev zew:=yC×Unit×Int×Int×Unit
def zsx (zt:Term->Bool×Bool) (s:yC) (t7:Int) (t8:Int):Wy zew Unit (Int⊕Unit):=.i (decide (t8<t7)) (.i (decide (0<=t8)&&decide (t8<Int.ofNat s.length)) (.bn (zt (s.getD t8.toNat default)) λr0=>.i (r0) (.k (.inl t8)) (.h (s,(),t7,(IntKind.i64.wrap (t8+1)),()) ())) .d) (.k (.inr ()))
def ziU (zt:Term->Bool×Bool) (x:zew) (y:Unit):=zsx zt x.1 x.2.2.1 x.2.2.2.1
def zrU (zt:Term->Bool×Bool) (n:Nat) (s:yC) (t7:Int) (t8:Int):=zC (ziU zt) (.inl default) n (s,(),t7,t8,()) ()
def zsz:LL ty zew:=za (lSl 28) (za (lFn 141 (zl)) (za zj (za zj zl)))
def zrk (x:zew) (y:Unit):Nat:=(x.1.length+Int.toNat x.2.2.1+Int.toNat x.2.2.2.1+1000)
def ziA (zt:Term->Bool×Bool):=zbV base 19 [(141,(zdN zt))] [] [(2,(kpL [0,1,7,8]))] [(2,1,[]),(2,0,(kpL [4]))] [(2,spW zsz zba6 (ziU zt) (.inl default) ztL zrk)] []
theorem zrK (zt:Term->Bool×Bool):zF (ziA zt) (lp (body f113) 0):=zq (id:=2) (hl:=rfl)
def zs0 (zt:Term->Bool×Bool) (s:yC):Wy0 (Int):=.bn (zrU zt (s.length+(Int.ofNat s.length).toNat +Int.toNat 0+1000) s (Int.ofNat s.length) 0) λr2=>.i (isL r2) (.k (getL r2)) (.k (-1:Int))
def zj3 (zt:Term->Bool×Bool) (s:yC):=(zs0 zt s).fin default
theorem zqb (zt:Term->Bool×Bool) (zgJ:SdP 141 (zdN zt)):SdP 113 (zdP (zj3 zt)):=
 sT (cx':=(ziA zt)) (zk ⟨zgJ,trivial⟩) call113 func113 (lOK (aC (zrK zt) aN))
def zde:Nat->(yC->Bool×Bool)×(Term->Bool×Bool)×(Fc->Bool×Bool)×(yC->Bool×Int)×(yC->Bool×Bool)×(yD->Bool×Int)×(yD->Bool×Bool)
 | 0=>(λ_=>(false,default),λ_=>(false,default),λ_=>(false,default),λ_=>(false,default),λ_=>(false,default),λ_=>(false,default),λ_=>(false,default))
 | n+1=>(zET ((zde n).2.2.2.2.1) ((zde n).2.1),zBh ((zde n).2.2.2.2.2.2) ((zde n).2.2.1),zw2 ((zde n).1),zj3 ((zde n).2.1),ziL ((zde n).2.2.2.1) ((zde n).2.1),zkw ((zde n).2.2.1),zjj ((zde n).2.2.2.2.2.1) ((zde n).2.2.1))
def zEU (n:Nat):yC->Bool×Bool:=(zde n).1
def zNm (n:Nat):Term->Bool×Bool:=(zde n).2.1
def zI2 (n:Nat):Fc->Bool×Bool:=(zde n).2.2.1
def zus (n:Nat):yC->Bool×Int:=(zde n).2.2.2.1
def zr5 (n:Nat):yC->Bool×Bool:=(zde n).2.2.2.2.1
def zvq (n:Nat):yD->Bool×Int:=(zde n).2.2.2.2.2.1
def zsV (n:Nat):yD->Bool×Bool:=(zde n).2.2.2.2.2.2
theorem zRj:∀ n,SdP 73 (ziP (zEU n))/\SdP 141 (zdN (zNm n))/\SdP 142 (zc9 (zI2 n))/\SdP 113 (zdP (zus n))/\SdP 59 (zdp (zr5 n))/\SdP 103 (zd6 (zvq n))/\SdP 49 (zdt (zsV n))
 | 0=>⟨zbb call73 (λ_=>rfl),zbb call141 (λ_=>rfl),zbb call142 (λ_=>rfl),zbb call113 (λ_=>rfl),zbb call59 (λ_=>rfl),zbb call103 (λ_=>rfl),zbb call49 (λ_=>rfl)⟩
 | n+1=>by
  have ih:=zRj n;exact ⟨zJb _ _ (ih.2.2.2.2.1) (ih.2.1),zGx _ _ (ih.2.2.2.2.2.2) (ih.2.2.1),zEs _ (ih.1),zqb _ (ih.2.1),zoP _ _ (ih.2.2.2.1) (ih.2.1),zq4 _ (ih.2.2.1),zoW _ _ (ih.2.2.2.2.2.1) (ih.2.2.1)⟩
def zG1:yC->Bool×Bool:=zEU 1000
def zBu:Ab.Spec ty:=ziP zG1
theorem zLD:SdP 73 zBu:=(zRj 1000).1
def zOR (r:yB):ARes ty:=⟨[.own 43 r],[]⟩
def zkx (F:yC->Bool×yB):Ab.Spec ty:=zi zZm λx=>((F x.1).1,zOR (F x.1).2)
abbrev zg6:=yF×yF×Int×Int×Unit
def zCI (s1:yF) (s2:yF) (t12:Int) (t13:Int):Wy zg6 Unit (Bool⊕Unit):=.i (decide (t13<t12)) (.i (decide (0<=t13)&&decide (t13<Int.ofNat s1.length)) (.i (decide (0<=t13)&&decide (t13<Int.ofNat s2.length)) (.i (!((s1.getD t13.toNat default).Table==(s2.getD t13.toNat default).Table&&((s1.getD t13.toNat default).Seq==(s2.getD t13.toNat default).Seq&&true))) (.k (.inl false)) (.h (s1,s2,t12,(IntKind.i64.wrap (t13+1)),()) ())) .d) .d) (.k (.inr ()))
def zoR (x:zg6) (y:Unit):=zCI x.1 x.2.1 x.2.2.1 x.2.2.2.1
def zCU (n:Nat) (s1:yF) (s2:yF) (t12:Int) (t13:Int):=zC (zoR) (.inl default) n (s1,s2,t12,t13,()) ()
def zCJ:LL ty zg6:=za (lSl 49) (za (lSl 49) (za zj (za zj zl)))
def zBA (x:zg6) (y:Unit):Nat:=(x.1.length+x.2.1.length+Int.toNat x.2.2.1+Int.toNat x.2.2.2.1+1)
def zoU:=zbV base 26 [] [] [(4,(kpL [0,1,12,13]))] [(4,1,[]),(4,0,(kpL [4]))] [(4,spW zCJ zba6 (zoR) (.inl default) zSV zBA)] []
theorem zBK:zF zoU (lp (body f209) 0):=zq (id:=4) (hl:=rfl)
def zDy (s1:yF) (s2:yF):Wy0 (Bool):=.i (Int.ofNat s1.length != Int.ofNat s2.length) (.k false) (.bn (zCU (s1.length+s2.length+(Int.ofNat s1.length).toNat +Int.toNat 0+1) s1 s2 (Int.ofNat s1.length) 0) λr0=>.i (isL r0) (.k (getL r0)) (.k true))
def zkv (s1:yF) (s2:yF):=(zDy s1 s2).fin default
def zDw:AL base (yF×yF×Unit):=ze (zf (vSl 49)) (ze (zf (vSl 49)) zu)
def znq:=zi zDw λx=>((zkv x.1 x.2.1).1,zYq (zkv x.1 x.2.1).2)
theorem zzT:SdP 209 znq:=
 sT (cx':=zoU) (zk trivial) call209 func209 (lOK (aC zBK aN))
def zYo:=zbr base 8 [(209,znq)]
def z0L (a:yF) (b:yF):Wy0 (Bool):=.bn (zkv a b) λr0=>.k r0
def zze (a:yF) (b:yF):=(z0L a b).fin default
def zwJ:=zi zDw λx=>((zze x.1 x.2.1).1,zYq (zze x.1 x.2.1).2)
theorem zED:SdP 208 zwJ:=
 sT (cx':=zYo) (zk ⟨zzT,trivial⟩) call208 func208 (lOK aN)
def z2U:=zbr base 17 [(120,zlZ),(121,zme)]
def z4M (a:RowID) (b:RowID):Wy0 (Int):=.bn (zep a.Table b.Table) λr2=>.bn (zep a.Seq b.Seq) λr1=>.bn (zn2 [r2,r1]) λr0=>.k r0
def znB (a:RowID) (b:RowID):=(z4M a b).fin default
def z5c:AL base (RowID×RowID×Unit):=ze (zf (zcK 49)) (ze (zf (zcK 49)) zu)
def znz:=zi z5c λx=>((znB x.1 x.2.1).1,zSM (znB x.1 x.2.1).2)
theorem zqC:SdP 233 znz:=
 sT (cx':=z2U) (zk ⟨znL,zpc,trivial⟩) call233 func233 (lOK aN)
def zfw:Cx ty:={ base with nt:=8 }
def zgr (s:yF):Bool×yF:=(decide (s.length*16<=zN),s)
def zhO:Ab.Spec ty:=zi (cx:=base) (ze (zf (vSl 49)) zu) λx=>((zgr x.1).1,⟨[.own 49 (zgr x.1).2],[]⟩)
theorem zBJ:zgU zfw f212 (body f212) ⟨[.own 49],[]⟩ [.pure (.lit (.slice none 0 0))]=some ⟨[.own 49 []],[]⟩:=by kernel_rfl
theorem zz0 (p:Addr) (c:Nat):zgU zfw f212 (body f212) ⟨[.own 49],[]⟩ [.pure (.lit (.slice (some p) 0 c))]=some ⟨[.own 49 []],[]⟩:=by kernel_rfl
theorem zAL (l:yF):zgU zfw f212 (body f212) ⟨[.own 49],[]⟩ [.pure (.sl 49 l)]=bif !l.isEmpty then bif decide ((([]:List (ty 49)).length+l.length)*16<=zN) then some ⟨[.own 49 l],[]⟩ else none else none:=by kernel_rfl
theorem zmD:SdP 212 zhO:=
 zJU (cx':=zfw) (bytes:=16) zGC zkn ⟨⟨rfl,rfl,rfl,rfl,rfl,rfl⟩,rfl⟩ (λg s h=>by cases h) call212 func212 (c:=body f212) (by kernel_rfl) (zDD (l:=[]) (by kernel_rfl) trivial) zBJ zz0 zAL (by kernel_rfl)
abbrev zf5:=Unit×Int×(Nat×Nat)×Int×Unit
abbrev zcf:=yF×Unit
abbrev zpU:=Int×yF
abbrev zjY:=Unit×Int×Unit
abbrev zpV:=(Nat×yF)⊕yF
def zAM (k:Int) (s2_0:Nat) (s2_1:Nat) (k2:Int) (s:yF):Wy zf5 zcf zpU:=.i (decide (k2<Int.ofNat s2_1)) (.i (decide (0<=k2)&&decide (k2<Int.ofNat s2_1)) (.i (decide (0<=IntKind.i64.wrap (k2 - 1))&&decide (IntKind.i64.wrap (k2 - 1)<Int.ofNat s2_1)) (.i (!((s.getD (s2_0+k2.toNat) default).Table==(s.getD (s2_0+(IntKind.i64.wrap (k2 - 1)).toNat) default).Table&&((s.getD (s2_0+k2.toNat) default).Seq==(s.getD (s2_0+(IntKind.i64.wrap (k2 - 1)).toNat) default).Seq&&true))) (.i (decide (0<=k2)&&decide (k2<Int.ofNat s2_1)) (.i (decide (0<=k)&&decide (k<Int.ofNat s.length)) (.i (decide (k.toNat<s.length)) (.h ((),(IntKind.i64.wrap (k+1)),(s2_0,s2_1),(IntKind.i64.wrap (k2+1)),()) ((s.set k.toNat (s.getD (s2_0+k2.toNat) default)),())) .d) .d) .d) (.h ((),k,(s2_0,s2_1),(IntKind.i64.wrap (k2+1)),()) (s,()))) .d) .d) (.k (k,s))
def zny (x:zf5) (y:zcf):=zAM x.2.1 x.2.2.1.1 x.2.2.1.2 x.2.2.2.1 y.1
def zAA (n:Nat) (k:Int) (s2_0:Nat) (s2_1:Nat) (k2:Int) (s:yF):=zC (zny) default n ((),k,(s2_0,s2_1),k2,()) (s,())
def zzE (r:zpU):LTree ty:=.done (.exit 2) [.own 244,.lit (.int .i64 r.1)] [.arr 49 r.2 false]
def zAC:LL ty zf5:=za (zds 244) (za zj (za (zbkn 244) (za zj zl)))
def zAW:BL ty zcf:=zdA 49 false (zbd)
def zAK (k:Int) (s:yF):Wy zjY zcf zpV:=.i (decide (k<Int.ofNat s.length)) (.i (decide (0<=k)&&decide (k<Int.ofNat s.length)) (.i (decide (0<=IntKind.i64.wrap (k - 1))&&decide (IntKind.i64.wrap (k - 1)<Int.ofNat s.length)) (.i ((s.getD k.toNat default).Table==(s.getD (IntKind.i64.wrap (k - 1)).toNat default).Table&&((s.getD k.toNat default).Seq==(s.getD (IntKind.i64.wrap (k - 1)).toNat default).Seq&&true)) (.i (decide (0<=k)&&decide (k<=Int.ofNat s.length)&&decide (Int.ofNat s.length<=Int.ofNat s.length)) (.bn (zAA (k.toNat +k.toNat +((Int.ofNat s.length).toNat - k.toNat)+Int.toNat 1+s.length+1) k k.toNat ((Int.ofNat s.length).toNat - k.toNat) 1 s) λr0=>.i (decide (0<=r0.1)&&decide (r0.1<=Int.ofNat r0.2.length)&&decide (Int.ofNat r0.2.length<=Int.ofNat r0.2.length)) (.i (decide (r0.1.toNat +((Int.ofNat r0.2.length).toNat - r0.1.toNat)<=r0.2.length)) (.i (decide ((0:Int)<=(0:Int))&&decide (0<=r0.1)&&decide (r0.1<=Int.ofNat (List.take r0.1.toNat r0.2++List.replicate ((Int.ofNat r0.2.length).toNat - r0.1.toNat) (RowID.mk 0 0)++List.drop (r0.1.toNat +((Int.ofNat r0.2.length).toNat - r0.1.toNat)) r0.2).length)) (.k (.inl (r0.1.toNat - Int.toNat 0,List.take r0.1.toNat r0.2++List.replicate ((Int.ofNat r0.2.length).toNat - r0.1.toNat) (RowID.mk 0 0)++List.drop (r0.1.toNat +((Int.ofNat r0.2.length).toNat - r0.1.toNat)) r0.2))) .d) .d) .d) .d) (.h ((),(IntKind.i64.wrap (k+1)),()) (s,()))) .d) .d) (.k (.inr s))
def zne (x:zjY) (y:zcf):=zAK x.2.1 y.1
def zAH (n:Nat) (k:Int) (s:yF):=zC (zne) (.inl default) n ((),k,()) (s,())
def zzN (r:zpV):LTree ty:=.ite (isL r) (.done .ret [.sub 244 0 ((getL r).1)] [.arr 49 ((getL r).2) false]) (.done (.exit 0) [.own 244] [.arr 49 (getR r) false])
def zAR:LL ty zjY:=za (zds 244) (za zj zl)
def zzD (x:zf5) (y:zcf):Nat:=(Int.toNat x.2.1+x.2.2.1.1+x.2.2.1.2+Int.toNat x.2.2.2.1+y.1.length+1)
def zhP:=zbV base 61 [] [] [(4,(kpL [0,3])),(9,(kpL [0,3,4,5]))] [(4,1,(kpL [0])),(4,0,(kpL [2])),(9,3,(kpL [0,3]))] [(9,spW zAC zAW (zny) default zzE zzD),(4,spW zAR zAW (zne) (.inl default) zzN λx y=>(Int.toNat x.2.1+y.1.length+1))] []
theorem zzQ:zF zhP (lp (body f234) 1):=zq (id:=9) (hl:=rfl)
theorem zzI:zF zhP (lp (body f234) 0):=zq (id:=4) (hl:=rfl)
def zBP (s:yF):Wy0 (yF):=.i (decide (Int.ofNat s.length<2)) (.k s) (.bn (zAH (Int.toNat 1+s.length+1) 1 s) λr2=>.i (isL r2) (.k (List.take (getL r2).1 (getL r2).2)) (.k (getR r2)))
def zjl (s:yF):=(zBP s).fin default
def zAp (r:yF):ARes ty:=⟨[.own 49 r],[none]⟩
def zBL:AL base zcf:=ze (zq1 49) zu
def zmn:=zi zBL λx=>((zjl x.1).1,zAp (zjl x.1).2)
theorem zya:SdP 234 zmn:=
 sT (cx':=zhP) (zk trivial) call234 func234 (lOK (aC zzI (aC zzQ aN))) (sg:=⟨[.own 49],[false]⟩)
def ziR (x:yF):Bool×yF:=zDc (λa b=>znB a b) x
def zlE:Ab.Spec ty:=zi (cx:=base) (ze (zq1 49) (ze (zf (vFn 233 (zb5))) zu)) λx=>((ziR x.1).1,⟨[],[some ⟨49,(ziR x.1).2⟩]⟩)
theorem zyU (c:Unit) (x y:RowID) (h:(znB x y).1=true):znz ((AV.agg (base.enc 49 x)::AV.agg (base.enc 49 y)::(zb5:VL base (Unit)).enc c).map Arg.pure)=some (true,⟨[.pure (.lit (.int .i64 (znB x y).2))],[]⟩):=by
 rw [<- h]; kernel_rfl
theorem zxl:SdP 232 zlE:=by
 letI:DecidableEq (ty 49):=inferInstanceAs (DecidableEq RowID)
 exact zbdE (T:=49) zkn rfl Go.Proofs.Tryz.sortRow Tryz.isAgg49 (by unfold zx; exact Tryz.sizeOf49) call232 zqC (zb5) (λc=>λa b=>znB a b) zyU
def zYt:=zbV base 10 [(212,zhO),(232,zlE),(233,znz),(234,zmn)] [(232,[true,false]),(234,[true])] [] [] [] []
def z0M (l:yF):Wy0 (yF):=.bn (zgr l) λr2=>.bn (ziR r2) λr1=>.bn (zjl r1) λr0=>.k r0
def zrQ (l:yF):=(z0M l).fin default
def zVv (r:yF):ARes ty:=⟨[.own 49 r],[]⟩
def zYX:AL base (yF×Unit):=ze (zf (vSl 49)) zu
def zo8:=zi zYX λx=>((zrQ x.1).1,zVv (zrQ x.1).2)
theorem zvE:SdP 204 zo8:=
 sT (cx':=zYt) (zk ⟨zmD,zxl,zqC,zya,trivial⟩) call204 func204 (lOK aN) (sg:=⟨[.own 49],[]⟩)
abbrev zcF:=yF×yF×Unit×yF×Int×Int×Unit
abbrev zgv:=Int⊕(yF×yF)
def zlb (s1:yF) (s2:yF) (t11:yF) (t12:Int) (t13:Int):Wy zcF Unit zgv:=.i (decide (t13<t12)) (.i (decide (0<=t13)&&decide (t13<Int.ofNat t11.length)) (.i (decide (t13≥Int.ofNat s2.length)) (.k (.inl 1)) (.i (decide (0<=t13)&&decide (t13<Int.ofNat s2.length)) (.bn (znB (t11.getD t13.toNat default) (s2.getD t13.toNat default)) λr0=>.i (r0 != 0) (.k (.inl (r0))) (.h (s1,s2,(),t11,t12,(IntKind.i64.wrap (t13+1)),()) ())) .d)) .d) (.k (.inr (s1,s2)))
def ze5 (x:zcF) (y:Unit):=zlb x.1 x.2.1 x.2.2.2.1 x.2.2.2.2.1 x.2.2.2.2.2.1
def zk8 (n:Nat) (s1:yF) (s2:yF) (t11:yF) (t12:Int) (t13:Int):=zC (ze5) (.inl default) n (s1,s2,(),t11,t12,t13,()) ()
def zkX (r:zgv):LTree ty:=.ite (isL r) (.done .ret [.lit (.int .i64 (getL r))] []) (.done (.exit 0) [.sl 49 (getR r).1,.sl 49 (getR r).2] [])
def zk5:LL ty zcF:=za (lSl 49) (za (lSl 49) (za (lFn 233 (zl)) (za (lSl 49) (za zj (za zj zl)))))
def zkZ (x:zcF) (y:Unit):Nat:=(x.1.length+x.2.1.length+x.2.2.2.1.length+Int.toNat x.2.2.2.2.1+Int.toNat x.2.2.2.2.2.1+1)
def ze8:=zbV base 39 [(233,znz)] [] [(2,(kpL [0,1,2,11,12,13]))] [(2,1,(kpL [0,1])),(2,0,(kpL [6]))] [(2,spW zk5 zba6 (ze5) (.inl default) zkX zkZ)] []
theorem zk0:zF ze8 (lp (body f236) 0):=zq (id:=2) (hl:=rfl)
def zlz (s1:yF) (s2:yF):Wy0 (Int):=.bn (zk8 (s1.length+s2.length+s1.length+(Int.ofNat s1.length).toNat +Int.toNat 0+1) s1 s2 s1 (Int.ofNat s1.length) 0) λr2=>.i (isL r2) (.k (getL r2)) (.i (decide (Int.ofNat (getR r2).1.length<Int.ofNat (getR r2).2.length)) (.k (-1:Int)) (.k 0))
def zdr (s1:yF) (s2:yF):=(zlz s1 s2).fin default
def zly:AL base (yF×yF×Unit×Unit):=ze (zf (vSl 49)) (ze (zf (vSl 49)) (ze (zf (vFn 233 zb5)) zu))
def zeX:=zi zly λx=>((zdr x.1 x.2.1).1,zSM (zdr x.1 x.2.1).2)
theorem zkJ:SdP 236 zeX:=
 sT (cx':=ze8) (zk ⟨zqC,trivial⟩) call236 func236 (lOK (aC zk0 aN))
def zUn:=zbr base 8 [(233,znz),(236,zeX)]
def zVd (a:yF) (b:yF):Wy0 (Int):=.bn (zdr a b) λr0=>.k r0
def zk2 (a:yF) (b:yF):=(zVd a b).fin default
def ztH:=zi zDw λx=>((zk2 x.1 x.2.1).1,zSM (zk2 x.1 x.2.1).2)
theorem zC2:SdP 206 ztH:=
 sT (cx':=zUn) (zk ⟨zqC,zkJ,trivial⟩) call206 func206 (lOK aN)
abbrev zeL:=Unit×Unit×Int×(Nat×Nat)×Int×Unit
abbrev zcb:=yB×Unit
abbrev zl6:=Int×yB
abbrev zg1:=Unit×Unit×Int×Unit
abbrev zlY:=(Nat×yB)⊕yB
def zvQ (k:Int) (s2_0:Nat) (s2_1:Nat) (k2:Int) (s:yB):Wy zeL zcb zl6:=.i (decide (k2<Int.ofNat s2_1)) (.i (decide (0<=k2)&&decide (k2<Int.ofNat s2_1)) (.i (decide (0<=IntKind.i64.wrap (k2 - 1))&&decide (IntKind.i64.wrap (k2 - 1)<Int.ofNat s2_1)) (.bn (zze (s.getD (s2_0+k2.toNat) default) (s.getD (s2_0+(IntKind.i64.wrap (k2 - 1)).toNat) default)) λr0=>.i (!r0) (.i (decide (0<=k2)&&decide (k2<Int.ofNat s2_1)) (.i (decide (0<=k)&&decide (k<Int.ofNat s.length)) (.i (decide (k.toNat<s.length)) (.h ((),(),(IntKind.i64.wrap (k+1)),(s2_0,s2_1),(IntKind.i64.wrap (k2+1)),()) ((s.set k.toNat (s.getD (s2_0+k2.toNat) default)),())) .d) .d) .d) (.h ((),(),k,(s2_0,s2_1),(IntKind.i64.wrap (k2+1)),()) (s,()))) .d) .d) (.k (k,s))
def zkC (x:zeL) (y:zcb):=zvQ x.2.2.1 x.2.2.2.1.1 x.2.2.2.1.2 x.2.2.2.2.1 y.1
def zvm (n:Nat) (k:Int) (s2_0:Nat) (s2_1:Nat) (k2:Int) (s:yB):=zC (zkC) default n ((),(),k,(s2_0,s2_1),k2,()) (s,())
def zuR (r:zl6):LTree ty:=.done (.exit 2) [.own 264,.lit (.int .i64 r.1)] [.arr 43 r.2 false]
def zvs:LL ty zeL:=za (zds 264) (za (lFn 208 (zl)) (za zj (za (zbkn 264) (za zj zl))))
def zvn:BL ty zcb:=zdA 43 false (zbd)
def zvU (k:Int) (s:yB):Wy zg1 zcb zlY:=.i (decide (k<Int.ofNat s.length)) (.i (decide (0<=k)&&decide (k<Int.ofNat s.length)) (.i (decide (0<=IntKind.i64.wrap (k - 1))&&decide (IntKind.i64.wrap (k - 1)<Int.ofNat s.length)) (.bn (zze (s.getD k.toNat default) (s.getD (IntKind.i64.wrap (k - 1)).toNat default)) λr3=>.i (r3) (.i (decide (0<=k)&&decide (k<=Int.ofNat s.length)&&decide (Int.ofNat s.length<=Int.ofNat s.length)) (.bn (zvm (k.toNat +k.toNat +((Int.ofNat s.length).toNat - k.toNat)+Int.toNat 1+s.length+1) k k.toNat ((Int.ofNat s.length).toNat - k.toNat) 1 s) λr2=>.i (decide (0<=r2.1)&&decide (r2.1<=Int.ofNat r2.2.length)&&decide (Int.ofNat r2.2.length<=Int.ofNat r2.2.length)) (.i (decide (r2.1.toNat +((Int.ofNat r2.2.length).toNat - r2.1.toNat)<=r2.2.length)) (.i (decide ((0:Int)<=(0:Int))&&decide (0<=r2.1)&&decide (r2.1<=Int.ofNat (List.take r2.1.toNat r2.2++List.replicate ((Int.ofNat r2.2.length).toNat - r2.1.toNat) []++List.drop (r2.1.toNat +((Int.ofNat r2.2.length).toNat - r2.1.toNat)) r2.2).length)) (.k (.inl (r2.1.toNat - Int.toNat 0,List.take r2.1.toNat r2.2++List.replicate ((Int.ofNat r2.2.length).toNat - r2.1.toNat) []++List.drop (r2.1.toNat +((Int.ofNat r2.2.length).toNat - r2.1.toNat)) r2.2))) .d) .d) .d) .d) (.h ((),(),(IntKind.i64.wrap (k+1)),()) (s,()))) .d) .d) (.k (.inr s))
def zks (x:zg1) (y:zcb):=zvU x.2.2.1 y.1
def zvJ (n:Nat) (k:Int) (s:yB):=zC (zks) (.inl default) n ((),(),k,()) (s,())
def zuo (r:zlY):LTree ty:=.ite (isL r) (.done .ret [.sub 264 0 ((getL r).1)] [.arr 43 ((getL r).2) false]) (.done (.exit 0) [.own 264] [.arr 43 (getR r) false])
def zvS:LL ty zg1:=za (zds 264) (za (lFn 208 (zl)) (za zj zl))
def zun (x:zeL) (y:zcb):Nat:=(Int.toNat x.2.2.1+x.2.2.2.1.1+x.2.2.2.1.2+Int.toNat x.2.2.2.2.1+y.1.length+1)
def zfE:=zbV base 66 [(208,zwJ)] [] [(4,(kpL [0,1,5])),(9,(kpL [0,1,5,6,7]))] [(4,1,(kpL [0])),(4,0,(kpL [4])),(9,3,(kpL [0,5]))] [(9,spW zvs zvn (zkC) default zuR zun),(4,spW zvS zvn (zks) (.inl default) zuo λx y=>(Int.toNat x.2.2.1+y.1.length+1))] []
theorem zu8:zF zfE (lp (body f207) 1):=zq (id:=9) (hl:=rfl)
theorem zuE:zF zfE (lp (body f207) 0):=zq (id:=4) (hl:=rfl)
def zwd (s:yB):Wy0 (yB):=.i (decide (Int.ofNat s.length<2)) (.k s) (.bn (zvJ (Int.toNat 1+s.length+1) 1 s) λr6=>.i (isL r6) (.k (List.take (getL r6).1 (getL r6).2)) (.k (getR r6)))
def zgC (s:yB):=(zwd s).fin default
def zvf (r:yB):ARes ty:=⟨[.own 43 r],[none]⟩
def zwb:AL base (yB×Unit×Unit):=ze (zq1 43) (ze (zf (vFn 208 zb5)) zu)
def zjN:=zi zwb λx=>((zgC x.1).1,zvf (zgC x.1).2)
theorem zsQ:SdP 207 zjN:=
 sT (cx':=zfE) (zk ⟨zED,trivial⟩) call207 func207 (lOK (aC zuE (aC zu8 aN))) (sg:=⟨[.own 43],[false]⟩)
def zhK (x:yB):Bool×yB:=zDc (λa b=>zk2 a b) x
def zkT:Ab.Spec ty:=zi (cx:=base) (ze (zq1 43) (ze (zf (vFn 206 (zb5))) zu)) λx=>((zhK x.1).1,⟨[],[some ⟨43,(zhK x.1).2⟩]⟩)
theorem zxL (c:Unit) (x y:(yF)) (h:(zk2 x y).1=true):ztH (((.sl 49 x:AV ty)::(.sl 49 y:AV ty)::(zb5:VL base (Unit)).enc c).map Arg.pure)=some (true,⟨[.pure (.lit (.int .i64 (zk2 x y).2))],[]⟩):=by
 rw [<- h]; kernel_rfl
theorem zvF:SdP 205 zkT:=by
 letI:DecidableEq (ty 43):=inferInstanceAs (DecidableEq (yF))
 exact zbdm (T:=43) zkn rfl Go.Proofs.Tryz.sortSet (λx:(yF)=>(.sl 49 x:AV ty)) (λ_=>rfl) call205 zC2 (zb5) (λc=>λa b=>zk2 a b) zxL
abbrev zyW:=Unit×yB×Int×Int×Unit
abbrev zsq:=yB×Unit
abbrev zyC:=yB
def z4E (t6:yB) (t7:Int) (t8:Int) (out_:yB):Wy zyW zsq zyC:=.i (decide (t8<t7)) (.i (decide (0<=t8)&&decide (t8<Int.ofNat t6.length)) (.bn (zrQ (t6.getD t8.toNat default)) λr0=>.i (decide ((out_.length+[r0].length)*24<=zN)) (.h ((),t6,t7,(IntKind.i64.wrap (t8+1)),()) ((out_++[r0]),())) .d) .d) (.k out_)
def zOv (x:zyW) (y:zsq):=z4E x.2.1 x.2.2.1 x.2.2.2.1 y.1
def z5b (n:Nat) (t6:yB) (t7:Int) (t8:Int) (out_:yB):=zC (zOv) default n ((),t6,t7,t8,()) (out_,())
def z2Y (r:zyC):LTree ty:=.done (.exit 0) [.own 88] [.arr 43 r false]
def z5y:LL ty zyW:=za (zds 88) (za (lSl 43) (za zj (za zj zl)))
def z4J:BL ty zsq:=zdA 43 false (zbd)
def z2B (x:zyW) (y:zsq):Nat:=(x.2.1.length+Int.toNat x.2.2.1+Int.toNat x.2.2.2.1+y.1.length+1)
def zPH:=zbV base 22 [(204,zo8),(205,zkT),(206,ztH),(207,zjN),(208,zwJ)] [(205,[true,false]),(207,[true,false])] [(3,[(3,.own 43),(6,.keep),(7,.keep),(8,.keep)])] [(3,1,(kpL [3]))] [(3,spW z5y z4J (zOv) default z2Y z2B)] []
theorem z2r:zF zPH (lp (body f170) 0):=zq (id:=3) (hl:=rfl)
def z7U (l:yB):Wy0 zyC:=.bn (z5b (l.length+(Int.ofNat l.length).toNat +Int.toNat 0+0+1) l (Int.ofNat l.length) 0 []) λr4=>.bn (zhK r4) λr3=>.bn (zgC r3) λr2=>.k r2
def zFd (l:yB):=(z7U l).fin default
def z3n (r:zyC):ARes ty:=⟨[.own 43 r],[]⟩
def z7p:AL base zsq:=ze (zf (vSl 43)) zu
def zCX:=zi z7p λx=>((zFd x.1).1,z3n (zFd x.1).2)
theorem zIl:SdP 170 zCX:=
 sT (cx':=zPH) (zk ⟨zvE,zvF,zC2,zsQ,zED,trivial⟩) call170 func170 (lOK (aC z2r aN)) (sg:=⟨[.own 43],[]⟩)
abbrev zg7:=yF×Unit×Int×Int×Unit
def zCk (s:yF) (t7:Int) (t8:Int) (v:RowID):Wy zg7 (RowID×Unit) (Int⊕Unit):=.i (decide (t8<t7)) (.i (decide (0<=t8)&&decide (t8<Int.ofNat s.length)) (.i (v.Table==(s.getD t8.toNat default).Table&&(v.Seq==(s.getD t8.toNat default).Seq&&true)) (.k (.inl t8)) (.h (s,(),t7,(IntKind.i64.wrap (t8+1)),()) (v,()))) .d) (.k (.inr ()))
def zou (x:zg7) (y:RowID×Unit):=zCk x.1 x.2.2.1 x.2.2.2.1 y.1
def zCy (n:Nat) (s:yF) (t7:Int) (t8:Int) (v:RowID):=zC (zou) (.inl default) n (s,(),t7,t8,()) (v,())
def zCb:LL ty zg7:=za (lSl 49) (za (ze3 76 0) (za zj (za zj zl)))
def zC9:BL ty (RowID×Unit):=zhS (zf1 (λx=>(⟨x.1,x.2.1⟩:RowID)) (λx=>(x.Table,x.Seq,())) (λ_=>rfl) (za (zR .i64) (za (zR .i64) zl))) false (zbd)
def zBU (x:zg7) (y:RowID×Unit):Nat:=(x.1.length+Int.toNat x.2.2.1+Int.toNat x.2.2.2.1+1)
def zoF:=zbV base 19 [] [] [(2,(kpL [0,3,7,8]))] [(2,1,[]),(2,0,(kpL [4]))] [(2,spW zCb zC9 (zou) (.inl default) ztL zBU)] []
theorem zBO:zF zoF (lp (body f261) 0):=zq (id:=2) (hl:=rfl)
def zDx (s:yF) (v:RowID):Wy0 (Int):=.bn (zCy (s.length+(Int.ofNat s.length).toNat +Int.toNat 0+1) s (Int.ofNat s.length) 0 v) λr0=>.i (isL r0) (.k (getL r0)) (.k (-1:Int))
def zkt (s:yF) (v:RowID):=(zDx s v).fin default
def zDt:AL base (yF×RowID×Unit):=ze (zf (vSl 49)) (ze (zf (zcK 49)) zu)
def znl:=zi zDt λx=>((zkt x.1 x.2.1).1,zSM (zkt x.1 x.2.1).2)
theorem zAc:SdP 261 znl:=
 sT (cx':=zoF) (zk trivial) call261 func261 (lOK (aC zBO aN))
def zzH:=zbr base 9 [(261,znl)]
def zAX (s:yF) (v:RowID):Wy0 (Bool):=.bn (zkt s v) λr0=>.k (decide (r0≥0))
def zi1 (s:yF) (v:RowID):=(zAX s v).fin default
def zlI:=zi zDt λx=>((zi1 x.1 x.2.1).1,zYq (zi1 x.1 x.2.1).2)
theorem zwG:SdP 239 zlI:=
 sT (cx':=zzH) (zk ⟨zAc,trivial⟩) call239 func239 (lOK aN)
def z06:=zbr base 7 [(239,zlI)]
def z2l (id:RowID) (p1:yF):Wy0 (Bool):=.bn (zi1 p1 id) λr0=>.k r0
def zBf (id:RowID) (p1:yF):=(z2l id p1).fin default
def z2Q:AL base (RowID×(yF×Unit)×Unit):=ze (zf (zcK 49)) (ze (zf (zvL (zdS (vSl 49) zb5))) zu)
def zqN:=zi z2Q λx=>((zBf x.1 x.2.1.1).1,zYq (zBf x.1 x.2.1.1).2)
theorem zxN:SdP 238 zqN:=
 sT (cx':=z06) (zk ⟨zwG,trivial⟩) call238 func238 (lOK aN)
abbrev zft:=yF×((yF×Unit)×Unit)×Int×Int×Unit
def zzk (s:yF) (f:yF) (t7:Int) (t8:Int):Wy zft Unit (Int⊕Unit):=.i (decide (t8<t7)) (.i (decide (0<=t8)&&decide (t8<Int.ofNat s.length)) (.bn (zBf (s.getD t8.toNat default) f) λr0=>.i (r0) (.k (.inl t8)) (.h (s,((f,()),()),t7,(IntKind.i64.wrap (t8+1)),()) ())) .d) (.k (.inr ()))
def zmc (x:zft) (y:Unit):=zzk x.1 x.2.1.1.1 x.2.2.1 x.2.2.2.1
def zyZ (n:Nat) (s:yF) (f:yF) (t7:Int) (t8:Int):=zC (zmc) (.inl default) n (s,((f,()),()),t7,t8,()) ()
def zzg:LL ty zft:=za (lSl 49) (za (lFn 238 (za (zoV (za (lSl 49) zl) 0) zl)) (za zj (za zj zl)))
def zyi (x:zft) (y:Unit):Nat:=(x.1.length+x.2.1.1.1.length+Int.toNat x.2.2.1+Int.toNat x.2.2.2.1+1)
def zmt:=zbV base 19 [(238,zqN)] [] [(2,(kpL [0,1,7,8]))] [(2,1,[]),(2,0,(kpL [4]))] [(2,spW zzg zba6 (zmc) (.inl default) ztL zyi)] []
theorem zye:zF zmt (lp (body f260) 0):=zq (id:=2) (hl:=rfl)
def zAk (s:yF) (f:yF):Wy0 (Int):=.bn (zyZ (s.length+f.length+(Int.ofNat s.length).toNat +Int.toNat 0+1) s f (Int.ofNat s.length) 0) λr2=>.i (isL r2) (.k (getL r2)) (.k (-1:Int))
def zib (s:yF) (f:yF):=(zAk s f).fin default
def zz4:AL base (yF×((yF×Unit)×Unit)×Unit):=ze (zf (vSl 49)) (ze (zf (vFn 238 (zdS (zvL (zdS (vSl 49) zb5)) zb5))) zu)
def zk4:=zi zz4 λx=>((zib x.1 x.2.1.1.1).1,zSM (zib x.1 x.2.1.1.1).2)
theorem zwe:SdP 260 zk4:=
 sT (cx':=zmt) (zk ⟨zxN,trivial⟩) call260 func260 (lOK (aC zye aN))
abbrev zfc:=Unit×((yF×Unit)×Unit)×Int×Int×Unit
abbrev zfd:=yF×Unit
abbrev znR:=Int×yF
def zx4 (del:yF) (i:Int) (j:Int) (s:yF):Wy zfc zfd znR:=.i (decide (j<Int.ofNat s.length)) (.i (decide (0<=j)&&decide (j<Int.ofNat s.length)) (.bn (zBf (s.getD j.toNat default) del) λr0=>.i (!r0) (.i (decide (0<=i)&&decide (i<Int.ofNat s.length)) (.i (decide (i.toNat<s.length)) (.h ((),((del,()),()),(IntKind.i64.wrap (i+1)),(IntKind.i64.wrap (j+1)),()) ((s.set i.toNat (s.getD j.toNat default)),())) .d) .d) (.h ((),((del,()),()),i,(IntKind.i64.wrap (j+1)),()) (s,()))) .d) (.k (i,s))
def zlD (x:zfc) (y:zfd):=zx4 x.2.1.1.1 x.2.2.1 x.2.2.2.1 y.1
def zxP (n:Nat) (del:yF) (i:Int) (j:Int) (s:yF):=zC (zlD) default n ((),((del,()),()),i,j,()) (s,())
def zwZ (r:znR):LTree ty:=.done (.exit 0) [.own 168,.lit (.int .i64 r.1)] [.arr 49 r.2 false]
def zx2:LL ty zfc:=za (zds 168) (za (lFn 238 (za (zoV (za (lSl 49) zl) 0) zl)) (za zj (za zj zl)))
def zyb:BL ty zfd:=zdA 49 false (zbd)
def zwQ (x:zfc) (y:zfd):Nat:=(x.2.1.1.1.length+Int.toNat x.2.2.1+Int.toNat x.2.2.2.1+y.1.length+1)
def zlC:=zbV base 42 [(238,zqN),(260,zk4)] [] [(5,(kpL [0,1,5,6]))] [(5,1,(kpL [0,5]))] [(5,spW zx2 zyb (zlD) default zwZ zwQ)] []
theorem zxm:zF zlC (lp (body f237) 0):=zq (id:=5) (hl:=rfl)
def zy6 (s:yF) (del:yF):Wy0 (yF):=.bn (zib s del) λr3=>.i (r3==(-1:Int)) (.k s) (.bn (zxP (del.length+r3.toNat +(IntKind.i64.wrap (r3+1)).toNat +s.length+1) del r3 (IntKind.i64.wrap (r3+1)) s) λr2=>.i (decide (0<=r2.1)&&decide (r2.1<=Int.ofNat r2.2.length)&&decide (Int.ofNat r2.2.length<=Int.ofNat r2.2.length)) (.i (decide (r2.1.toNat +((Int.ofNat r2.2.length).toNat - r2.1.toNat)<=r2.2.length)) (.i (decide ((0:Int)<=(0:Int))&&decide (0<=r2.1)&&decide (r2.1<=Int.ofNat (List.take r2.1.toNat r2.2++List.replicate ((Int.ofNat r2.2.length).toNat - r2.1.toNat) (RowID.mk 0 0)++List.drop (r2.1.toNat +((Int.ofNat r2.2.length).toNat - r2.1.toNat)) r2.2).length)) (.k (List.take (r2.1.toNat - Int.toNat 0) (List.take r2.1.toNat r2.2++List.replicate ((Int.ofNat r2.2.length).toNat - r2.1.toNat) (RowID.mk 0 0)++List.drop (r2.1.toNat +((Int.ofNat r2.2.length).toNat - r2.1.toNat)) r2.2))) .d) .d) .d)
def zhQ (s:yF) (del:yF):=(zy6 s del).fin default
def zzc:AL base (yF×((yF×Unit)×Unit)×Unit):=ze (zq1 49) (ze (zf (vFn 238 (zdS (zvL (zdS (vSl 49) zb5)) zb5))) zu)
def zkS:=zi zzc λx=>((zhQ x.1 x.2.1.1.1).1,zAp (zhQ x.1 x.2.1.1.1).2)
theorem zvz:SdP 237 zkS:=
 sT (cx':=zlC) (zk ⟨zxN,zwe,trivial⟩) call237 func237 (lOK (aC zxm aN)) (sg:=⟨[.own 49],[false]⟩)
def z7q:=zbV base 11 [(204,zo8),(237,zkS),(238,zqN)] [(237,[true,false])] [] [] [] []
def z8v (a:yF) (b:yF):Wy0 (yF):=.bn (zrQ a) λr1=>.bn (zhQ r1 b) λr0=>.k r0
def zN8 (a:yF) (b:yF):=(z8v a b).fin default
def zMx:=zi zDw λx=>((zN8 x.1 x.2.1).1,zVv (zN8 x.1 x.2.1).2)
theorem zZS:SdP 210 zMx:=
 sT (cx':=z7q) (zk ⟨zvE,zvz,zxN,trivial⟩) call210 func210 (lOK aN) (sg:=⟨[.own 49],[]⟩)
def z5Q:=zbr base 10 [(210,zMx)]
def z6Z (a:yF) (b:yF):Wy0 (Bool):=.bn (zN8 a b) λr0=>.k (Int.ofNat r0.length==0)
def zLX (a:yF) (b:yF):=(z6Z a b).fin default
def zLf:=zi zDw λx=>((zLX x.1 x.2.1).1,zYq (zLX x.1 x.2.1).2)
theorem zX4:SdP 172 zLf:=
 sT (cx':=z5Q) (zk ⟨zZS,trivial⟩) call172 func172 (lOK aN)
def zWl:=zbr base 17 [(172,zLf)]
def zYp (k:Int) (p1:Int) (p2:yB) (p3:yF):Wy0 (Bool):=.i (k != p1) (.i (decide (0<=k)&&decide (k<Int.ofNat p2.length)) (.bn (zLX (p2.getD k.toNat default) p3) λr0=>.k r0) .d) (.k false)
def zEd (k:Int) (p1:Int) (p2:yB) (p3:yF):=(zYp k p1 p2 p3).fin default
def zYE:AL base (Int×(Int×Unit)×(yB×Unit)×(yF×Unit)×Unit):=ze (zf zfh) (ze (zf (zvL (zdS zfh zb5))) (ze (zf (zvL (zdS (vSl 43) zb5))) (ze (zf (zvL (zdS (vSl 49) zb5))) zu)))
def zn6:=zi zYE λx=>((zEd x.1 x.2.1.1 x.2.2.1.1 x.2.2.2.1.1).1,zYq (zEd x.1 x.2.1.1 x.2.2.1.1 x.2.2.2.1.1).2)
theorem ztR:SdP 171 zn6:=
 sT (cx':=zWl) (zk ⟨zX4,trivial⟩) call171 func171 (lOK aN)
abbrev zwn:=Unit×Int×Int×Unit
abbrev zwz:=List Int×Unit
def z17 (t8:Int) (t9:Int) (out_:List Int):Wy zwn zwz (List Int):=.i (decide (t9<t8)) (.i (decide (0<=t9)&&decide (t9<Int.ofNat out_.length)) (.i (decide (t9.toNat<out_.length)) (.h ((),t8,(IntKind.i64.wrap (t9+1)),()) ((out_.set t9.toNat t9),())) .d) .d) (.k out_)
def zMQ (x:zwn) (y:zwz):=z17 x.2.1 x.2.2.1 y.1
def z2S (n:Nat) (t8:Int) (t9:Int) (out_:List Int):=zC (zMQ) default n ((),t8,t9,()) (out_,())
def zZN (r:List Int):LTree ty:=.done (.exit 0) [.own 72] [.arr 3 r false]
def z14:LL ty zwn:=za (zds 72) (za zj (za zj zl))
def z2o:BL ty zwz:=zdA 3 false (zbd)
def zY3 (x:zwn) (y:zwz):Nat:=(Int.toNat x.2.1+Int.toNat x.2.2.1+y.1.length+1)
def zMC:=zbV base 18 [] [] [(3,(kpL [3,8,9]))] [(3,1,(kpL [3]))] [(3,spW z14 z2o (zMQ) default zZN zY3)] []
theorem zZR:zF zMC (lp (body f174) 0):=zq (id:=3) (hl:=rfl)
def z4B (n_:Int):Wy0 (List Int):=.i (decide (0<=n_)&&decide (n_<=n_)&&decide (n_*Int.ofNat 8<=Int.ofNat zN)&&decide (n_<=Int.ofNat zN)) (.bn (z2S ((Int.ofNat (List.replicate n_.toNat (0:Int)).length).toNat +Int.toNat 0+(List.replicate n_.toNat (0:Int)).length+1) (Int.ofNat (List.replicate n_.toNat (0:Int)).length) 0 (List.replicate n_.toNat (0:Int))) λr0=>.k r0) .d
def zIX (n_:Int):=(z4B n_).fin default
def z0d (r:List Int):ARes ty:=⟨[.own 3 r],[]⟩
def zIm:=zi z2V λx=>((zIX x.1).1,z0d (zIX x.1).2)
theorem zWr:SdP 174 zIm:=
 sT (cx':=zMC) (zk trivial) call174 func174 (lOK (aC zZR aN)) (sg:=⟨[.own 3],[]⟩)
abbrev zkN:=List Int×((Int×Unit)×(yB×Unit)×(yF×Unit)×Unit)×Int×Int×Unit
def zJE (s:List Int) (f_0:Int) (f_1:yB) (f_2:yF) (t7:Int) (t8:Int):Wy zkN Unit (Int⊕Unit):=.i (decide (t8<t7)) (.i (decide (0<=t8)&&decide (t8<Int.ofNat s.length)) (.bn (zEd (s.getD t8.toNat default) f_0 f_1 f_2) λr0=>.i (r0) (.k (.inl t8)) (.h (s,((f_0,()),(f_1,()),(f_2,()),()),t7,(IntKind.i64.wrap (t8+1)),()) ())) .d) (.k (.inr ()))
def zxy (x:zkN) (y:Unit):=zJE x.1 x.2.1.1.1 x.2.1.2.1.1 x.2.1.2.2.1.1 x.2.2.1 x.2.2.2.1
def zJf (n:Nat) (s:List Int) (f_0:Int) (f_1:yB) (f_2:yF) (t7:Int) (t8:Int):=zC (zxy) (.inl default) n (s,((f_0,()),(f_1,()),(f_2,()),()),t7,t8,()) ()
def zIR:LL ty zkN:=za (lSl 3) (za (lFn 171 (za (zoV (za zj zl) 0) (za (zoV (za (lSl 43) zl) 0) (za (zoV (za (lSl 49) zl) 0) zl)))) (za zj (za zj zl)))
def zIc (x:zkN) (y:Unit):Nat:=(x.1.length+Int.toNat x.2.1.1.1+x.2.1.2.1.1.length+x.2.1.2.2.1.1.length+Int.toNat x.2.2.1+Int.toNat x.2.2.2.1+1)
def zwF:=zbV base 19 [(171,zn6)] [] [(2,(kpL [0,1,7,8]))] [(2,1,[]),(2,0,(kpL [4]))] [(2,spW zIR zba6 (zxy) (.inl default) ztL zIc)] []
theorem zH9:zF zwF (lp (body f211) 0):=zq (id:=2) (hl:=rfl)
def zK5 (s:List Int) (f_0:Int) (f_1:yB) (f_2:yF):Wy0 (Int):=.bn (zJf (s.length+f_0.toNat +f_1.length+f_2.length+(Int.ofNat s.length).toNat +Int.toNat 0+1) s f_0 f_1 f_2 (Int.ofNat s.length) 0) λr2=>.i (isL r2) (.k (getL r2)) (.k (-1:Int))
def zqo (s:List Int) (f_0:Int) (f_1:yB) (f_2:yF):=(zK5 s f_0 f_1 f_2).fin default
def zLn:AL base (List Int×((Int×Unit)×(yB×Unit)×(yF×Unit)×Unit)×Unit):=ze (zf (vSl 3)) (ze (zf (vFn 171 (zdS (zvL (zdS zfh zb5)) (zdS (zvL (zdS (vSl 43) zb5)) (zdS (zvL (zdS (vSl 49) zb5)) zb5))))) zu)
def zuN:=zi zLn λx=>((zqo x.1 x.2.1.1.1 x.2.1.2.1.1 x.2.1.2.2.1.1).1,zSM (zqo x.1 x.2.1.1.1 x.2.1.2.1.1 x.2.1.2.2.1.1).2)
theorem zGt:SdP 211 zuN:=
 sT (cx':=zwF) (zk ⟨ztR,trivial⟩) call211 func211 (lOK (aC zH9 aN))
def zGn:=zbr base 9 [(171,zn6),(211,zuN)]
def zG2 (s:List Int) (f_0:Int) (f_1:yB) (f_2:yF):Wy0 (Bool):=.bn (zqo s f_0 f_1 f_2) λr0=>.k (decide (r0≥0))
def znF (s:List Int) (f_0:Int) (f_1:yB) (f_2:yF):=(zG2 s f_0 f_1 f_2).fin default
def zrb:=zi zLn λx=>((znF x.1 x.2.1.1.1 x.2.1.2.1.1 x.2.1.2.2.1.1).1,zYq (znF x.1 x.2.1.1.1 x.2.1.2.1.1 x.2.1.2.2.1.1).2)
theorem zD4:SdP 173 zrb:=
 sT (cx':=zGn) (zk ⟨ztR,zGt,trivial⟩) call173 func173 (lOK aN)
abbrev zwp:=Unit×Unit×Unit×Int×Int×Unit
abbrev zwm:=(Unit×Unit)×yB×yB×Unit
abbrev zwy:=yB
def z15 (t11:Int) (t12:Int) (out_:yB) (t10:yB):Wy zwp zwm zwy:=.i (decide (t12<t11)) (.i (decide (0<=t12)&&decide (t12<Int.ofNat t10.length)) (.bn (zIX (Int.ofNat t10.length)) λr1=>.bn (znF r1 t12 t10 (t10.getD t12.toNat default)) λr0=>.i (!r0) (.i (decide ((out_.length+[t10.getD t12.toNat default].length)*24<=zN)) (.h ((),(),(),t11,(IntKind.i64.wrap (t12+1)),()) (((),()),(out_++[t10.getD t12.toNat default]),t10,())) .d) (.h ((),(),(),t11,(IntKind.i64.wrap (t12+1)),()) (((),()),out_,t10,()))) .d) (.k out_)
def zMS (x:zwp) (y:zwm):=z15 x.2.2.2.1 x.2.2.2.2.1 y.2.1 y.2.2.1
def z2m (n:Nat) (t11:Int) (t12:Int) (out_:yB) (t10:yB):=zC (zMS) default n ((),(),(),t11,t12,()) (((),()),out_,t10,())
def zY1 (r:zwy):LTree ty:=.done (.exit 0) [.own 120] [.arr 43 r false]
def z2W:LL ty zwp:=za (ze3 120 0) (za (zds 121) (za (zds 122) (za zj (za zj zl))))
def z2j:BL ty zwm:=zhS (za (zds 122) zl) false (zdA 43 false (zdA 43 false (zbd)))
def z0X (x:zwp) (y:zwm):Nat:=(Int.toNat x.2.2.2.1+Int.toNat x.2.2.2.2.1+y.2.1.length+y.2.2.1.length+1)
def zMI:=zbV base 30 [(170,zCX),(171,zn6),(173,zrb),(174,zIm)] [] [(4,[(3,.keep),(4,.own 43),(10,.keep),(11,.keep),(12,.keep)])] [(4,1,(kpL [4]))] [(4,spW z2W z2j (zMS) default zY1 z0X)] []
theorem z0I:zF zMI (lp (body f143) 0):=zq (id:=4) (hl:=rfl)
def z4v (l:yB):Wy0 zwy:=.bn (zFd l) λr5=>.bn (z2m ((Int.ofNat r5.length).toNat +Int.toNat 0+0+r5.length+1) (Int.ofNat r5.length) 0 [] r5) λr4=>.k r4
def zxg (l:yB):=(z4v l).fin default
def z0O (r:zwy):ARes ty:=⟨[.own 43 r],[]⟩
def z4Z:AL base (yB×Unit):=ze (zf (vSl 43)) zu
def zID:=zi z4Z λx=>((zxg x.1).1,z0O (zxg x.1).2)
theorem zWL:SdP 143 zID:=
 sT (cx':=zMI) (zk ⟨zIl,ztR,zD4,zWr,trivial⟩) call143 func143 (lOK (aC z0I aN)) (sg:=⟨[.own 43],[]⟩)
def z6H:=zbr base 10 [(204,zo8),(212,zhO)]
def z9l (a:yF) (b:yF):Wy0 (yF):=.bn (zgr a) λr1=>.i (decide ((r1.length+b.length)*16<=zN)) (.bn (zrQ (r1++b)) λr0=>.k r0) .d
def zPa (a:yF) (b:yF):=(z9l a b).fin default
def zMP:=zi zDw λx=>((zPa x.1 x.2.1).1,zVv (zPa x.1 x.2.1).2)
theorem z0e:SdP 175 zMP:=
 sT (cx':=z6H) (zk ⟨zvE,zmD,trivial⟩) call175 func175 (lOK aN) (sg:=⟨[.own 49],[]⟩)
abbrev zwk:=yB×Unit×yF×yB×Int×Int×yB×Int×Int×Unit
abbrev zhy:=yB×Unit
abbrev zMF:=yB×yB×Int×Int×yB
abbrev zwv:=yB×Unit×yB×Int×Int×Unit
abbrev zwx:=yB
def z2z (b:yB) (x_:yF) (t10:yB) (t11:Int) (t12:Int) (t16:yB) (t17:Int) (t18:Int) (out_:yB):Wy zwk zhy zMF:=.i (decide (t18<t17)) (.i (decide (0<=t18)&&decide (t18<Int.ofNat t16.length)) (.bn (zPa x_ (t16.getD t18.toNat default)) λr2=>.i (decide ((out_.length+[r2].length)*24<=zN)) (.h (b,(),x_,t10,t11,t12,t16,t17,(IntKind.i64.wrap (t18+1)),()) ((out_++[r2]),())) .d) .d) (.k (b,t10,t11,t12,out_))
def zMR (x:zwk) (y:zhy):=z2z x.1 x.2.2.1 x.2.2.2.1 x.2.2.2.2.1 x.2.2.2.2.2.1 x.2.2.2.2.2.2.1 x.2.2.2.2.2.2.2.1 x.2.2.2.2.2.2.2.2.1 y.1
def z12 (n:Nat) (b:yB) (x_:yF) (t10:yB) (t11:Int) (t12:Int) (t16:yB) (t17:Int) (t18:Int) (out_:yB):=zC (zMR) default n (b,(),x_,t10,t11,t12,t16,t17,t18,()) (out_,())
def z0j (r:zMF):LTree ty:=.done (.exit 2) [.sl 43 r.1,.own 128,.sl 43 r.2.1,.lit (.int .i64 r.2.2.1),.lit (.int .i64 r.2.2.2.1)] [.arr 43 r.2.2.2.2 false]
def z23:LL ty zwk:=za (lSl 43) (za (zds 128) (za (lSl 49) (za (lSl 43) (za zj (za zj (za (lSl 43) (za zj (za zj zl))))))))
def z29:BL ty zhy:=zdA 43 false (zbd)
def z3w (b:yB) (t10:yB) (t11:Int) (t12:Int) (out_:yB):Wy zwv zhy zwx:=.i (decide (t12<t11)) (.i (decide (0<=t12)&&decide (t12<Int.ofNat t10.length)) (.bn (z12 (b.length+List.length (t10.getD t12.toNat default)+t10.length+t11.toNat +t12.toNat +b.length+(Int.ofNat b.length).toNat +Int.toNat 0+out_.length+1) b (t10.getD t12.toNat default) t10 t11 t12 b (Int.ofNat b.length) 0 out_) λr4=>.h ((r4.1),(),(r4.2.1),(r4.2.2.1),(IntKind.i64.wrap (r4.2.2.2.1+1)),()) ((r4.2.2.2.2),())) .d) (.k out_)
def zMT (x:zwv) (y:zhy):=z3w x.1 x.2.2.1 x.2.2.2.1 x.2.2.2.2.1 y.1
def z2g (n:Nat) (b:yB) (t10:yB) (t11:Int) (t12:Int) (out_:yB):=zC (zMT) default n (b,(),t10,t11,t12,()) (out_,())
def zZu (r:zwx):LTree ty:=.done (.exit 0) [.own 128] [.arr 43 r false]
def z2t:LL ty zwv:=za (lSl 43) (za (zds 128) (za (lSl 43) (za zj (za zj zl))))
def zZ1 (x:zwk) (y:zhy):Nat:=(x.1.length+x.2.2.1.length+x.2.2.2.1.length+Int.toNat x.2.2.2.2.1+Int.toNat x.2.2.2.2.2.1+x.2.2.2.2.2.2.1.length+Int.toNat x.2.2.2.2.2.2.2.1+Int.toNat x.2.2.2.2.2.2.2.2.1+y.1.length+1)
def z0J (x:zwv) (y:zhy):Nat:=(x.1.length+x.2.2.1.length+Int.toNat x.2.2.2.1+Int.toNat x.2.2.2.2.1+y.1.length+1)
def zEx:=zbV base 32 [(170,zCX),(175,zMP)] [] [(3,[(1,.keep),(5,.own 43),(10,.keep),(11,.keep),(12,.keep)]),(6,[(1,.keep),(5,.own 43),(7,.keep),(10,.keep),(11,.keep),(12,.keep),(16,.keep),(17,.keep),(18,.keep)])] [(3,1,(kpL [5])),(6,3,(kpL [1,5,10,11,12]))] [(6,spW z23 z29 (zMR) default z0j zZ1),(3,spW z2t z29 (zMT) default zZu z0J)] []
theorem z0i:zF zEx (lp (body f144) 1):=zq (id:=6) (hl:=rfl)
theorem z1q:zF zEx (lp (body f144) 0):=zq (id:=3) (hl:=rfl)
def z4m (a:yB) (b:yB):Wy0 zwx:=.bn (z2g (b.length+a.length+(Int.ofNat a.length).toNat +Int.toNat 0+0+1) b a (Int.ofNat a.length) 0 []) λr7=>.bn (zFd r7) λr6=>.k r6
def zDp (a:yB) (b:yB):=(z4m a b).fin default
def z0t (r:zwx):ARes ty:=⟨[.own 43 r],[]⟩
def z5i:AL base (yB×yB×Unit):=ze (zf (vSl 43)) (ze (zf (vSl 43)) zu)
def zIu:=zi z5i λx=>((zDp x.1 x.2.1).1,z0t (zDp x.1 x.2.1).2)
theorem zVU:SdP 144 zIu:=
 sT (cx':=zEx) (zk ⟨zIl,z0e,trivial⟩) call144 func144 (lOK (aC z1q (aC z0i aN))) (sg:=⟨[.own 43],[]⟩)
abbrev zm1:=Unit×Unit×yC×Int×Int×yD×Int×Int×Unit
abbrev zm2:=yB×yB×Unit
abbrev zDP:=yC×Int×Int×yB×yB
abbrev znb:=Unit×yC×Int×Int×Unit
abbrev zm4:=yB×Unit
abbrev zt7:=yB
def zMX (zT:yC->Bool×yB) (t10:yC) (t11:Int) (t12:Int) (t19:yD) (t20:Int) (t21:Int) (all:yB) (sets:yB):Wy zm1 zm2 zDP:=.i (decide (t21<t20)) (.i (decide (0<=t21)&&decide (t21<Int.ofNat t19.length)) (.i ((t19.getD t21.toNat default).At.Kind==2) (.i (decide ((0:Int)<=(0:Int))&&decide (0<Int.ofNat (t19.getD t21.toNat default).At.Ag.length)) (.bn (zT ((t19.getD t21.toNat default).At.Ag.getD (Int.toNat 0) default)) λr12=>.bn (zDp sets r12) λr11=>.bn (zxg r11) λr10=>.h ((),(),t10,t11,t12,t19,t20,(IntKind.i64.wrap (t21+1)),()) (all,(r10),())) .d) (.bn (zDp sets [[(t19.getD t21.toNat default).At.Row]]) λr14=>.bn (zxg r14) λr13=>.h ((),(),t10,t11,t12,t19,t20,(IntKind.i64.wrap (t21+1)),()) (all,(r13),()))) .d) (.k (t10,t11,t12,all,sets))
def zA7 (zT:yC->Bool×yB) (x:zm1) (y:zm2):=zMX zT x.2.2.1 x.2.2.2.1 x.2.2.2.2.1 x.2.2.2.2.2.1 x.2.2.2.2.2.2.1 x.2.2.2.2.2.2.2.1 y.1 y.2.1
def zNE (zT:yC->Bool×yB) (n:Nat) (t10:yC) (t11:Int) (t12:Int) (t19:yD) (t20:Int) (t21:Int) (all:yB) (sets:yB):=zC (zA7 zT) default n ((),(),t10,t11,t12,t19,t20,t21,()) (all,sets,())
def zLC (r:zDP):LTree ty:=.done (.exit 2) [.own 204,.own 205,.sl 28 r.1,.lit (.int .i64 r.2.1),.lit (.int .i64 r.2.2.1)] [.arr 43 r.2.2.2.1 false,.arr 43 r.2.2.2.2 false]
def zNe:LL ty zm1:=za (zds 204) (za (zds 205) (za (lSl 28) (za zj (za zj (za (lSl 69) (za zj (za zj zl)))))))
def zNM:BL ty zm2:=zdA 43 false (zdA 43 false (zbd))
def zNC (zT:yC->Bool×yB) (t10:yC) (t11:Int) (t12:Int) (all:yB):Wy znb zm4 zt7:=.i (decide (t12<t11)) (.i (decide (0<=t12)&&decide (t12<Int.ofNat t10.length)) (.bn (zNE zT (t10.length+t11.toNat +t12.toNat +(t10.getD t12.toNat default).Fs.length+(Int.ofNat (t10.getD t12.toNat default).Fs.length).toNat +Int.toNat 0+all.length+1+1000) t10 t11 t12 (t10.getD t12.toNat default).Fs (Int.ofNat (t10.getD t12.toNat default).Fs.length) 0 all [[]]) λr20=>.i (decide ((r20.2.2.2.1.length+r20.2.2.2.2.length)*24<=zN)) (.h ((),(r20.1),(r20.2.1),(IntKind.i64.wrap (r20.2.2.1+1)),()) ((r20.2.2.2.1++r20.2.2.2.2),())) .d) .d) (.k all)
def zBo (zT:yC->Bool×yB) (x:znb) (y:zm4):=zNC zT x.2.1 x.2.2.1 x.2.2.2.1 y.1
def zNf (zT:yC->Bool×yB) (n:Nat) (t10:yC) (t11:Int) (t12:Int) (all:yB):=zC (zBo zT) default n ((),t10,t11,t12,()) (all,())
def zL3 (r:zt7):LTree ty:=.done (.exit 0) [.own 204] [.arr 43 r false]
def zNj:LL ty znb:=za (zds 204) (za (lSl 28) (za zj (za zj zl)))
def zNx:BL ty zm4:=zdA 43 false (zbd)
def zLF (x:zm1) (y:zm2):Nat:=(x.2.2.1.length+Int.toNat x.2.2.2.1+Int.toNat x.2.2.2.2.1+x.2.2.2.2.2.1.length+Int.toNat x.2.2.2.2.2.2.1+Int.toNat x.2.2.2.2.2.2.2.1+y.1.length+y.2.1.length+1000)
def zMp (x:znb) (y:zm4):Nat:=(x.2.1.length+Int.toNat x.2.2.1+Int.toNat x.2.2.2.1+y.1.length+1000)
def zq5 (zT:yC->Bool×yB):=zbV base 51 [(74,(zkx zT)),(143,zID),(144,zIu)] [] [(3,[(3,.own 43),(10,.keep),(11,.keep),(12,.keep)]),(7,(kpL [3,6,10,11,12,19,20,21]))] [(3,1,(kpL [3])),(7,3,(kpL [3,6,10,11,12]))] [(7,spW zNe zNM (zA7 zT) default zLC zLF),(3,spW zNj zNx (zBo zT) default zL3 zMp)] []
theorem zL8 (zT:yC->Bool×yB):zF (zq5 zT) (lp (body f74) 1):=zq (id:=7) (hl:=rfl)
theorem zLt (zT:yC->Bool×yB):zF (zq5 zT) (lp (body f74) 0):=zq (id:=3) (hl:=rfl)
def zOs (zT:yC->Bool×yB) (a:yC):Wy0 zt7:=.bn (zNf zT (a.length+(Int.ofNat a.length).toNat +Int.toNat 0+0+1000) a (Int.ofNat a.length) 0 []) λr23=>.bn (zxg r23) λr22=>.k r22
def zEY (zT:yC->Bool×yB) (a:yC):=(zOs zT a).fin default
theorem zJy (zT:yC->Bool×yB) (zO7:SdP 74 (zkx zT)):SdP 74 (zkx (zEY zT)):=
 sT (cx':=(zq5 zT)) (zk ⟨zO7,zWL,zVU,trivial⟩) call74 func74 (lOK (aC (zLt zT) (aC (zL8 zT) aN))) (sg:=⟨[.own 43],[]⟩)
def zW4:Nat->(yC->Bool×yB)
 | 0=>λ_=>(false,default)
 | n+1=>zEY (zW4 n)
def zEI (n:Nat):yC->Bool×yB:=zW4 n
theorem zQY:∀ n,SdP 74 (zkx (zEI n))
 | 0=>zbb call74 (λ_=>rfl)
 | n+1=>by
  have ih:=zQY n;exact zJy _ (ih)
def zHi:yC->Bool×yB:=zEI 1000
def zBw:Ab.Spec ty:=zkx zHi
theorem zMe:SdP 74 zBw:=(zQY 1000)
def zQB:=zbr base 17 [(20,zcn),(73,zBu),(74,zBw)]
def zSF (a:yC):Wy0 (yB×Int):=.bn (zca a) λr2=>.i (!r2) (.k ([],1)) (.bn (zG1 a) λr1=>.i (!r1) (.k ([],13)) (.bn (zHi a) λr0=>.i (decide (Int.ofNat r0.length>512)) (.k ([],6)) (.k (r0,0))))
def zHk (a:yC):=(zSF a).fin default
def zO0 (r:yB×Int):ARes ty:=⟨[.own 43 r.1,.pure (.lit (.int .i64 r.2))],[]⟩
def zBt:=zi zZm λx=>((zHk x.1).1,zO0 (zHk x.1).2)
theorem zLH:SdP 24 zBt:=
 sT (cx':=zQB) (zk ⟨zct,zLD,zMe,trivial⟩) call24 func24 (lOK aN) (sg:=⟨[.own 43,.pure],[]⟩)
def zbaR:=zbr base 8 []
def z0p (x_:At):Wy0 (yC):=.k [TO.mk 1 [FO.mk (At.mk x_.Kind x_.Row x_.Ag x_.Func x_.Items x_.Op x_.Bd) 1]]
def znY (x_:At):=(z0p x_).fin default
def zHT:=zi zEP λx=>((znY x.1).1,zS6 (znY x.1).2)
theorem zOW:SdP 102 zHT:=
 sT (cx':=zbaR) (zk trivial) call102 func102 (lOK aN) (sg:=⟨[.own 28],[]⟩)
def zbbT:=zbr base 14 [(102,zHT)]
def z3x (id:RowID):Wy0 (yC):=.i (decide (id.Table<1)) (.k []) (.i (decide (id.Seq<1)) (.k []) (.k ((znY (At.mk 0 id [] 0 [] 0 (Value.mk 0 0 (ByteArray.mk #[])))).2)))
def zGe (id:RowID):=(z3x id).fin default
def zUO:=zi z9c λx=>((zGe x.1).1,zS6 (zGe x.1).2)
theorem z69:SdP 98 zUO:=
 sT (cx':=zbbT) (zk ⟨zOW,trivial⟩) call98 func98 (lOK aN) (sg:=⟨[.own 28],[]⟩)
def z2f:=zbr base 6 [(98,zUO)]
def z4W (seq:Int):Wy0 (yC):=.bn (zGe (RowID.mk 1 seq)) λr0=>.k r0
def zT8 (seq:Int):=(z4W seq).fin default
def zIC:=zi z2V λx=>((zT8 x.1).1,zS6 (zT8 x.1).2)
theorem zVm:SdP 44 zIC:=
 sT (cx':=z2f) (zk ⟨z69,trivial⟩) call44 func44 (lOK aN) (sg:=⟨[.own 28],[]⟩)
def z8i:=zbr base 9 []
def zMg (n_:Int):Wy0 (yC):=.i (decide (n_<1)) (.k []) (.k [TO.mk (if 1152921504606846976<n_ then 1152921504606846976 else n_) []])
def zvR (n_:Int):=(zMg n_).fin default
def zO3:=zi z2V λx=>((zvR x.1).1,zS6 (zvR x.1).2)
theorem z2q:SdP 46 zO3:=
 sT (cx':=z8i) (zk trivial) call46 func46 (lOK aN) (sg:=⟨[.own 28],[]⟩)
end Go.Proofs.YtljlfiomikifjaaGreatDoor
/- What lies inside lists of terms and factors: fuel for loops. -/
namespace Go.Proofs.YtljlfiomikifjaaGreatDoor
open Go.Proofs.Tryz
def zLq:yD->Nat
 | []=>0
 | f::r=>f.Exp.toNat +f.At.Ag.length+f.At.Items.length+1+zLq r
def zb6:yC->Nat
 | []=>0
 | t::r=>zLq t.Fs+1+zb6 r
end Go.Proofs.YtljlfiomikifjaaGreatDoor
namespace Go.Proofs.YtljlfiomikifjaaGreatDoor
open Go Go.Ab
open Go.Proofs.Tryz
def zky (F:yD->yD->Bool×Int):Ab.Spec ty:=zi z3h λx=>((F x.1 x.2.1).1,zSM (F x.1 x.2.1).2)
def zVw:AL base (yE×yE×Unit):=ze (zf (vSl 100)) (ze (zf (vSl 100)) zu)
def zmr (F:yE->yE->Bool×Int):Ab.Spec ty:=zi zVw λx=>((F x.1 x.2.1).1,zSM (F x.1 x.2.1).2)
def z7e:=zbr base 11 []
def zUM (a:Int) (b:Int):Wy0 (Int):=.i (decide (a<b)) (.k (-1:Int)) (.i (decide (a>b)) (.k 1) (.k 0))
def zc8 (a:Int) (b:Int):=(zUM a b).fin default
def zmz:=zi zYl λx=>((zc8 x.1 x.2.1).1,zSM (zc8 x.1 x.2.1).2)
theorem zow:SdP 91 zmz:=
 sT (cx':=z7e) (zk trivial) call91 func91 (lOK aN)
abbrev zzn:=yC×yC×Int×Unit
abbrev zPQ:=Int⊕(yC×yC)
def zZW (zbp:yD->yD->Bool×Int) (a:yC) (b:yC) (i:Int):Wy zzn Unit zPQ:=.i (decide (i<Int.ofNat a.length)) (.i (decide (i<Int.ofNat b.length)) (.i (decide (0<=i)&&decide (i<Int.ofNat a.length)) (.i (decide (0<=i)&&decide (i<Int.ofNat b.length)) (.bn (zbp (a.getD i.toNat default).Fs (b.getD i.toNat default).Fs) λr1=>.i (r1 != 0) (.k (.inl (r1))) (.i (decide (0<=i)&&decide (i<Int.ofNat a.length)) (.i (decide (0<=i)&&decide (i<Int.ofNat b.length)) (.bn (zc8 (a.getD i.toNat default).Cf (b.getD i.toNat default).Cf) λr0=>.i (r0 != 0) (.k (.inl (r0))) (.h (a,b,(IntKind.i64.wrap (i+1)),()) ())) .d) .d)) .d) .d) (.k (.inr (a,b)))) (.k (.inr (a,b)))
def zK4 (zbp:yD->yD->Bool×Int) (x:zzn) (y:Unit):=zZW zbp x.1 x.2.1 x.2.2.1
def zZU (zbp:yD->yD->Bool×Int) (n:Nat) (a:yC) (b:yC) (i:Int):=zC (zK4 zbp) (.inl default) n (a,b,i,()) ()
def zYz (r:zPQ):LTree ty:=.ite (isL r) (.done .ret [.lit (.int .i64 (getL r))] []) (.done (.exit 0) [.sl 28 (getR r).1,.sl 28 (getR r).2] [])
def zZI:LL ty zzn:=za (lSl 28) (za (lSl 28) (za zj zl))
def zXM (x:zzn) (y:Unit):Nat:=(x.1.length+x.2.1.length+Int.toNat x.2.2.1+1)
def zKp (zbp:yD->yD->Bool×Int):=zbV base 53 [(34,(zky zbp)),(91,zmz)] [] [(2,(kpL [0,1,5]))] [(2,1,(kpL [0,1])),(2,0,(kpL [4]))] [(2,spW zZI zba6 (zK4 zbp) (.inl default) zYz zXM)] []
theorem zYC (zbp:yD->yD->Bool×Int):zF (zKp zbp) (lp (body f89) 0):=zq (id:=2) (hl:=rfl)
def z2T (zbp:yD->yD->Bool×Int) (a:yC) (b:yC):Wy0 (Int):=.bn (zZU zbp (a.length+b.length+Int.toNat 0+1) a b 0) λr5=>.i (isL r5) (.k (getL r5)) (.bn (zc8 (Int.ofNat (getR r5).1.length) (Int.ofNat (getR r5).2.length)) λr4=>.k r4)
def zBe (zbp:yD->yD->Bool×Int) (a:yC) (b:yC):=(z2T zbp a b).fin default
theorem zTO (zbp:yD->yD->Bool×Int) (zP1:SdP 34 (zky zbp)):SdP 89 (zeP (zBe zbp)):=
 sT (cx':=(zKp zbp)) (zk ⟨zP1,zow,trivial⟩) call89 func89 (lOK (aC (zYC zbp) aN))
def zbaS:=zbr base 4 []
def zZj (less:Bool):Wy0 (Int):=.i (less) (.k (-1:Int)) (.k 1)
def zDB (less:Bool):=(zZj less).fin default
def zbci:AL base (Bool×Unit):=ze (zf zblu) zu
def zRp:=zi zbci λx=>((zDB x.1).1,zSM (zDB x.1).2)
theorem z5N:SdP 157 zRp:=
 sT (cx':=zbaS) (zk trivial) call157 func157 (lOK aN)
def z4k:=zbr base 38 [(157,zRp)]
def zRe (a:Value) (b:Value):Wy0 (Int):=.i (a.Kind != b.Kind) (.bn (zDB (decide (a.Kind<b.Kind))) λr0=>.k r0) (.i (a.Int != b.Int) (.bn (zDB (decide (a.Int<b.Int))) λr1=>.k r1) (.i (!a.Text.toList==b.Text.toList) (.bn (zDB (Op.bytesLess a.Text.toList b.Text.toList)) λr2=>.k r2) (.k 0)))
def zpL (a:Value) (b:Value):=(zRe a b).fin default
def zCE:=zi z6X λx=>((zpL x.1 x.2.1).1,zSM (zpL x.1 x.2.1).2)
theorem zIr:SdP 107 zCE:=
 sT (cx':=z4k) (zk ⟨z5N,trivial⟩) call107 func107 (lOK aN)
def zXZ:=zbr base 19 [(91,zmz)]
def zLi (a:RowID) (b:RowID):Wy0 (Int):=.bn (zc8 a.Table b.Table) λr1=>.i (r1 != 0) (.k r1) (.bn (zc8 a.Seq b.Seq) λr0=>.k r0)
def znN (a:RowID) (b:RowID):=(zLi a b).fin default
def zxe:=zi z5c λx=>((znN x.1 x.2.1).1,zSM (znN x.1 x.2.1).2)
theorem zEM:SdP 105 zxe:=
 sT (cx':=zXZ) (zk ⟨zow,trivial⟩) call105 func105 (lOK aN)
end Go.Proofs.YtljlfiomikifjaaGreatDoor
end
