/- Texts of this claim, joined (the program, its functions in plain words, and what they compute). -/
import Derived.Test.YtljlfiomikifjaaGreatDoorGC4
set_option autoImplicit false
set_option linter.unusedVariables false
set_option linter.unusedSectionVars false
set_option linter.unusedSimpArgs false
set_option maxRecDepth 1000000
set_option maxHeartbeats 0
noncomputable section
namespace Go.Proofs.YtljlfiomikifjaaGreatDoor
open Go Go.Ab
open Go.Proofs.Tryz
abbrev zpu:=yC×Unit×Int×Unit×yC×Int×Int×yC×Int×Int×Unit
abbrev zpr:=yC×Term×Unit
abbrev zFX:=(yC×yC×Int×Int×yC)⊕(yC×yC×Int×Int×yC×Term)
abbrev zpw:=yC×Unit×yC×Int×Int×Unit
abbrev zlw:=yC×Unit
def zwN (a:yC) (i:Int) (t8:yC) (t9:Int) (t10:Int) (t15:yC) (t16:Int) (t17:Int) (out_:yC) (t:Term):Wy zpu zpr zFX:=.i (decide (t17<t16)) (.i (decide (0<=t17)&&decide (t17<Int.ofNat t15.length)) (.i (t17 != i) (.bn (zfA (t15.getD t17.toNat default) t) λr5=>.i (r5) (.bn (zfA t (t15.getD t17.toNat default)) λr4=>.i (!r4) (.k (.inl (a,t8,t9,t10,out_))) (.i (decide (t17<i)) (.k (.inl (a,t8,t9,t10,out_))) (.h (a,(),i,(),t8,t9,t10,t15,t16,(IntKind.i64.wrap (t17+1)),()) (out_,t,())))) (.h (a,(),i,(),t8,t9,t10,t15,t16,(IntKind.i64.wrap (t17+1)),()) (out_,t,()))) (.h (a,(),i,(),t8,t9,t10,t15,t16,(IntKind.i64.wrap (t17+1)),()) (out_,t,()))) .d) (.k (.inr (a,t8,t9,t10,out_,t)))
def zFN (x:zpu) (y:zpr):=zwN x.1 x.2.2.1 x.2.2.2.2.1 x.2.2.2.2.2.1 x.2.2.2.2.2.2.1 x.2.2.2.2.2.2.2.1 x.2.2.2.2.2.2.2.2.1 x.2.2.2.2.2.2.2.2.2.1 y.1 y.2.1
def zxv (n:Nat) (a:yC) (i:Int) (t8:yC) (t9:Int) (t10:Int) (t15:yC) (t16:Int) (t17:Int) (out_:yC) (t:Term):=zC (zFN) (.inl default) n (a,(),i,(),t8,t9,t10,t15,t16,t17,()) (out_,t,())
def zS8 (r:zFX):LTree ty:=.ite (isL r) (.done (.exit 1) [.sl 28 ((getL r).1),.own 196,.sl 28 ((getL r).2.1),.lit (.int .i64 ((getL r).2.2.1)),.lit (.int .i64 ((getL r).2.2.2.1))] [.arr 28 ((getL r).2.2.2.2) false]) (.done (.exit 2) [.sl 28 (getR r).1,.own 196,.ptr 197 0,.sl 28 (getR r).2.1,.lit (.int .i64 (getR r).2.2.1),.lit (.int .i64 (getR r).2.2.2.1)] [.arr 28 (getR r).2.2.2.2.1 false,.box (base.enc 28 (getR r).2.2.2.2.2) false])
def zUA:LL ty zpu:=za (lSl 28) (za (zds 196) (za zj (za (zgc 197 0) (za (lSl 28) (za zj (za zj (za (lSl 28) (za zj (za zj zl)))))))))
def zTs:BL ty zpr:=zdw 28 false (zj7 (zh1 (λx=>(⟨x.1,x.2.1⟩:Term)) (λx=>(x.Cf,x.Fs,())) (λ_=>rfl) (za (zT .i64) (za (lSl 69) zl))) false (zbe))
def zxh (a:yC) (t8:yC) (t9:Int) (t10:Int) (out_:yC):Wy zpw zlw (yC):=.i (decide (t10<t9)) (.i (decide (0<=t10)&&decide (t10<Int.ofNat t8.length)) (.bn (zxv (a.length+t10.toNat +t8.length+t9.toNat +t10.toNat +a.length+(Int.ofNat a.length).toNat +Int.toNat 0+out_.length+(t8.getD t10.toNat default).Fs.length+1000) a t10 t8 t9 t10 a (Int.ofNat a.length) 0 out_ (t8.getD t10.toNat default)) λr8=>.i (isL r8) (.h (((getL r8).1),(),((getL r8).2.1),((getL r8).2.2.1),(IntKind.i64.wrap ((getL r8).2.2.2.1+1)),()) (((getL r8).2.2.2.2),())) (.i (decide (((getR r8).2.2.2.2.1.length+[TO.mk 1 (getR r8).2.2.2.2.2.Fs].length)*32<=zO)) (.h ((getR r8).1,(),(getR r8).2.1,(getR r8).2.2.1,(IntKind.i64.wrap ((getR r8).2.2.2.1+1)),()) (((getR r8).2.2.2.2.1++[TO.mk 1 (getR r8).2.2.2.2.2.Fs]),())) .d)) .d) (.k out_)
def zF7 (x:zpw) (y:zlw):=zxh x.1 x.2.2.1 x.2.2.2.1 x.2.2.2.2.1 y.1
def zw8 (n:Nat) (a:yC) (t8:yC) (t9:Int) (t10:Int) (out_:yC):=zC (zF7) default n (a,(),t8,t9,t10,()) (out_,())
def zR8 (r:yC):LTree ty:=.done (.exit 0) [.own 196] [.arr 28 r false]
def zTE:LL ty zpw:=za (lSl 28) (za (zds 196) (za (lSl 28) (za zj (za zj zl))))
def zUn:BL ty zlw:=zdw 28 false (zbe)
def zRR (x:zpu) (y:zpr):Nat:=(x.1.length+Int.toNat x.2.2.1+x.2.2.2.2.1.length+Int.toNat x.2.2.2.2.2.1+Int.toNat x.2.2.2.2.2.2.1+x.2.2.2.2.2.2.2.1.length+Int.toNat x.2.2.2.2.2.2.2.2.1+Int.toNat x.2.2.2.2.2.2.2.2.2.1+y.1.length+y.2.1.Fs.length+1000)
def zSU (x:zpw) (y:zlw):Nat:=(x.1.length+x.2.2.1.length+Int.toNat x.2.2.2.1+Int.toNat x.2.2.2.2.1+y.1.length+1000)
def zxL:=zb3 base 49 [(14,zj4)] [] [(3,[(0,.keep),(3,.own 28),(8,.keep),(9,.keep),(10,.keep)]),(6,(kpL [0,3,4,5,8,9,10,15,16,17]))] [(3,1,(kpL [3])),(6,3,(kpL [0,3,5,8,9,10])),(6,2,(kpL [0,3,8,9,10]))] [(6,spW zUA zTs (zFN) (.inl default) zS8 zRR),(3,spW zTE zUn (zF7) default zR8 zSU)] []
theorem zSx:zF zxL (lp (body f69) 1):=zq (id:=6) (hl:=rfl)
theorem zSW:zF zxL (lp (body f69) 0):=zq (id:=3) (hl:=rfl)
def zGS (a:yC):Wy0 (yC):=.bn (zw8 (a.length+a.length+(Int.ofNat a.length).toNat +Int.toNat 0+0+1000) a a (Int.ofNat a.length) 0 []) λr10=>.k r10
def zli (a:yC):=(zGS a).fin default
def zV5:AL base zlw:=ze (zf (vSl 28)) zu
def zuf:=zi zV5 λx=>((zli x.1).1,zSe (zli x.1).2)
theorem zCF:SdP 69 zuf:=
 sT (cx':=zxL) (zk ⟨zms,trivial⟩) call69 func69 (lOK (aC zSW (aC zSx aN))) (sg:=⟨[.own 28],[]⟩)
def zWK:=zbt zb2 9 [(20,zce),(68,zE0),(69,zuf)]
def zIl (a:yC):Wy0 (yC):=.bn (zbZ a) λr2=>.i (!r2) (.k []) (.bn (zli a) λr1=>.bn (zp7 r1) λr0=>.k r0)
def zkc (a:yC):=(zIl a).fin default
def zv3:=zi z2b λx=>((zkc x.1).1,zSe (zkc x.1).2)
theorem zEa:Sound Tryz.prog zb2 22 zv3:=
 sU (cx':=zWK) (zk ⟨zcg.nodr,zQF,zCF.nodr,trivial⟩) call22 func22 (lOK aN) (sg:=⟨[.own 28],[]⟩)
def zOT:=zbt base 11 [(20,zce),(21,zii),(69,zuf)]
def zD2 (a:yC):Wy0 (Bool):=.bn (zbZ a) λr2=>.i (r2) (.bn (zli a) λr1=>.bn (ze7 r1 a) λr0=>.k r0) (.k false)
def zlh (a:yC):=(zD2 a).fin default
def zAn:=zi zZJ λx=>((zlh x.1).1,zYt (zlh x.1).2)
theorem zJ7:SdP 32 zAn:=
 sT (cx':=zOT) (zk ⟨zcg,zkI,zCF,trivial⟩) call32 func32 (lOK aN)
def zLB:=zbt base 7 [(14,zj4)]
def zBg (u:Term) (p1:Term):Wy0 (Bool):=.bn (zfA u p1) λr0=>.k r0
def zgQ (u:Term) (p1:Term):=(zBg u p1).fin default
def zNA:AL base (Term×Term×Unit):=ze (zf (zcV 28)) (ze (zf (zBc 28)) zu)
def zjz:=zi zNA λx=>((zgQ x.1 x.2.1).1,zYt (zgQ x.1 x.2.1).2)
theorem zm7:SdP 61 zjz:=
 sT (cx':=zLB) (zk ⟨zms,trivial⟩) call61 func61 (lOK aN)
abbrev zeD:=yC×(Term×Unit)×Int×Int×Unit
def zt9 (s:yC) (f:Term) (t7:Int) (t8:Int):Wy zeD Unit (Int⊕Unit):=.i (decide (t8<t7)) (.i (decide (0<=t8)&&decide (t8<Int.ofNat s.length)) (.bn (zgQ (s.getD t8.toNat default) f) λr0=>.i (r0) (.k (.inl t8)) (.h (s,(f,()),t7,(IntKind.i64.wrap (t8+1)),()) ())) .d) (.k (.inr ()))
def zjL (x:zeD) (y:Unit):=zt9 x.1 x.2.1.1 x.2.2.1 x.2.2.2.1
def zub (n:Nat) (s:yC) (f:Term) (t7:Int) (t8:Int):=zC (zjL) (.inl default) n (s,(f,()),t7,t8,()) ()
def ztO:LL ty zeD:=za (lSl 28) (za (lFn 61 (za (zoD (zh1 (λx=>(⟨x.1,x.2.1⟩:Term)) (λx=>(x.Cf,x.Fs,())) (λ_=>rfl) (za zj (za (lSl 69) zl))) 0) zl)) (za zj (za zj zl)))
def zs3 (x:zeD) (y:Unit):Nat:=(x.1.length+x.2.1.1.Fs.length+Int.toNat x.2.2.1+Int.toNat x.2.2.2.1+1000)
def zjM:=zb3 base 19 [(61,zjz)] [] [(2,(kpL [0,1,7,8]))] [(2,1,[]),(2,0,(kpL [4]))] [(2,spW ztO zZe (zjL) (.inl default) ztL zs3)] []
theorem ztz:zF zjM (lp (body f113) 0):=zq (id:=2) (hl:=rfl)
def zvi (s:yC) (f:Term):Wy0 (Int):=.bn (zub (s.length+f.Fs.length+(Int.ofNat s.length).toNat +Int.toNat 0+1000) s f (Int.ofNat s.length) 0) λr2=>.i (isL r2) (.k (getL r2)) (.k (-1:Int))
def zei (s:yC) (f:Term):=(zvi s f).fin default
def zuz:AL base (yC×(Term×Unit)×Unit):=ze (zf (vSl 28)) (ze (zf (vFn 61 (zdP (zBc 28) zb7))) zu)
def ziF:=zi zuz λx=>((zei x.1 x.2.1.1).1,z2L (zei x.1 x.2.1.1).2)
theorem zrZ:SdP 113 ziF:=
 sT (cx':=zjM) (zk ⟨zm7,trivial⟩) call113 func113 (lOK (aC ztz aN))
def zrX:=zbt base 9 [(61,zjz),(113,ziF)]
def ziG (s:yC) (f:Term):Wy0 (Bool):=.bn (zei s f) λr0=>.k (decide (r0≥0))
def zcD (s:yC) (f:Term):=(ziG s f).fin default
def zhB:=zi zuz λx=>((zcD x.1 x.2.1.1).1,zYt (zcD x.1 x.2.1.1).2)
theorem zpM:SdP 59 zhB:=
 sT (cx':=zrX) (zk ⟨zm7,zrZ,trivial⟩) call59 func59 (lOK aN)
def zQn:=zbt base 8 [(59,zhB),(61,zjz)]
def zEJ (t:Term) (p1:yC):Wy0 (Bool):=.bn (zcD p1 t) λr0=>.k (!r0)
def zjA (t:Term) (p1:yC):=(zEJ t p1).fin default
def zS0:AL base (Term×(yC×Unit)×Unit):=ze (zf (zcV 28)) (ze (zf (zvI (zdP (vSl 28) zb7))) zu)
def zlE:=zi zS0 λx=>((zjA x.1 x.2.1.1).1,zYt (zjA x.1 x.2.1.1).2)
theorem zpY:SdP 60 zlE:=
 sT (cx':=zQn) (zk ⟨zpM,zm7,trivial⟩) call60 func60 (lOK aN)
abbrev zeM:=yC×((yC×Unit)×Unit)×Int×Int×Unit
def zu0 (s:yC) (f:yC) (t7:Int) (t8:Int):Wy zeM Unit (Int⊕Unit):=.i (decide (t8<t7)) (.i (decide (0<=t8)&&decide (t8<Int.ofNat s.length)) (.bn (zjA (s.getD t8.toNat default) f) λr0=>.i (r0) (.k (.inl t8)) (.h (s,((f,()),()),t7,(IntKind.i64.wrap (t8+1)),()) ())) .d) (.k (.inr ()))
def zkr (x:zeM) (y:Unit):=zu0 x.1 x.2.1.1.1 x.2.2.1 x.2.2.2.1
def zuA (n:Nat) (s:yC) (f:yC) (t7:Int) (t8:Int):=zC (zkr) (.inl default) n (s,((f,()),()),t7,t8,()) ()
def zuE:LL ty zeM:=za (lSl 28) (za (lFn 60 (za (zoD (za (lSl 28) zl) 0) zl)) (za zj (za zj zl)))
def ztX (x:zeM) (y:Unit):Nat:=(x.1.length+x.2.1.1.1.length+Int.toNat x.2.2.1+Int.toNat x.2.2.2.1+1000)
def zkj:=zb3 base 19 [(60,zlE)] [] [(2,(kpL [0,1,7,8]))] [(2,1,[]),(2,0,(kpL [4]))] [(2,spW zuE zZe (zkr) (.inl default) ztL ztX)] []
theorem zud:zF zkj (lp (body f113) 0):=zq (id:=2) (hl:=rfl)
def zvy (s:yC) (f:yC):Wy0 (Int):=.bn (zuA (s.length+f.length+(Int.ofNat s.length).toNat +Int.toNat 0+1000) s f (Int.ofNat s.length) 0) λr2=>.i (isL r2) (.k (getL r2)) (.k (-1:Int))
def zet (s:yC) (f:yC):=(zvy s f).fin default
def zvo:AL base (yC×((yC×Unit)×Unit)×Unit):=ze (zf (vSl 28)) (ze (zf (vFn 60 (zdP (zvI (zdP (vSl 28) zb7)) zb7))) zu)
def zje:=zi zvo λx=>((zet x.1 x.2.1.1.1).1,z2L (zet x.1 x.2.1.1.1).2)
theorem zsf:SdP 113 zje:=
 sT (cx':=zkj) (zk ⟨zpY,trivial⟩) call113 func113 (lOK (aC zud aN))
def zsq:=zbt base 9 [(60,zlE),(113,zje)]
def zjd (s:yC) (f:yC):Wy0 (Bool):=.bn (zet s f) λr0=>.k (decide (r0≥0))
def zcL (s:yC) (f:yC):=(zjd s f).fin default
def zhY:=zi zvo λx=>((zcL x.1 x.2.1.1.1).1,zYt (zcL x.1 x.2.1.1.1).2)
theorem zqd:SdP 59 zhY:=
 sT (cx':=zsq) (zk ⟨zpY,zsf,trivial⟩) call59 func59 (lOK aN)
def zWl:=zbt base 17 [(20,zce),(59,zhY),(60,zlE)]
def zIJ (a:yC) (b:yC):Wy0 (Bool):=.bn (zbZ a) λr2=>.i (!r2) (.k false) (.bn (zbZ b) λr1=>.i (!r1) (.k false) (.bn (zcL a b) λr0=>.k (!r0)))
def zhy (a:yC) (b:yC):=(zIJ a b).fin default
def zvC:=zi z6l λx=>((zhy x.1 x.2.1).1,zYt (zhy x.1 x.2.1).2)
theorem zDY:SdP 18 zvC:=
 sT (cx':=zWl) (zk ⟨zcg,zqd,zpY,trivial⟩) call18 func18 (lOK aN)
def zdO (F:Term->Bool×Bool):Ab.Spec ty:=zi zSP λx=>((F x.1).1,zYt (F x.1).2)
def zc8 (F:Fc->Bool×Bool):Ab.Spec ty:=zi zNw λx=>((F x.1).1,zYt (F x.1).2)
def zuD:AL base (yC×Unit×Unit):=ze (zf (vSl 28)) (ze (zf (vFn 141 zb7)) zu)
def zdS (F:yC->Bool×Int):Ab.Spec ty:=zi zuD λx=>((F x.1).1,z2L (F x.1).2)
def zdp (F:yC->Bool×Bool):Ab.Spec ty:=zi zuD λx=>((F x.1).1,zYt (F x.1).2)
def zvq:AL base (yD×Unit×Unit):=ze (zf (vSl 69)) (ze (zf (vFn 142 zb7)) zu)
def zd8 (F:yD->Bool×Int):Ab.Spec ty:=zi zvq λx=>((F x.1).1,z2L (F x.1).2)
def zdx (F:yD->Bool×Bool):Ab.Spec ty:=zi zvq λx=>((F x.1).1,zYt (F x.1).2)
def zM7 (zbg:yC->Bool×Bool) (zt:Term->Bool×Bool):=zbt base 6 [(59,(zdp zbg)),(141,(zdO zt))]
def zPJ (zbg:yC->Bool×Bool) (zt:Term->Bool×Bool) (a:yC):Wy0 (Bool):=.bn (zbg a) λr0=>.k (!r0)
def zEZ (zbg:yC->Bool×Bool) (zt:Term->Bool×Bool) (a:yC):=(zPJ zbg zt a).fin default
theorem zJl (zbg:yC->Bool×Bool) (zt:Term->Bool×Bool) (zqS:SdP 59 (zdp zbg)) (zgP:SdP 141 (zdO zt)):SdP 73 (ziH (zEZ zbg zt)):=
 sT (cx':=(zM7 zbg zt)) (zk ⟨zqS,zgP,trivial⟩) call73 func73 (lOK aN)
def zJF (zbj:yD->Bool×Bool) (zm:Fc->Bool×Bool):=zbt base 6 [(49,(zdx zbj)),(142,(zc8 zm))]
def zKN (zbj:yD->Bool×Bool) (zm:Fc->Bool×Bool) (t:Term):Wy0 (Bool):=.bn (zbj t.Fs) λr0=>.k r0
def zBk (zbj:yD->Bool×Bool) (zm:Fc->Bool×Bool) (t:Term):=(zKN zbj zm t).fin default
theorem zGo (zbj:yD->Bool×Bool) (zm:Fc->Bool×Bool) (zrW:SdP 49 (zdx zbj)) (zfu:SdP 142 (zc8 zm)):SdP 141 (zdO (zBk zbj zm)):=
 sT (cx':=(zJF zbj zm)) (zk ⟨zrW,zfu,trivial⟩) call141 func141 (lOK aN)
def zGq (zea:yC->Bool×Bool):=zbt base 22 [(73,(ziH zea))]
def zGF (zea:yC->Bool×Bool) (f:Fc):Wy0 (Bool):=.i (f.At.Kind != 0) (.i (f.At.Kind != 2) (.k true) (.i (decide ((0:Int)<=(0:Int))&&decide (0<Int.ofNat f.At.Ag.length)) (.bn (zea (f.At.Ag.getD (Int.toNat 0) default)) λr0=>.k (!r0)) .d)) (.k false)
def zxU (zea:yC->Bool×Bool) (f:Fc):=(zGF zea f).fin default
theorem zEv (zea:yC->Bool×Bool) (zPo:SdP 73 (ziH zea)):SdP 142 (zc8 (zxU zea)):=
 sT (cx':=(zGq zea)) (zk ⟨zPo,trivial⟩) call142 func142 (lOK aN)
def zq5 (zbp:yD->Bool×Int) (zm:Fc->Bool×Bool):=zbt base 9 [(103,(zd8 zbp)),(142,(zc8 zm))]
def zrt (zbp:yD->Bool×Int) (zm:Fc->Bool×Bool) (s:yD):Wy0 (Bool):=.bn (zbp s) λr0=>.k (decide (r0≥0))
def zjf (zbp:yD->Bool×Int) (zm:Fc->Bool×Bool) (s:yD):=(zrt zbp zm s).fin default
theorem zpg (zbp:yD->Bool×Int) (zm:Fc->Bool×Bool) (ztW:SdP 103 (zd8 zbp)) (zfu:SdP 142 (zc8 zm)):SdP 49 (zdx (zjf zbp zm)):=
 sT (cx':=(zq5 zbp zm)) (zk ⟨ztW,zfu,trivial⟩) call49 func49 (lOK aN)
def zqz (zbl:yC->Bool×Int) (zt:Term->Bool×Bool):=zbt base 9 [(113,(zdS zbl)),(141,(zdO zt))]
def zqJ (zbl:yC->Bool×Int) (zt:Term->Bool×Bool) (s:yC):Wy0 (Bool):=.bn (zbl s) λr0=>.k (decide (r0≥0))
def ziJ (zbl:yC->Bool×Int) (zt:Term->Bool×Bool) (s:yC):=(zqJ zbl zt s).fin default
theorem zoy (zbl:yC->Bool×Int) (zt:Term->Bool×Bool) (zs7:SdP 113 (zdS zbl)) (zgP:SdP 141 (zdO zt)):SdP 59 (zdp (ziJ zbl zt)):=
 sT (cx':=(zqz zbl zt)) (zk ⟨zs7,zgP,trivial⟩) call59 func59 (lOK aN)
abbrev zeR:=yD×Unit×Int×Int×Unit
def ztg (zm:Fc->Bool×Bool) (s:yD) (t7:Int) (t8:Int):Wy zeR Unit (Int⊕Unit):=.i (decide (t8<t7)) (.i (decide (0<=t8)&&decide (t8<Int.ofNat s.length)) (.bn (zm (FO.mk (At.mk (s.getD t8.toNat default).At.Kind (s.getD t8.toNat default).At.Row (s.getD t8.toNat default).At.Ag (s.getD t8.toNat default).At.Func (s.getD t8.toNat default).At.Items (s.getD t8.toNat default).At.Op (s.getD t8.toNat default).At.Bd) (s.getD t8.toNat default).Exp)) λr0=>.i (r0) (.k (.inl t8)) (.h (s,(),t7,(IntKind.i64.wrap (t8+1)),()) ())) .d) (.k (.inr ()))
def zjk (zm:Fc->Bool×Bool) (x:zeR) (y:Unit):=ztg zm x.1 x.2.2.1 x.2.2.2.1
def ztl (zm:Fc->Bool×Bool) (n:Nat) (s:yD) (t7:Int) (t8:Int):=zC (zjk zm) (.inl default) n (s,(),t7,t8,()) ()
def ztx:LL ty zeR:=za (lSl 69) (za (lFn 142 (zl)) (za zj (za zj zl)))
def zsw (x:zeR) (y:Unit):Nat:=(x.1.length+Int.toNat x.2.2.1+Int.toNat x.2.2.2.1+1000)
def zji (zm:Fc->Bool×Bool):=zb3 base 19 [(142,(zc8 zm))] [] [(2,(kpL [0,1,7,8]))] [(2,1,[]),(2,0,(kpL [4]))] [(2,spW ztx zZe (zjk zm) (.inl default) ztL zsw)] []
theorem zsQ (zm:Fc->Bool×Bool):zF (zji zm) (lp (body f103) 0):=zq (id:=2) (hl:=rfl)
def ztH (zm:Fc->Bool×Bool) (s:yD):Wy0 (Int):=.bn (ztl zm (s.length+(Int.ofNat s.length).toNat +Int.toNat 0+1000) s (Int.ofNat s.length) 0) λr2=>.i (isL r2) (.k (getL r2)) (.k (-1:Int))
def zkT (zm:Fc->Bool×Bool) (s:yD):=(ztH zm s).fin default
theorem zqY (zm:Fc->Bool×Bool) (zfu:SdP 142 (zc8 zm)):SdP 103 (zd8 (zkT zm)):=
 sT (cx':=(zji zm)) (zk ⟨zfu,trivial⟩) call103 func103 (lOK (aC (zsQ zm) aN))
abbrev zeE:=yC×Unit×Int×Int×Unit
def zst (zt:Term->Bool×Bool) (s:yC) (t7:Int) (t8:Int):Wy zeE Unit (Int⊕Unit):=.i (decide (t8<t7)) (.i (decide (0<=t8)&&decide (t8<Int.ofNat s.length)) (.bn (zt (s.getD t8.toNat default)) λr0=>.i (r0) (.k (.inl t8)) (.h (s,(),t7,(IntKind.i64.wrap (t8+1)),()) ())) .d) (.k (.inr ()))
def ziB (zt:Term->Bool×Bool) (x:zeE) (y:Unit):=zst zt x.1 x.2.2.1 x.2.2.2.1
def zsG (zt:Term->Bool×Bool) (n:Nat) (s:yC) (t7:Int) (t8:Int):=zC (ziB zt) (.inl default) n (s,(),t7,t8,()) ()
def zso:LL ty zeE:=za (lSl 28) (za (lFn 141 (zl)) (za zj (za zj zl)))
def zrN (x:zeE) (y:Unit):Nat:=(x.1.length+Int.toNat x.2.2.1+Int.toNat x.2.2.2.1+1000)
def zi3 (zt:Term->Bool×Bool):=zb3 base 19 [(141,(zdO zt))] [] [(2,(kpL [0,1,7,8]))] [(2,1,[]),(2,0,(kpL [4]))] [(2,spW zso zZe (ziB zt) (.inl default) ztL zrN)] []
theorem zrw (zt:Term->Bool×Bool):zF (zi3 zt) (lp (body f113) 0):=zq (id:=2) (hl:=rfl)
def ztv (zt:Term->Bool×Bool) (s:yC):Wy0 (Int):=.bn (zsG zt (s.length+(Int.ofNat s.length).toNat +Int.toNat 0+1000) s (Int.ofNat s.length) 0) λr2=>.i (isL r2) (.k (getL r2)) (.k (-1:Int))
def zkg (zt:Term->Bool×Bool) (s:yC):=(ztv zt s).fin default
theorem zqt (zt:Term->Bool×Bool) (zgP:SdP 141 (zdO zt)):SdP 113 (zdS (zkg zt)):=
 sT (cx':=(zi3 zt)) (zk ⟨zgP,trivial⟩) call113 func113 (lOK (aC (zrw zt) aN))
def zdg:Nat->(yC->Bool×Bool)×(Term->Bool×Bool)×(Fc->Bool×Bool)×(yC->Bool×Int)×(yC->Bool×Bool)×(yD->Bool×Int)×(yD->Bool×Bool)
 | 0=>(λ_=>(false,default),λ_=>(false,default),λ_=>(false,default),λ_=>(false,default),λ_=>(false,default),λ_=>(false,default),λ_=>(false,default))
 | n+1=>(zEZ ((zdg n).2.2.2.2.1) ((zdg n).2.1),zBk ((zdg n).2.2.2.2.2.2) ((zdg n).2.2.1),zxU ((zdg n).1),zkg ((zdg n).2.1),ziJ ((zdg n).2.2.2.1) ((zdg n).2.1),zkT ((zdg n).2.2.1),zjf ((zdg n).2.2.2.2.2.1) ((zdg n).2.2.1))
def zET (n:Nat):yC->Bool×Bool:=(zdg n).1
def zNk (n:Nat):Term->Bool×Bool:=(zdg n).2.1
def zIQ (n:Nat):Fc->Bool×Bool:=(zdg n).2.2.1
def zvk (n:Nat):yC->Bool×Int:=(zdg n).2.2.2.1
def zsL (n:Nat):yC->Bool×Bool:=(zdg n).2.2.2.2.1
def zv5 (n:Nat):yD->Bool×Int:=(zdg n).2.2.2.2.2.1
def zta (n:Nat):yD->Bool×Bool:=(zdg n).2.2.2.2.2.2
theorem zRv:∀ n,SdP 73 (ziH (zET n))/\SdP 141 (zdO (zNk n))/\SdP 142 (zc8 (zIQ n))/\SdP 113 (zdS (zvk n))/\SdP 59 (zdp (zsL n))/\SdP 103 (zd8 (zv5 n))/\SdP 49 (zdx (zta n))
 | 0=>⟨zbc call73 (λ_=>rfl),zbc call141 (λ_=>rfl),zbc call142 (λ_=>rfl),zbc call113 (λ_=>rfl),zbc call59 (λ_=>rfl),zbc call103 (λ_=>rfl),zbc call49 (λ_=>rfl)⟩
 | n+1=>by
  have ih:=zRv n;exact ⟨zJl _ _ (ih.2.2.2.2.1) (ih.2.1),zGo _ _ (ih.2.2.2.2.2.2) (ih.2.2.1),zEv _ (ih.1),zqt _ (ih.2.1),zoy _ _ (ih.2.2.2.1) (ih.2.1),zqY _ (ih.2.2.1),zpg _ _ (ih.2.2.2.2.2.1) (ih.2.2.1)⟩
def zHA:yC->Bool×Bool:=zET 1000
def zBj:Ab.Spec ty:=ziH zHA
theorem zMe:SdP 73 zBj:=(zRv 1000).1
def zOs (r:yB):ARes ty:=⟨[.own 43 r],[]⟩
def zkC (F:yC->Bool×yB):Ab.Spec ty:=zi zZJ λx=>((F x.1).1,zOs (F x.1).2)
abbrev zgZ:=yF×yF×Int×Int×Unit
def zDe (s1:yF) (s2:yF) (t12:Int) (t13:Int):Wy zgZ Unit (Bool⊕Unit):=.i (decide (t13<t12)) (.i (decide (0<=t13)&&decide (t13<Int.ofNat s1.length)) (.i (decide (0<=t13)&&decide (t13<Int.ofNat s2.length)) (.i (!((s1.getD t13.toNat default).Table==(s2.getD t13.toNat default).Table&&((s1.getD t13.toNat default).Seq==(s2.getD t13.toNat default).Seq&&true))) (.k (.inl false)) (.h (s1,s2,t12,(IntKind.i64.wrap (t13+1)),()) ())) .d) .d) (.k (.inr ()))
def zoE (x:zgZ) (y:Unit):=zDe x.1 x.2.1 x.2.2.1 x.2.2.2.1
def zCZ (n:Nat) (s1:yF) (s2:yF) (t12:Int) (t13:Int):=zC (zoE) (.inl default) n (s1,s2,t12,t13,()) ()
def zCX:LL ty zgZ:=za (lSl 49) (za (lSl 49) (za zj (za zj zl)))
def zB3 (x:zgZ) (y:Unit):Nat:=(x.1.length+x.2.1.length+Int.toNat x.2.2.1+Int.toNat x.2.2.2.1+1)
def zoC:=zb3 base 26 [] [] [(4,(kpL [0,1,12,13]))] [(4,1,[]),(4,0,(kpL [4]))] [(4,spW zCX zZe (zoE) (.inl default) zSm zB3)] []
theorem zBQ:zF zoC (lp (body f209) 0):=zq (id:=4) (hl:=rfl)
def zDJ (s1:yF) (s2:yF):Wy0 (Bool):=.i (Int.ofNat s1.length != Int.ofNat s2.length) (.k false) (.bn (zCZ (s1.length+s2.length+(Int.ofNat s1.length).toNat +Int.toNat 0+1) s1 s2 (Int.ofNat s1.length) 0) λr0=>.i (isL r0) (.k (getL r0)) (.k true))
def zkU (s1:yF) (s2:yF):=(zDJ s1 s2).fin default
def zDw:AL base (yF×yF×Unit):=ze (zf (vSl 49)) (ze (zf (vSl 49)) zu)
def znH:=zi zDw λx=>((zkU x.1 x.2.1).1,zYt (zkU x.1 x.2.1).2)
theorem zAw:SdP 209 znH:=
 sT (cx':=zoC) (zk trivial) call209 func209 (lOK (aC zBQ aN))
def zX5:=zbt base 8 [(209,znH)]
def zZ5 (a:yF) (b:yF):Wy0 (Bool):=.bn (zkU a b) λr0=>.k r0
def zzj (a:yF) (b:yF):=(zZ5 a b).fin default
def zxJ:=zi zDw λx=>((zzj x.1 x.2.1).1,zYt (zzj x.1 x.2.1).2)
theorem zE1:SdP 208 zxJ:=
 sT (cx':=zX5) (zk ⟨zAw,trivial⟩) call208 func208 (lOK aN)
def z2N:=zbt base 17 [(120,zl3),(121,zl4)]
def z5a (a:RowID) (b:RowID):Wy0 (Int):=.bn (zeq a.Table b.Table) λr2=>.bn (zeq a.Seq b.Seq) λr1=>.bn (zof [r2,r1]) λr0=>.k r0
def znW (a:RowID) (b:RowID):=(z5a a b).fin default
def znx:=zi z0z λx=>((znW x.1 x.2.1).1,z2L (znW x.1 x.2.1).2)
theorem zri:SdP 233 znx:=
 sT (cx':=z2N) (zk ⟨znS,zpl,trivial⟩) call233 func233 (lOK aN)
def zfq:Cx ty:={ base with nt:=8 }
def zgu (s:yF):Bool×yF:=(decide (s.length*16<=zO),s)
def zhR:Ab.Spec ty:=zi (cx:=base) (ze (zf (vSl 49)) zu) λx=>((zgu x.1).1,⟨[.own 49 (zgu x.1).2],[]⟩)
theorem zB2:zgW zfq f212 (body f212) ⟨[.own 49],[]⟩ [.pure (.lit (.slice none 0 0))]=some ⟨[.own 49 []],[]⟩:=by kernel_rfl
theorem zz6 (p:Addr) (c:Nat):zgW zfq f212 (body f212) ⟨[.own 49],[]⟩ [.pure (.lit (.slice (some p) 0 c))]=some ⟨[.own 49 []],[]⟩:=by kernel_rfl
theorem zA6 (l:yF):zgW zfq f212 (body f212) ⟨[.own 49],[]⟩ [.pure (.sl 49 l)]=bif !l.isEmpty then bif decide ((([]:List (ty 49)).length+l.length)*16<=zO) then some ⟨[.own 49 l],[]⟩ else none else none:=by kernel_rfl
theorem zmT:SdP 212 zhR:=
 zJ3 (cx':=zfq) (bytes:=16) zG3 zkz ⟨⟨rfl,rfl,rfl,rfl,rfl,rfl⟩,rfl⟩ (λg s h=>by cases h) call212 func212 (c:=body f212) (by kernel_rfl) (zDG (l:=[]) (by kernel_rfl) trivial) zB2 zz6 zA6 (by kernel_rfl)
abbrev zf2:=Unit×Int×(Nat×Nat)×Int×Unit
abbrev zcj:=yF×Unit
abbrev zqr:=Int×yF
abbrev zke:=Unit×Int×Unit
abbrev zqy:=(Nat×yF)⊕yF
def zAO (k:Int) (s2_0:Nat) (s2_1:Nat) (k2:Int) (s:yF):Wy zf2 zcj zqr:=.i (decide (k2<Int.ofNat s2_1)) (.i (decide (0<=k2)&&decide (k2<Int.ofNat s2_1)) (.i (decide (0<=IntKind.i64.wrap (k2 - 1))&&decide (IntKind.i64.wrap (k2 - 1)<Int.ofNat s2_1)) (.i (!((s.getD (s2_0+k2.toNat) default).Table==(s.getD (s2_0+(IntKind.i64.wrap (k2 - 1)).toNat) default).Table&&((s.getD (s2_0+k2.toNat) default).Seq==(s.getD (s2_0+(IntKind.i64.wrap (k2 - 1)).toNat) default).Seq&&true))) (.i (decide (0<=k2)&&decide (k2<Int.ofNat s2_1)) (.i (decide (0<=k)&&decide (k<Int.ofNat s.length)) (.i (decide (k.toNat<s.length)) (.h ((),(IntKind.i64.wrap (k+1)),(s2_0,s2_1),(IntKind.i64.wrap (k2+1)),()) ((s.set k.toNat (s.getD (s2_0+k2.toNat) default)),())) .d) .d) .d) (.h ((),k,(s2_0,s2_1),(IntKind.i64.wrap (k2+1)),()) (s,()))) .d) .d) (.k (k,s))
def znB (x:zf2) (y:zcj):=zAO x.2.1 x.2.2.1.1 x.2.2.1.2 x.2.2.2.1 y.1
def zAI (n:Nat) (k:Int) (s2_0:Nat) (s2_1:Nat) (k2:Int) (s:yF):=zC (znB) default n ((),k,(s2_0,s2_1),k2,()) (s,())
def zzS (r:zqr):LTree ty:=.done (.exit 2) [.own 244,.lit (.int .i64 r.1)] [.arr 49 r.2 false]
def zAP:LL ty zf2:=za (zds 244) (za zj (za (zbjU 244) (za zj zl)))
def zAQ:BL ty zcj:=zdw 49 false (zbe)
def zAW (k:Int) (s:yF):Wy zke zcj zqy:=.i (decide (k<Int.ofNat s.length)) (.i (decide (0<=k)&&decide (k<Int.ofNat s.length)) (.i (decide (0<=IntKind.i64.wrap (k - 1))&&decide (IntKind.i64.wrap (k - 1)<Int.ofNat s.length)) (.i ((s.getD k.toNat default).Table==(s.getD (IntKind.i64.wrap (k - 1)).toNat default).Table&&((s.getD k.toNat default).Seq==(s.getD (IntKind.i64.wrap (k - 1)).toNat default).Seq&&true)) (.i (decide (0<=k)&&decide (k<=Int.ofNat s.length)&&decide (Int.ofNat s.length<=Int.ofNat s.length)) (.bn (zAI (k.toNat +k.toNat +((Int.ofNat s.length).toNat - k.toNat)+Int.toNat 1+s.length+1) k k.toNat ((Int.ofNat s.length).toNat - k.toNat) 1 s) λr0=>.i (decide (0<=r0.1)&&decide (r0.1<=Int.ofNat r0.2.length)&&decide (Int.ofNat r0.2.length<=Int.ofNat r0.2.length)) (.i (decide (r0.1.toNat +((Int.ofNat r0.2.length).toNat - r0.1.toNat)<=r0.2.length)) (.i (decide ((0:Int)<=(0:Int))&&decide (0<=r0.1)&&decide (r0.1<=Int.ofNat (List.take r0.1.toNat r0.2++List.replicate ((Int.ofNat r0.2.length).toNat - r0.1.toNat) (RowID.mk 0 0)++List.drop (r0.1.toNat +((Int.ofNat r0.2.length).toNat - r0.1.toNat)) r0.2).length)) (.k (.inl (r0.1.toNat - Int.toNat 0,List.take r0.1.toNat r0.2++List.replicate ((Int.ofNat r0.2.length).toNat - r0.1.toNat) (RowID.mk 0 0)++List.drop (r0.1.toNat +((Int.ofNat r0.2.length).toNat - r0.1.toNat)) r0.2))) .d) .d) .d) .d) (.h ((),(IntKind.i64.wrap (k+1)),()) (s,()))) .d) .d) (.k (.inr s))
def znE (x:zke) (y:zcj):=zAW x.2.1 y.1
def zAN (n:Nat) (k:Int) (s:yF):=zC (znE) (.inl default) n ((),k,()) (s,())
def zzW (r:zqy):LTree ty:=.ite (isL r) (.done .ret [.sub 244 0 ((getL r).1)] [.arr 49 ((getL r).2) false]) (.done (.exit 0) [.own 244] [.arr 49 (getR r) false])
def zAT:LL ty zke:=za (zds 244) (za zj zl)
def zAo (x:zf2) (y:zcj):Nat:=(Int.toNat x.2.1+x.2.2.1.1+x.2.2.1.2+Int.toNat x.2.2.2.1+y.1.length+1)
def zhL:=zb3 base 61 [] [] [(4,(kpL [0,3])),(9,(kpL [0,3,4,5]))] [(4,1,(kpL [0])),(4,0,(kpL [2])),(9,3,(kpL [0,3]))] [(9,spW zAP zAQ (znB) default zzS zAo),(4,spW zAT zAQ (znE) (.inl default) zzW λx y=>(Int.toNat x.2.1+y.1.length+1))] []
theorem zzV:zF zhL (lp (body f234) 1):=zq (id:=9) (hl:=rfl)
theorem zz0:zF zhL (lp (body f234) 0):=zq (id:=4) (hl:=rfl)
def zBT (s:yF):Wy0 (yF):=.i (decide (Int.ofNat s.length<2)) (.k s) (.bn (zAN (Int.toNat 1+s.length+1) 1 s) λr2=>.i (isL r2) (.k (List.take (getL r2).1 (getL r2).2)) (.k (getR r2)))
def zjD (s:yF):=(zBT s).fin default
def zz1 (r:yF):ARes ty:=⟨[.own 49 r],[none]⟩
def zBV:AL base zcj:=ze (zrf 49) zu
def zmt:=zi zBV λx=>((zjD x.1).1,zz1 (zjD x.1).2)
theorem zx6:SdP 234 zmt:=
 sT (cx':=zhL) (zk trivial) call234 func234 (lOK (aC zz0 (aC zzV aN))) (sg:=⟨[.own 49],[false]⟩)
def ziY (x:yF):Bool×yF:=zCz (λa b=>znW a b) x
def zlT:Ab.Spec ty:=zi (cx:=base) (ze (zrf 49) (ze (zf (vFn 233 (zb7))) zu)) λx=>((ziY x.1).1,⟨[],[some ⟨49,(ziY x.1).2⟩]⟩)
theorem zzh (c:Unit) (x y:RowID) (h:(znW x y).1=true):znx ((AV.agg (base.enc 49 x)::AV.agg (base.enc 49 y)::(zb7:VL base (Unit)).enc c).map Arg.pure)=some (true,⟨[.pure (.lit (.int .i64 (znW x y).2))],[]⟩):=by
 rw [<- h]; kernel_rfl
theorem zxw:SdP 232 zlT:=by
 letI:DecidableEq (ty 49):=inferInstanceAs (DecidableEq RowID)
 exact zbc4 (T:=49) zkz rfl Go.Proofs.Tryz.sortRow Tryz.isAgg49 (by unfold zx; exact Tryz.sizeOf49) call232 zri (zb7) (λc=>λa b=>znW a b) zzh
def zYo:=zb3 base 10 [(212,zhR),(232,zlT),(233,znx),(234,zmt)] [(232,[true,false]),(234,[true])] [] [] [] []
def zYO (l:yF):Wy0 (yF):=.bn (zgu l) λr2=>.bn (ziY r2) λr1=>.bn (zjD r1) λr0=>.k r0
def zr5 (l:yF):=(zYO l).fin default
def zV4 (r:yF):ARes ty:=⟨[.own 49 r],[]⟩
def z0A:AL base (yF×Unit):=ze (zf (vSl 49)) zu
def zps:=zi z0A λx=>((zr5 x.1).1,zV4 (zr5 x.1).2)
theorem zvD:SdP 204 zps:=
 sT (cx':=zYo) (zk ⟨zmT,zxw,zri,zx6,trivial⟩) call204 func204 (lOK aN) (sg:=⟨[.own 49],[]⟩)
abbrev zcJ:=yF×yF×Unit×yF×Int×Int×Unit
abbrev zgx:=Int⊕(yF×yF)
def zln (s1:yF) (s2:yF) (t11:yF) (t12:Int) (t13:Int):Wy zcJ Unit zgx:=.i (decide (t13<t12)) (.i (decide (0<=t13)&&decide (t13<Int.ofNat t11.length)) (.i (decide (t13≥Int.ofNat s2.length)) (.k (.inl 1)) (.i (decide (0<=t13)&&decide (t13<Int.ofNat s2.length)) (.bn (znW (t11.getD t13.toNat default) (s2.getD t13.toNat default)) λr0=>.i (r0 != 0) (.k (.inl (r0))) (.h (s1,s2,(),t11,t12,(IntKind.i64.wrap (t13+1)),()) ())) .d)) .d) (.k (.inr (s1,s2)))
def zfd (x:zcJ) (y:Unit):=zln x.1 x.2.1 x.2.2.2.1 x.2.2.2.2.1 x.2.2.2.2.2.1
def zle (n:Nat) (s1:yF) (s2:yF) (t11:yF) (t12:Int) (t13:Int):=zC (zfd) (.inl default) n (s1,s2,(),t11,t12,t13,()) ()
def zk8 (r:zgx):LTree ty:=.ite (isL r) (.done .ret [.lit (.int .i64 (getL r))] []) (.done (.exit 0) [.sl 49 (getR r).1,.sl 49 (getR r).2] [])
def zls:LL ty zcJ:=za (lSl 49) (za (lSl 49) (za (lFn 233 (zl)) (za (lSl 49) (za zj (za zj zl)))))
def zk9 (x:zcJ) (y:Unit):Nat:=(x.1.length+x.2.1.length+x.2.2.2.1.length+Int.toNat x.2.2.2.2.1+Int.toNat x.2.2.2.2.2.1+1)
def ze9:=zb3 base 39 [(233,znx)] [] [(2,(kpL [0,1,2,11,12,13]))] [(2,1,(kpL [0,1])),(2,0,(kpL [6]))] [(2,spW zls zZe (zfd) (.inl default) zk8 zk9)] []
theorem zlb:zF ze9 (lp (body f236) 0):=zq (id:=2) (hl:=rfl)
def zlL (s1:yF) (s2:yF):Wy0 (Int):=.bn (zle (s1.length+s2.length+s1.length+(Int.ofNat s1.length).toNat +Int.toNat 0+1) s1 s2 s1 (Int.ofNat s1.length) 0) λr2=>.i (isL r2) (.k (getL r2)) (.i (decide (Int.ofNat (getR r2).1.length<Int.ofNat (getR r2).2.length)) (.k (-1:Int)) (.k 0))
def zdm (s1:yF) (s2:yF):=(zlL s1 s2).fin default
def zlM:AL base (yF×yF×Unit×Unit):=ze (zf (vSl 49)) (ze (zf (vSl 49)) (ze (zf (vFn 233 zb7)) zu))
def ze3:=zi zlM λx=>((zdm x.1 x.2.1).1,z2L (zdm x.1 x.2.1).2)
theorem zkW:SdP 236 ze3:=
 sT (cx':=ze9) (zk ⟨zri,trivial⟩) call236 func236 (lOK (aC zlb aN))
def zUx:=zbt base 8 [(233,znx),(236,ze3)]
def zVS (a:yF) (b:yF):Wy0 (Int):=.bn (zdm a b) λr0=>.k r0
def zlv (a:yF) (b:yF):=(zVS a b).fin default
def ztS:=zi zDw λx=>((zlv x.1 x.2.1).1,z2L (zlv x.1 x.2.1).2)
theorem zCr:SdP 206 ztS:=
 sT (cx':=zUx) (zk ⟨zri,zkW,trivial⟩) call206 func206 (lOK aN)
abbrev zeQ:=Unit×Unit×Int×(Nat×Nat)×Int×Unit
abbrev zcc:=yB×Unit
abbrev zmd:=Int×yB
abbrev zg8:=Unit×Unit×Int×Unit
abbrev zmb:=(Nat×yB)⊕yB
def zvr (k:Int) (s2_0:Nat) (s2_1:Nat) (k2:Int) (s:yB):Wy zeQ zcc zmd:=.i (decide (k2<Int.ofNat s2_1)) (.i (decide (0<=k2)&&decide (k2<Int.ofNat s2_1)) (.i (decide (0<=IntKind.i64.wrap (k2 - 1))&&decide (IntKind.i64.wrap (k2 - 1)<Int.ofNat s2_1)) (.bn (zzj (s.getD (s2_0+k2.toNat) default) (s.getD (s2_0+(IntKind.i64.wrap (k2 - 1)).toNat) default)) λr0=>.i (!r0) (.i (decide (0<=k2)&&decide (k2<Int.ofNat s2_1)) (.i (decide (0<=k)&&decide (k<Int.ofNat s.length)) (.i (decide (k.toNat<s.length)) (.h ((),(),(IntKind.i64.wrap (k+1)),(s2_0,s2_1),(IntKind.i64.wrap (k2+1)),()) ((s.set k.toNat (s.getD (s2_0+k2.toNat) default)),())) .d) .d) .d) (.h ((),(),k,(s2_0,s2_1),(IntKind.i64.wrap (k2+1)),()) (s,()))) .d) .d) (.k (k,s))
def zkJ (x:zeQ) (y:zcc):=zvr x.2.2.1 x.2.2.2.1.1 x.2.2.2.1.2 x.2.2.2.2.1 y.1
def zvS (n:Nat) (k:Int) (s2_0:Nat) (s2_1:Nat) (k2:Int) (s:yB):=zC (zkJ) default n ((),(),k,(s2_0,s2_1),k2,()) (s,())
def zvl (r:zmd):LTree ty:=.done (.exit 2) [.own 264,.lit (.int .i64 r.1)] [.arr 43 r.2 false]
def zvQ:LL ty zeQ:=za (zds 264) (za (lFn 208 (zl)) (za zj (za (zbjU 264) (za zj zl))))
def zvs:BL ty zcc:=zdw 43 false (zbe)
def zvV (k:Int) (s:yB):Wy zg8 zcc zmb:=.i (decide (k<Int.ofNat s.length)) (.i (decide (0<=k)&&decide (k<Int.ofNat s.length)) (.i (decide (0<=IntKind.i64.wrap (k - 1))&&decide (IntKind.i64.wrap (k - 1)<Int.ofNat s.length)) (.bn (zzj (s.getD k.toNat default) (s.getD (IntKind.i64.wrap (k - 1)).toNat default)) λr3=>.i (r3) (.i (decide (0<=k)&&decide (k<=Int.ofNat s.length)&&decide (Int.ofNat s.length<=Int.ofNat s.length)) (.bn (zvS (k.toNat +k.toNat +((Int.ofNat s.length).toNat - k.toNat)+Int.toNat 1+s.length+1) k k.toNat ((Int.ofNat s.length).toNat - k.toNat) 1 s) λr2=>.i (decide (0<=r2.1)&&decide (r2.1<=Int.ofNat r2.2.length)&&decide (Int.ofNat r2.2.length<=Int.ofNat r2.2.length)) (.i (decide (r2.1.toNat +((Int.ofNat r2.2.length).toNat - r2.1.toNat)<=r2.2.length)) (.i (decide ((0:Int)<=(0:Int))&&decide (0<=r2.1)&&decide (r2.1<=Int.ofNat (List.take r2.1.toNat r2.2++List.replicate ((Int.ofNat r2.2.length).toNat - r2.1.toNat) []++List.drop (r2.1.toNat +((Int.ofNat r2.2.length).toNat - r2.1.toNat)) r2.2).length)) (.k (.inl (r2.1.toNat - Int.toNat 0,List.take r2.1.toNat r2.2++List.replicate ((Int.ofNat r2.2.length).toNat - r2.1.toNat) []++List.drop (r2.1.toNat +((Int.ofNat r2.2.length).toNat - r2.1.toNat)) r2.2))) .d) .d) .d) .d) (.h ((),(),(IntKind.i64.wrap (k+1)),()) (s,()))) .d) .d) (.k (.inr s))
def zkL (x:zg8) (y:zcc):=zvV x.2.2.1 y.1
def zvw (n:Nat) (k:Int) (s:yB):=zC (zkL) (.inl default) n ((),(),k,()) (s,())
def zvf (r:zmb):LTree ty:=.ite (isL r) (.done .ret [.sub 264 0 ((getL r).1)] [.arr 43 ((getL r).2) false]) (.done (.exit 0) [.own 264] [.arr 43 (getR r) false])
def zvG:LL ty zg8:=za (zds 264) (za (lFn 208 (zl)) (za zj zl))
def zuu (x:zeQ) (y:zcc):Nat:=(Int.toNat x.2.2.1+x.2.2.2.1.1+x.2.2.2.1.2+Int.toNat x.2.2.2.2.1+y.1.length+1)
def zfF:=zb3 base 66 [(208,zxJ)] [] [(4,(kpL [0,1,5])),(9,(kpL [0,1,5,6,7]))] [(4,1,(kpL [0])),(4,0,(kpL [4])),(9,3,(kpL [0,5]))] [(9,spW zvQ zvs (zkJ) default zvl zuu),(4,spW zvG zvs (zkL) (.inl default) zvf λx y=>(Int.toNat x.2.2.1+y.1.length+1))] []
theorem zvb:zF zfF (lp (body f207) 1):=zq (id:=9) (hl:=rfl)
theorem zuB:zF zfF (lp (body f207) 0):=zq (id:=4) (hl:=rfl)
def zwq (s:yB):Wy0 (yB):=.i (decide (Int.ofNat s.length<2)) (.k s) (.bn (zvw (Int.toNat 1+s.length+1) 1 s) λr6=>.i (isL r6) (.k (List.take (getL r6).1 (getL r6).2)) (.k (getR r6)))
def zgz (s:yB):=(zwq s).fin default
def zus (r:yB):ARes ty:=⟨[.own 43 r],[none]⟩
def zwn:AL base (yB×Unit×Unit):=ze (zrf 43) (ze (zf (vFn 208 zb7)) zu)
def zjT:=zi zwn λx=>((zgz x.1).1,zus (zgz x.1).2)
theorem zs2:SdP 207 zjT:=
 sT (cx':=zfF) (zk ⟨zE1,trivial⟩) call207 func207 (lOK (aC zuB (aC zvb aN))) (sg:=⟨[.own 43],[false]⟩)
def zhO (x:yB):Bool×yB:=zCz (λa b=>zlv a b) x
def zk6:Ab.Spec ty:=zi (cx:=base) (ze (zrf 43) (ze (zf (vFn 206 (zb7))) zu)) λx=>((zhO x.1).1,⟨[],[some ⟨43,(zhO x.1).2⟩]⟩)
theorem zxq (c:Unit) (x y:(yF)) (h:(zlv x y).1=true):ztS (((.sl 49 x:AV ty)::(.sl 49 y:AV ty)::(zb7:VL base (Unit)).enc c).map Arg.pure)=some (true,⟨[.pure (.lit (.int .i64 (zlv x y).2))],[]⟩):=by
 rw [<- h]; kernel_rfl
theorem zvE:SdP 205 zk6:=by
 letI:DecidableEq (ty 43):=inferInstanceAs (DecidableEq (yF))
 exact zbdg (T:=43) zkz rfl Go.Proofs.Tryz.sortSet (λx:(yF)=>(.sl 49 x:AV ty)) (λ_=>rfl) call205 zCr (zb7) (λc=>λa b=>zlv a b) zxq
abbrev zyR:=Unit×yB×Int×Int×Unit
abbrev zr1:=yB×Unit
abbrev zzd:=yB
def z5q (t6:yB) (t7:Int) (t8:Int) (out_:yB):Wy zyR zr1 zzd:=.i (decide (t8<t7)) (.i (decide (0<=t8)&&decide (t8<Int.ofNat t6.length)) (.bn (zr5 (t6.getD t8.toNat default)) λr0=>.i (decide ((out_.length+[r0].length)*24<=zO)) (.h ((),t6,t7,(IntKind.i64.wrap (t8+1)),()) ((out_++[r0]),())) .d) .d) (.k out_)
def zPZ (x:zyR) (y:zr1):=z5q x.2.1 x.2.2.1 x.2.2.2.1 y.1
def z42 (n:Nat) (t6:yB) (t7:Int) (t8:Int) (out_:yB):=zC (zPZ) default n ((),t6,t7,t8,()) (out_,())
def z2O (r:zzd):LTree ty:=.done (.exit 0) [.own 88] [.arr 43 r false]
def z41:LL ty zyR:=za (zds 88) (za (lSl 43) (za zj (za zj zl)))
def z4D:BL ty zr1:=zdw 43 false (zbe)
def z19 (x:zyR) (y:zr1):Nat:=(x.2.1.length+Int.toNat x.2.2.1+Int.toNat x.2.2.2.1+y.1.length+1)
def zQd:=zb3 base 22 [(204,zps),(205,zk6),(206,ztS),(207,zjT),(208,zxJ)] [(205,[true,false]),(207,[true,false])] [(3,[(3,.own 43),(6,.keep),(7,.keep),(8,.keep)])] [(3,1,(kpL [3]))] [(3,spW z41 z4D (zPZ) default z2O z19)] []
theorem z2J:zF zQd (lp (body f170) 0):=zq (id:=3) (hl:=rfl)
def z7u (l:yB):Wy0 zzd:=.bn (z42 (l.length+(Int.ofNat l.length).toNat +Int.toNat 0+0+1) l (Int.ofNat l.length) 0 []) λr4=>.bn (zhO r4) λr3=>.bn (zgz r3) λr2=>.k r2
def zE8 (l:yB):=(z7u l).fin default
def z3a (r:zzd):ARes ty:=⟨[.own 43 r],[]⟩
def z5V:AL base zr1:=ze (zf (vSl 43)) zu
def zC7:=zi z5V λx=>((zE8 x.1).1,z3a (zE8 x.1).2)
theorem zIu:SdP 170 zC7:=
 sT (cx':=zQd) (zk ⟨zvD,zvE,zCr,zs2,zE1,trivial⟩) call170 func170 (lOK (aC z2J aN)) (sg:=⟨[.own 43],[]⟩)
abbrev zg2:=yF×Unit×Int×Int×Unit
def zCq (s:yF) (t7:Int) (t8:Int) (v:RowID):Wy zg2 (RowID×Unit) (Int⊕Unit):=.i (decide (t8<t7)) (.i (decide (0<=t8)&&decide (t8<Int.ofNat s.length)) (.i (v.Table==(s.getD t8.toNat default).Table&&(v.Seq==(s.getD t8.toNat default).Seq&&true)) (.k (.inl t8)) (.h (s,(),t7,(IntKind.i64.wrap (t8+1)),()) (v,()))) .d) (.k (.inr ()))
def zoP (x:zg2) (y:RowID×Unit):=zCq x.1 x.2.2.1 x.2.2.2.1 y.1
def zC1 (n:Nat) (s:yF) (t7:Int) (t8:Int) (v:RowID):=zC (zoP) (.inl default) n (s,(),t7,t8,()) (v,())
def zCI:LL ty zg2:=za (lSl 49) (za (zgc 76 0) (za zj (za zj zl)))
def zC5:BL ty (RowID×Unit):=zj7 (zh1 (λx=>(⟨x.1,x.2.1⟩:RowID)) (λx=>(x.Table,x.Seq,())) (λ_=>rfl) (za (zT .i64) (za (zT .i64) zl))) false (zbe)
def zBO (x:zg2) (y:RowID×Unit):Nat:=(x.1.length+Int.toNat x.2.2.1+Int.toNat x.2.2.2.1+1)
def zoU:=zb3 base 19 [] [] [(2,(kpL [0,3,7,8]))] [(2,1,[]),(2,0,(kpL [4]))] [(2,spW zCI zC5 (zoP) (.inl default) ztL zBO)] []
theorem zB4:zF zoU (lp (body f261) 0):=zq (id:=2) (hl:=rfl)
def zDq (s:yF) (v:RowID):Wy0 (Int):=.bn (zC1 (s.length+(Int.ofNat s.length).toNat +Int.toNat 0+1) s (Int.ofNat s.length) 0 v) λr0=>.i (isL r0) (.k (getL r0)) (.k (-1:Int))
def zkS (s:yF) (v:RowID):=(zDq s v).fin default
def zDo:AL base (yF×RowID×Unit):=ze (zf (vSl 49)) (ze (zf (zcV 49)) zu)
def znp:=zi zDo λx=>((zkS x.1 x.2.1).1,z2L (zkS x.1 x.2.1).2)
theorem zAr:SdP 261 znp:=
 sT (cx':=zoU) (zk trivial) call261 func261 (lOK (aC zB4 aN))
def zAy:=zbt base 9 [(261,znp)]
def zAY (s:yF) (v:RowID):Wy0 (Bool):=.bn (zkS s v) λr0=>.k (decide (r0≥0))
def ziX (s:yF) (v:RowID):=(zAY s v).fin default
def zlV:=zi zDo λx=>((ziX x.1 x.2.1).1,zYt (ziX x.1 x.2.1).2)
theorem zxD:SdP 239 zlV:=
 sT (cx':=zAy) (zk ⟨zAr,trivial⟩) call239 func239 (lOK aN)
def z0K:=zbt base 7 [(239,zlV)]
def z2d (id:RowID) (p1:yF):Wy0 (Bool):=.bn (ziX p1 id) λr0=>.k r0
def zBx (id:RowID) (p1:yF):=(z2d id p1).fin default
def z2o:AL base (RowID×(yF×Unit)×Unit):=ze (zf (zcV 49)) (ze (zf (zvI (zdP (vSl 49) zb7))) zu)
def zqT:=zi z2o λx=>((zBx x.1 x.2.1.1).1,zYt (zBx x.1 x.2.1.1).2)
theorem zwZ:SdP 238 zqT:=
 sT (cx':=z0K) (zk ⟨zxD,trivial⟩) call238 func238 (lOK aN)
abbrev zfo:=yF×((yF×Unit)×Unit)×Int×Int×Unit
def zzq (s:yF) (f:yF) (t7:Int) (t8:Int):Wy zfo Unit (Int⊕Unit):=.i (decide (t8<t7)) (.i (decide (0<=t8)&&decide (t8<Int.ofNat s.length)) (.bn (zBx (s.getD t8.toNat default) f) λr0=>.i (r0) (.k (.inl t8)) (.h (s,((f,()),()),t7,(IntKind.i64.wrap (t8+1)),()) ())) .d) (.k (.inr ()))
def zmD (x:zfo) (y:Unit):=zzq x.1 x.2.1.1.1 x.2.2.1 x.2.2.2.1
def zzb (n:Nat) (s:yF) (f:yF) (t7:Int) (t8:Int):=zC (zmD) (.inl default) n (s,((f,()),()),t7,t8,()) ()
def zy4:LL ty zfo:=za (lSl 49) (za (lFn 238 (za (zoD (za (lSl 49) zl) 0) zl)) (za zj (za zj zl)))
def zyb (x:zfo) (y:Unit):Nat:=(x.1.length+x.2.1.1.1.length+Int.toNat x.2.2.1+Int.toNat x.2.2.2.1+1)
def zl9:=zb3 base 19 [(238,zqT)] [] [(2,(kpL [0,1,7,8]))] [(2,1,[]),(2,0,(kpL [4]))] [(2,spW zy4 zZe (zmD) (.inl default) ztL zyb)] []
theorem zys:zF zl9 (lp (body f260) 0):=zq (id:=2) (hl:=rfl)
def zAk (s:yF) (f:yF):Wy0 (Int):=.bn (zzb (s.length+f.length+(Int.ofNat s.length).toNat +Int.toNat 0+1) s f (Int.ofNat s.length) 0) λr2=>.i (isL r2) (.k (getL r2)) (.k (-1:Int))
def zh9 (s:yF) (f:yF):=(zAk s f).fin default
def zAg:AL base (yF×((yF×Unit)×Unit)×Unit):=ze (zf (vSl 49)) (ze (zf (vFn 238 (zdP (zvI (zdP (vSl 49) zb7)) zb7))) zu)
def zlt:=zi zAg λx=>((zh9 x.1 x.2.1.1.1).1,z2L (zh9 x.1 x.2.1.1.1).2)
theorem zwj:SdP 260 zlt:=
 sT (cx':=zl9) (zk ⟨zwZ,trivial⟩) call260 func260 (lOK (aC zys aN))
abbrev zfe:=Unit×((yF×Unit)×Unit)×Int×Int×Unit
abbrev zfi:=yF×Unit
abbrev zn8:=Int×yF
def zyd (del:yF) (i:Int) (j:Int) (s:yF):Wy zfe zfi zn8:=.i (decide (j<Int.ofNat s.length)) (.i (decide (0<=j)&&decide (j<Int.ofNat s.length)) (.bn (zBx (s.getD j.toNat default) del) λr0=>.i (!r0) (.i (decide (0<=i)&&decide (i<Int.ofNat s.length)) (.i (decide (i.toNat<s.length)) (.h ((),((del,()),()),(IntKind.i64.wrap (i+1)),(IntKind.i64.wrap (j+1)),()) ((s.set i.toNat (s.getD j.toNat default)),())) .d) .d) (.h ((),((del,()),()),i,(IntKind.i64.wrap (j+1)),()) (s,()))) .d) (.k (i,s))
def zlP (x:zfe) (y:zfi):=zyd x.2.1.1.1 x.2.2.1 x.2.2.2.1 y.1
def zyf (n:Nat) (del:yF) (i:Int) (j:Int) (s:yF):=zC (zlP) default n ((),((del,()),()),i,j,()) (s,())
def zwU (r:zn8):LTree ty:=.done (.exit 0) [.own 168,.lit (.int .i64 r.1)] [.arr 49 r.2 false]
def zx4:LL ty zfe:=za (zds 168) (za (lFn 238 (za (zoD (za (lSl 49) zl) 0) zl)) (za zj (za zj zl)))
def zyn:BL ty zfi:=zdw 49 false (zbe)
def zxW (x:zfe) (y:zfi):Nat:=(x.2.1.1.1.length+Int.toNat x.2.2.1+Int.toNat x.2.2.2.1+y.1.length+1)
def zlR:=zb3 base 42 [(238,zqT),(260,zlt)] [] [(5,(kpL [0,1,5,6]))] [(5,1,(kpL [0,5]))] [(5,spW zx4 zyn (zlP) default zwU zxW)] []
theorem zxM:zF zlR (lp (body f237) 0):=zq (id:=5) (hl:=rfl)
def zza (s:yF) (del:yF):Wy0 (yF):=.bn (zh9 s del) λr3=>.i (r3==(-1:Int)) (.k s) (.bn (zyf (del.length+r3.toNat +(IntKind.i64.wrap (r3+1)).toNat +s.length+1) del r3 (IntKind.i64.wrap (r3+1)) s) λr2=>.i (decide (0<=r2.1)&&decide (r2.1<=Int.ofNat r2.2.length)&&decide (Int.ofNat r2.2.length<=Int.ofNat r2.2.length)) (.i (decide (r2.1.toNat +((Int.ofNat r2.2.length).toNat - r2.1.toNat)<=r2.2.length)) (.i (decide ((0:Int)<=(0:Int))&&decide (0<=r2.1)&&decide (r2.1<=Int.ofNat (List.take r2.1.toNat r2.2++List.replicate ((Int.ofNat r2.2.length).toNat - r2.1.toNat) (RowID.mk 0 0)++List.drop (r2.1.toNat +((Int.ofNat r2.2.length).toNat - r2.1.toNat)) r2.2).length)) (.k (List.take (r2.1.toNat - Int.toNat 0) (List.take r2.1.toNat r2.2++List.replicate ((Int.ofNat r2.2.length).toNat - r2.1.toNat) (RowID.mk 0 0)++List.drop (r2.1.toNat +((Int.ofNat r2.2.length).toNat - r2.1.toNat)) r2.2))) .d) .d) .d)
def zhP (s:yF) (del:yF):=(zza s del).fin default
def zzF:AL base (yF×((yF×Unit)×Unit)×Unit):=ze (zrf 49) (ze (zf (vFn 238 (zdP (zvI (zdP (vSl 49) zb7)) zb7))) zu)
def zk4:=zi zzF λx=>((zhP x.1 x.2.1.1.1).1,zz1 (zhP x.1 x.2.1.1.1).2)
theorem zvY:SdP 237 zk4:=
 sT (cx':=zlR) (zk ⟨zwZ,zwj,trivial⟩) call237 func237 (lOK (aC zxM aN)) (sg:=⟨[.own 49],[false]⟩)
def z5N:=zb3 base 11 [(204,zps),(237,zk4),(238,zqT)] [(237,[true,false])] [] [] [] []
def z8w (a:yF) (b:yF):Wy0 (yF):=.bn (zr5 a) λr1=>.bn (zhP r1 b) λr0=>.k r0
def zOg (a:yF) (b:yF):=(z8w a b).fin default
def zM2:=zi zDw λx=>((zOg x.1 x.2.1).1,zV4 (zOg x.1 x.2.1).2)
theorem z1f:SdP 210 zM2:=
 sT (cx':=z5N) (zk ⟨zvD,zvY,zwZ,trivial⟩) call210 func210 (lOK aN) (sg:=⟨[.own 49],[]⟩)
def z4f:=zbt base 10 [(210,zM2)]
def z5T (a:yF) (b:yF):Wy0 (Bool):=.bn (zOg a b) λr0=>.k (Int.ofNat r0.length==0)
def zL3 (a:yF) (b:yF):=(z5T a b).fin default
def zLq:=zi zDw λx=>((zL3 x.1 x.2.1).1,zYt (zL3 x.1 x.2.1).2)
theorem zX1:SdP 172 zLq:=
 sT (cx':=z4f) (zk ⟨z1f,trivial⟩) call172 func172 (lOK aN)
def zVK:=zbt base 17 [(172,zLq)]
def zYd (k:Int) (p1:Int) (p2:yB) (p3:yF):Wy0 (Bool):=.i (k != p1) (.i (decide (0<=k)&&decide (k<Int.ofNat p2.length)) (.bn (zL3 (p2.getD k.toNat default) p3) λr0=>.k r0) .d) (.k false)
def zEy (k:Int) (p1:Int) (p2:yB) (p3:yF):=(zYd k p1 p2 p3).fin default
def zXN:AL base (Int×(Int×Unit)×(yB×Unit)×(yF×Unit)×Unit):=ze (zf zfl) (ze (zf (zvI (zdP zfl zb7))) (ze (zf (zvI (zdP (vSl 43) zb7))) (ze (zf (zvI (zdP (vSl 49) zb7))) zu)))
def zoi:=zi zXN λx=>((zEy x.1 x.2.1.1 x.2.2.1.1 x.2.2.2.1.1).1,zYt (zEy x.1 x.2.1.1 x.2.2.1.1 x.2.2.2.1.1).2)
theorem zua:SdP 171 zoi:=
 sT (cx':=zVK) (zk ⟨zX1,trivial⟩) call171 func171 (lOK aN)
abbrev zwu:=Unit×Int×Int×Unit
abbrev zwA:=List Int×Unit
def z16 (t8:Int) (t9:Int) (out_:List Int):Wy zwu zwA (List Int):=.i (decide (t9<t8)) (.i (decide (0<=t9)&&decide (t9<Int.ofNat out_.length)) (.i (decide (t9.toNat<out_.length)) (.h ((),t8,(IntKind.i64.wrap (t9+1)),()) ((out_.set t9.toNat t9),())) .d) .d) (.k out_)
def zMH (x:zwu) (y:zwA):=z16 x.2.1 x.2.2.1 y.1
def z2q (n:Nat) (t8:Int) (t9:Int) (out_:List Int):=zC (zMH) default n ((),t8,t9,()) (out_,())
def z00 (r:List Int):LTree ty:=.done (.exit 0) [.own 72] [.arr 3 r false]
def z3b:LL ty zwu:=za (zds 72) (za zj (za zj zl))
def z2Q:BL ty zwA:=zdw 3 false (zbe)
def zYN (x:zwu) (y:zwA):Nat:=(Int.toNat x.2.1+Int.toNat x.2.2.1+y.1.length+1)
def zMX:=zb3 base 18 [] [] [(3,(kpL [3,8,9]))] [(3,1,(kpL [3]))] [(3,spW z3b z2Q (zMH) default z00 zYN)] []
theorem zYL:zF zMX (lp (body f174) 0):=zq (id:=3) (hl:=rfl)
def z4X (n_:Int):Wy0 (List Int):=.i (decide (0<=n_)&&decide (n_<=n_)&&decide (n_*Int.ofNat 8<=Int.ofNat zO)&&decide (n_<=Int.ofNat zO)) (.bn (z2q ((Int.ofNat (List.replicate n_.toNat (0:Int)).length).toNat +Int.toNat 0+(List.replicate n_.toNat (0:Int)).length+1) (Int.ofNat (List.replicate n_.toNat (0:Int)).length) 0 (List.replicate n_.toNat (0:Int))) λr0=>.k r0) .d
def zIT (n_:Int):=(z4X n_).fin default
def zZO (r:List Int):ARes ty:=⟨[.own 3 r],[]⟩
def zIp:=zi z2k λx=>((zIT x.1).1,zZO (zIT x.1).2)
theorem zV7:SdP 174 zIp:=
 sT (cx':=zMX) (zk trivial) call174 func174 (lOK (aC zYL aN)) (sg:=⟨[.own 3],[]⟩)
abbrev zk2:=List Int×((Int×Unit)×(yB×Unit)×(yF×Unit)×Unit)×Int×Int×Unit
def zJf (s:List Int) (f_0:Int) (f_1:yB) (f_2:yF) (t7:Int) (t8:Int):Wy zk2 Unit (Int⊕Unit):=.i (decide (t8<t7)) (.i (decide (0<=t8)&&decide (t8<Int.ofNat s.length)) (.bn (zEy (s.getD t8.toNat default) f_0 f_1 f_2) λr0=>.i (r0) (.k (.inl t8)) (.h (s,((f_0,()),(f_1,()),(f_2,()),()),t7,(IntKind.i64.wrap (t8+1)),()) ())) .d) (.k (.inr ()))
def zxg (x:zk2) (y:Unit):=zJf x.1 x.2.1.1.1 x.2.1.2.1.1 x.2.1.2.2.1.1 x.2.2.1 x.2.2.2.1
def zJV (n:Nat) (s:List Int) (f_0:Int) (f_1:yB) (f_2:yF) (t7:Int) (t8:Int):=zC (zxg) (.inl default) n (s,((f_0,()),(f_1,()),(f_2,()),()),t7,t8,()) ()
def zJn:LL ty zk2:=za (lSl 3) (za (lFn 171 (za (zoD (za zj zl) 0) (za (zoD (za (lSl 43) zl) 0) (za (zoD (za (lSl 49) zl) 0) zl)))) (za zj (za zj zl)))
def zIf (x:zk2) (y:Unit):Nat:=(x.1.length+Int.toNat x.2.1.1.1+x.2.1.2.1.1.length+x.2.1.2.2.1.1.length+Int.toNat x.2.2.1+Int.toNat x.2.2.2.1+1)
def zwW:=zb3 base 19 [(171,zoi)] [] [(2,(kpL [0,1,7,8]))] [(2,1,[]),(2,0,(kpL [4]))] [(2,spW zJn zZe (zxg) (.inl default) ztL zIf)] []
theorem zHU:zF zwW (lp (body f211) 0):=zq (id:=2) (hl:=rfl)
def zKf (s:List Int) (f_0:Int) (f_1:yB) (f_2:yF):Wy0 (Int):=.bn (zJV (s.length+f_0.toNat +f_1.length+f_2.length+(Int.ofNat s.length).toNat +Int.toNat 0+1) s f_0 f_1 f_2 (Int.ofNat s.length) 0) λr2=>.i (isL r2) (.k (getL r2)) (.k (-1:Int))
def zqA (s:List Int) (f_0:Int) (f_1:yB) (f_2:yF):=(zKf s f_0 f_1 f_2).fin default
def zLb:AL base (List Int×((Int×Unit)×(yB×Unit)×(yF×Unit)×Unit)×Unit):=ze (zf (vSl 3)) (ze (zf (vFn 171 (zdP (zvI (zdP zfl zb7)) (zdP (zvI (zdP (vSl 43) zb7)) (zdP (zvI (zdP (vSl 49) zb7)) zb7))))) zu)
def zu4:=zi zLb λx=>((zqA x.1 x.2.1.1.1 x.2.1.2.1.1 x.2.1.2.2.1.1).1,z2L (zqA x.1 x.2.1.1.1 x.2.1.2.1.1 x.2.1.2.2.1.1).2)
theorem zGu:SdP 211 zu4:=
 sT (cx':=zwW) (zk ⟨zua,trivial⟩) call211 func211 (lOK (aC zHU aN))
def zGk:=zbt base 9 [(171,zoi),(211,zu4)]
def zGB (s:List Int) (f_0:Int) (f_1:yB) (f_2:yF):Wy0 (Bool):=.bn (zqA s f_0 f_1 f_2) λr0=>.k (decide (r0≥0))
def znP (s:List Int) (f_0:Int) (f_1:yB) (f_2:yF):=(zGB s f_0 f_1 f_2).fin default
def zrq:=zi zLb λx=>((znP x.1 x.2.1.1.1 x.2.1.2.1.1 x.2.1.2.2.1.1).1,zYt (znP x.1 x.2.1.1.1 x.2.1.2.1.1 x.2.1.2.2.1.1).2)
theorem zEe:SdP 173 zrq:=
 sT (cx':=zGk) (zk ⟨zua,zGu,trivial⟩) call173 func173 (lOK aN)
abbrev zwE:=Unit×Unit×Unit×Int×Int×Unit
abbrev zwv:=(Unit×Unit)×yB×yB×Unit
abbrev zwt:=yB
def z2V (t11:Int) (t12:Int) (out_:yB) (t10:yB):Wy zwE zwv zwt:=.i (decide (t12<t11)) (.i (decide (0<=t12)&&decide (t12<Int.ofNat t10.length)) (.bn (zIT (Int.ofNat t10.length)) λr1=>.bn (znP r1 t12 t10 (t10.getD t12.toNat default)) λr0=>.i (!r0) (.i (decide ((out_.length+[t10.getD t12.toNat default].length)*24<=zO)) (.h ((),(),(),t11,(IntKind.i64.wrap (t12+1)),()) (((),()),(out_++[t10.getD t12.toNat default]),t10,())) .d) (.h ((),(),(),t11,(IntKind.i64.wrap (t12+1)),()) (((),()),out_,t10,()))) .d) (.k out_)
def zMV (x:zwE) (y:zwv):=z2V x.2.2.2.1 x.2.2.2.2.1 y.2.1 y.2.2.1
def z17 (n:Nat) (t11:Int) (t12:Int) (out_:yB) (t10:yB):=zC (zMV) default n ((),(),(),t11,t12,()) (((),()),out_,t10,())
def z0g (r:zwt):LTree ty:=.done (.exit 0) [.own 120] [.arr 43 r false]
def z29:LL ty zwE:=za (zgc 120 0) (za (zds 121) (za (zds 122) (za zj (za zj zl))))
def z2F:BL ty zwv:=zj7 (za (zds 122) zl) false (zdw 43 false (zdw 43 false (zbe)))
def zY9 (x:zwE) (y:zwv):Nat:=(Int.toNat x.2.2.2.1+Int.toNat x.2.2.2.2.1+y.2.1.length+y.2.2.1.length+1)
def zMD:=zb3 base 30 [(170,zC7),(171,zoi),(173,zrq),(174,zIp)] [] [(4,[(3,.keep),(4,.own 43),(10,.keep),(11,.keep),(12,.keep)])] [(4,1,(kpL [4]))] [(4,spW z29 z2F (zMV) default z0g zY9)] []
theorem z0P:zF zMD (lp (body f143) 0):=zq (id:=4) (hl:=rfl)
def z4w (l:yB):Wy0 zwt:=.bn (zE8 l) λr5=>.bn (z17 ((Int.ofNat r5.length).toNat +Int.toNat 0+0+r5.length+1) (Int.ofNat r5.length) 0 [] r5) λr4=>.k r4
def zxy (l:yB):=(z4w l).fin default
def zZN (r:zwt):ARes ty:=⟨[.own 43 r],[]⟩
def z4h:AL base (yB×Unit):=ze (zf (vSl 43)) zu
def zIo:=zi z4h λx=>((zxy x.1).1,zZN (zxy x.1).2)
theorem zWH:SdP 143 zIo:=
 sT (cx':=zMD) (zk ⟨zIu,zua,zEe,zV7,trivial⟩) call143 func143 (lOK (aC z0P aN)) (sg:=⟨[.own 43],[]⟩)
def z6w:=zbt base 10 [(204,zps),(212,zhR)]
def z8b (a:yF) (b:yF):Wy0 (yF):=.bn (zgu a) λr1=>.i (decide ((r1.length+b.length)*16<=zO)) (.bn (zr5 (r1++b)) λr0=>.k r0) .d
def zO7 (a:yF) (b:yF):=(z8b a b).fin default
def zMN:=zi zDw λx=>((zO7 x.1 x.2.1).1,zV4 (zO7 x.1 x.2.1).2)
theorem z0h:SdP 175 zMN:=
 sT (cx':=z6w) (zk ⟨zvD,zmT,trivial⟩) call175 func175 (lOK aN) (sg:=⟨[.own 49],[]⟩)
abbrev zww:=yB×Unit×yF×yB×Int×Int×yB×Int×Int×Unit
abbrev zhD:=yB×Unit
abbrev zMT:=yB×yB×Int×Int×yB
abbrev zwL:=yB×Unit×yB×Int×Int×Unit
abbrev zwK:=yB
def z2Y (b:yB) (x_:yF) (t10:yB) (t11:Int) (t12:Int) (t16:yB) (t17:Int) (t18:Int) (out_:yB):Wy zww zhD zMT:=.i (decide (t18<t17)) (.i (decide (0<=t18)&&decide (t18<Int.ofNat t16.length)) (.bn (zO7 x_ (t16.getD t18.toNat default)) λr2=>.i (decide ((out_.length+[r2].length)*24<=zO)) (.h (b,(),x_,t10,t11,t12,t16,t17,(IntKind.i64.wrap (t18+1)),()) ((out_++[r2]),())) .d) .d) (.k (b,t10,t11,t12,out_))
def zMR (x:zww) (y:zhD):=z2Y x.1 x.2.2.1 x.2.2.2.1 x.2.2.2.2.1 x.2.2.2.2.2.1 x.2.2.2.2.2.2.1 x.2.2.2.2.2.2.2.1 x.2.2.2.2.2.2.2.2.1 y.1
def z2r (n:Nat) (b:yB) (x_:yF) (t10:yB) (t11:Int) (t12:Int) (t16:yB) (t17:Int) (t18:Int) (out_:yB):=zC (zMR) default n (b,(),x_,t10,t11,t12,t16,t17,t18,()) (out_,())
def zZb (r:zMT):LTree ty:=.done (.exit 2) [.sl 43 r.1,.own 128,.sl 43 r.2.1,.lit (.int .i64 r.2.2.1),.lit (.int .i64 r.2.2.2.1)] [.arr 43 r.2.2.2.2 false]
def z2I:LL ty zww:=za (lSl 43) (za (zds 128) (za (lSl 49) (za (lSl 43) (za zj (za zj (za (lSl 43) (za zj (za zj zl))))))))
def z2a:BL ty zhD:=zdw 43 false (zbe)
def z26 (b:yB) (t10:yB) (t11:Int) (t12:Int) (out_:yB):Wy zwL zhD zwK:=.i (decide (t12<t11)) (.i (decide (0<=t12)&&decide (t12<Int.ofNat t10.length)) (.bn (z2r (b.length+List.length (t10.getD t12.toNat default)+t10.length+t11.toNat +t12.toNat +b.length+(Int.ofNat b.length).toNat +Int.toNat 0+out_.length+1) b (t10.getD t12.toNat default) t10 t11 t12 b (Int.ofNat b.length) 0 out_) λr4=>.h ((r4.1),(),(r4.2.1),(r4.2.2.1),(IntKind.i64.wrap (r4.2.2.2.1+1)),()) ((r4.2.2.2.2),())) .d) (.k out_)
def zMO (x:zwL) (y:zhD):=z26 x.1 x.2.2.1 x.2.2.2.1 x.2.2.2.2.1 y.1
def z23 (n:Nat) (b:yB) (t10:yB) (t11:Int) (t12:Int) (out_:yB):=zC (zMO) default n (b,(),t10,t11,t12,()) (out_,())
def z0p (r:zwK):LTree ty:=.done (.exit 0) [.own 128] [.arr 43 r false]
def z3d:LL ty zwL:=za (lSl 43) (za (zds 128) (za (lSl 43) (za zj (za zj zl))))
def zYW (x:zww) (y:zhD):Nat:=(x.1.length+x.2.2.1.length+x.2.2.2.1.length+Int.toNat x.2.2.2.2.1+Int.toNat x.2.2.2.2.2.1+x.2.2.2.2.2.2.1.length+Int.toNat x.2.2.2.2.2.2.2.1+Int.toNat x.2.2.2.2.2.2.2.2.1+y.1.length+1)
def zZU (x:zwL) (y:zhD):Nat:=(x.1.length+x.2.2.1.length+Int.toNat x.2.2.2.1+Int.toNat x.2.2.2.2.1+y.1.length+1)
def zEo:=zb3 base 32 [(170,zC7),(175,zMN)] [] [(3,[(1,.keep),(5,.own 43),(10,.keep),(11,.keep),(12,.keep)]),(6,[(1,.keep),(5,.own 43),(7,.keep),(10,.keep),(11,.keep),(12,.keep),(16,.keep),(17,.keep),(18,.keep)])] [(3,1,(kpL [5])),(6,3,(kpL [1,5,10,11,12]))] [(6,spW z2I z2a (zMR) default zZb zYW),(3,spW z3d z2a (zMO) default z0p zZU)] []
theorem z1k:zF zEo (lp (body f144) 1):=zq (id:=6) (hl:=rfl)
theorem zY7:zF zEo (lp (body f144) 0):=zq (id:=3) (hl:=rfl)
def z30 (a:yB) (b:yB):Wy0 zwK:=.bn (z23 (b.length+a.length+(Int.ofNat a.length).toNat +Int.toNat 0+0+1) b a (Int.ofNat a.length) 0 []) λr7=>.bn (zE8 r7) λr6=>.k r6
def zDn (a:yB) (b:yB):=(z30 a b).fin default
def zZm (r:zwK):ARes ty:=⟨[.own 43 r],[]⟩
def z5j:AL base (yB×yB×Unit):=ze (zf (vSl 43)) (ze (zf (vSl 43)) zu)
def zIC:=zi z5j λx=>((zDn x.1 x.2.1).1,zZm (zDn x.1 x.2.1).2)
theorem zV8:SdP 144 zIC:=
 sT (cx':=zEo) (zk ⟨zIu,z0h,trivial⟩) call144 func144 (lOK (aC zY7 (aC z1k aN))) (sg:=⟨[.own 43],[]⟩)
end Go.Proofs.YtljlfiomikifjaaGreatDoor
end
