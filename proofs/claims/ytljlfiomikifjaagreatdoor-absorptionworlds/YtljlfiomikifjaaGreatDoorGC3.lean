/- Texts of this claim, joined (the program, its functions in plain words, and what they compute). -/
import Derived.Test.YtljlfiomikifjaaGreatDoorGC2
set_option autoImplicit false
set_option linter.unusedVariables false
set_option linter.unusedSectionVars false
set_option linter.unusedSimpArgs false
set_option maxRecDepth 1000000
set_option maxHeartbeats 0
noncomputable section
namespace Go.Proofs.YtljlfiomikifjaaGreatDoor
open Go Go.Ab
open Go.Proofs.Tryz
def zpN (zbs:yD->Bool×Int) (zl:Fc->Bool×Bool):=zbt base 9 [(103,(zdS zbs)),(142,(zcY zl))]
def zhM (zbs:yD->Bool×Int) (zl:Fc->Bool×Bool) (s:yD):Wy0 (Bool):=.bn (zbs s) λr0=>.k (decide (r0≥0))
def zdn (zbs:yD->Bool×Int) (zl:Fc->Bool×Bool) (s:yD):=(zhM zbs zl s).fin default
theorem znE (zbs:yD->Bool×Int) (zl:Fc->Bool×Bool) (zsw:SdP 103 (zdS zbs)) (zfa:SdP 142 (zcY zl)):SdP 49 (zdk (zdn zbs zl)):=
 sT (cx':=(zpN zbs zl)) (zi ⟨zsw,zfa,trivial⟩) call49 func49 (lOK aN)
def zoM (zbp:yC->Bool×Int) (zq:Term->Bool×Bool):=zbt base 9 [(113,(zdG zbp)),(141,(zdB zq))]
def zhq (zbp:yC->Bool×Int) (zq:Term->Bool×Bool) (s:yC):Wy0 (Bool):=.bn (zbp s) λr0=>.k (decide (r0≥0))
def zdc (zbp:yC->Bool×Int) (zq:Term->Bool×Bool) (s:yC):=(zhq zbp zq s).fin default
theorem znh (zbp:yC->Bool×Int) (zq:Term->Bool×Bool) (zsj:SdP 113 (zdG zbp)) (zge:SdP 141 (zdB zq)):SdP 59 (zdi (zdc zbp zq)):=
 sT (cx':=(zoM zbp zq)) (zi ⟨zsj,zge,trivial⟩) call59 func59 (lOK aN)
abbrev zen:=yD×Unit×Int×Int×Unit
def ziF (zl:Fc->Bool×Bool) (s:yD) (t7:Int) (t8:Int):Wy zen Unit (Int⊕Unit):=.i (decide (t8<t7)) (.i (decide (0<=t8)&&decide (t8<Int.ofNat s.length)) (.bn (zl (FO.mk (At.mk (s.getD t8.toNat default).At.Kind (s.getD t8.toNat default).At.Row (s.getD t8.toNat default).At.Ag (s.getD t8.toNat default).At.Func (s.getD t8.toNat default).At.Items (s.getD t8.toNat default).At.Op (s.getD t8.toNat default).At.Bd) (s.getD t8.toNat default).Exp)) λr0=>.i (r0) (.k (.inl t8)) (.h (s,(),t7,(IntKind.i64.wrap (t8+1)),()) ())) .d) (.k (.inr ()))
def zdl (zl:Fc->Bool×Bool) (x:zen) (y:Unit):=ziF zl x.1 x.2.2.1 x.2.2.2.1
def ziE (zl:Fc->Bool×Bool) (n:Nat) (s:yD) (t7:Int) (t8:Int):=zA (zdl zl) (.inl default) n (s,(),t7,t8,()) ()
def zr7:LL ty zen:=za (lSl 69) (za (lFn 142 (zk)) (za zj (za zj zk)))
def zrn (x:zen) (y:Unit):Nat:=(x.1.length+Int.toNat x.2.2.1+Int.toNat x.2.2.2.1+1000)
def ziB (zl:Fc->Bool×Bool):=zbY base 19 [(142,(zcY zl))] [] [(2,(kpL [0,1,7,8]))] [(2,1,[]),(2,0,(kpL [4]))] [(2,spW zr7 zbc9 (zdl zl) (.inl default) zsU zrn)] []
theorem zqI (zl:Fc->Bool×Bool):zy (ziB zl) (lp (body f103) 0):=zm (id:=2) (hl:=rfl)
def zi3 (zl:Fc->Bool×Bool) (s:yD):Wy0 (Int):=.bn (ziE zl (s.length+(Int.ofNat s.length).toNat +Int.toNat 0+1000) s (Int.ofNat s.length) 0) λr2=>.i (isL r2) (.k (getL r2)) (.k (-1:Int))
def zcJ (zl:Fc->Bool×Bool) (s:yD):=(zi3 zl s).fin default
theorem zpu (zl:Fc->Bool×Bool) (zfa:SdP 142 (zcY zl)):SdP 103 (zdS (zcJ zl)):=
 sT (cx':=(ziB zl)) (zi ⟨zfa,trivial⟩) call103 func103 (lOK (aC (zqI zl) aN))
abbrev zed:=yC×Unit×Int×Int×Unit
def zrD (zq:Term->Bool×Bool) (s:yC) (t7:Int) (t8:Int):Wy zed Unit (Int⊕Unit):=.i (decide (t8<t7)) (.i (decide (0<=t8)&&decide (t8<Int.ofNat s.length)) (.bn (zq (s.getD t8.toNat default)) λr0=>.i (r0) (.k (.inl t8)) (.h (s,(),t7,(IntKind.i64.wrap (t8+1)),()) ())) .d) (.k (.inr ()))
def zij (zq:Term->Bool×Bool) (x:zed) (y:Unit):=zrD zq x.1 x.2.2.1 x.2.2.2.1
def zqM (zq:Term->Bool×Bool) (n:Nat) (s:yC) (t7:Int) (t8:Int):=zA (zij zq) (.inl default) n (s,(),t7,t8,()) ()
def zrj:LL ty zed:=za (lSl 28) (za (lFn 141 (zk)) (za zj (za zj zk)))
def zqr (x:zed) (y:Unit):Nat:=(x.1.length+Int.toNat x.2.2.1+Int.toNat x.2.2.2.1+1000)
def zh7 (zq:Term->Bool×Bool):=zbY base 19 [(141,(zdB zq))] [] [(2,(kpL [0,1,7,8]))] [(2,1,[]),(2,0,(kpL [4]))] [(2,spW zrj zbc9 (zij zq) (.inl default) zsU zqr)] []
theorem zqA (zq:Term->Bool×Bool):zy (zh7 zq) (lp (body f113) 0):=zm (id:=2) (hl:=rfl)
def zrU (zq:Term->Bool×Bool) (s:yC):Wy0 (Int):=.bn (zqM zq (s.length+(Int.ofNat s.length).toNat +Int.toNat 0+1000) s (Int.ofNat s.length) 0) λr2=>.i (isL r2) (.k (getL r2)) (.k (-1:Int))
def zdE (zq:Term->Bool×Bool) (s:yC):=(zrU zq s).fin default
theorem zoG (zq:Term->Bool×Bool) (zge:SdP 141 (zdB zq)):SdP 113 (zdG (zdE zq)):=
 sT (cx':=(zh7 zq)) (zi ⟨zge,trivial⟩) call113 func113 (lOK (aC (zqA zq) aN))
def zc7:Nat->(yC->Bool×Bool)×(Term->Bool×Bool)×(Fc->Bool×Bool)×(yC->Bool×Int)×(yC->Bool×Bool)×(yD->Bool×Int)×(yD->Bool×Bool)
 | 0=>(λ_=>(false,default),λ_=>(false,default),λ_=>(false,default),λ_=>(false,default),λ_=>(false,default),λ_=>(false,default),λ_=>(false,default))
 | n+1=>(zm5 ((zc7 n).2.2.2.2.1) ((zc7 n).2.1),zkF ((zc7 n).2.2.2.2.2.2) ((zc7 n).2.2.1),ziW ((zc7 n).1),zdE ((zc7 n).2.1),zdc ((zc7 n).2.2.2.1) ((zc7 n).2.1),zcJ ((zc7 n).2.2.1),zdn ((zc7 n).2.2.2.2.2.1) ((zc7 n).2.2.1))
def zfi (n:Nat):yC->Bool×Bool:=(zc7 n).1
def zfw (n:Nat):Term->Bool×Bool:=(zc7 n).2.1
def zez (n:Nat):Fc->Bool×Bool:=(zc7 n).2.2.1
def ze9 (n:Nat):yC->Bool×Int:=(zc7 n).2.2.2.1
def zdh (n:Nat):yC->Bool×Bool:=(zc7 n).2.2.2.2.1
def zfg (n:Nat):yD->Bool×Int:=(zc7 n).2.2.2.2.2.1
def zdm (n:Nat):yD->Bool×Bool:=(zc7 n).2.2.2.2.2.2
theorem zMx (n:Nat):zfi (n+1)=zm5 (zdh n) (zfw n):=rfl
theorem zH8 (n:Nat):zfw (n+1)=zkF (zdm n) (zez n):=rfl
theorem zEY (n:Nat):zez (n+1)=ziW (zfi n):=rfl
theorem zq5 (n:Nat):ze9 (n+1)=zdE (zfw n):=rfl
theorem zoX (n:Nat):zdh (n+1)=zdc (ze9 n) (zfw n):=rfl
theorem zsc (n:Nat):zfg (n+1)=zcJ (zez n):=rfl
theorem zpP (n:Nat):zdm (n+1)=zdn (zfg n) (zez n):=rfl
theorem zQS:∀ n,SdP 73 (zh1 (zfi n))/\SdP 141 (zdB (zfw n))/\SdP 142 (zcY (zez n))/\SdP 113 (zdG (ze9 n))/\SdP 59 (zdi (zdh n))/\SdP 103 (zdS (zfg n))/\SdP 49 (zdk (zdm n))
 | 0=>⟨zba call73 (λ_=>rfl),zba call141 (λ_=>rfl),zba call142 (λ_=>rfl),zba call113 (λ_=>rfl),zba call59 (λ_=>rfl),zba call103 (λ_=>rfl),zba call49 (λ_=>rfl)⟩
 | n+1=>by
  have ih:=zQS n;exact ⟨zHU _ _ (ih.2.2.2.2.1) (ih.2.1),zEU _ _ (ih.2.2.2.2.2.2) (ih.2.2.1),zCU _ (ih.1),zoG _ (ih.2.1),znh _ _ (ih.2.2.2.1) (ih.2.1),zpu _ (ih.2.2.1),znE _ _ (ih.2.2.2.2.2.1) (ih.2.2.1)⟩
def zx3:yC->Bool×Bool:=zfi 1000
def zzC:Ab.Spec ty:=zh1 zx3
theorem zKs:SdP 73 zzC:=(zQS 1000).1
def zOM (r:yB):ARes ty:=⟨[.own 43 r],[]⟩
def zjZ (F:yC->Bool×yB):Ab.Spec ty:=zh z0t λx=>((F x.1).1,zOM (F x.1).2)
abbrev zgA:=yF×yF×Int×Int×Unit
def zh5 (s1:yF) (s2:yF) (t12:Int) (t13:Int):Wy zgA Unit (Bool⊕Unit):=.i (decide (t13<t12)) (.i (decide (0<=t13)&&decide (t13<Int.ofNat s1.length)) (.i (decide (0<=t13)&&decide (t13<Int.ofNat s2.length)) (.i (!((s1.getD t13.toNat default).Table==(s2.getD t13.toNat default).Table&&((s1.getD t13.toNat default).Seq==(s2.getD t13.toNat default).Seq&&true))) (.k (.inl false)) (.h (s1,s2,t12,(IntKind.i64.wrap (t13+1)),()) ())) .d) .d) (.k (.inr ()))
def zns (x:zgA) (y:Unit):=zh5 x.1 x.2.1 x.2.2.1 x.2.2.2.1
def zdT (n:Nat) (s1:yF) (s2:yF) (t12:Int) (t13:Int):=zA (zns) (.inl default) n (s1,s2,t12,t13,()) ()
def zBa:LL ty zgA:=za (lSl 49) (za (lSl 49) (za zj (za zj zk)))
def zz7 (x:zgA) (y:Unit):Nat:=(x.1.length+x.2.1.length+Int.toNat x.2.2.1+Int.toNat x.2.2.2.1+1)
def zm9:=zbY base 26 [] [] [(4,(kpL [0,1,12,13]))] [(4,1,[]),(4,0,(kpL [4]))] [(4,spW zBa zbc9 (zns) (.inl default) zRs zz7)] []
theorem zzY:zy zm9 (lp (body f209) 0):=zm (id:=4) (hl:=rfl)
def zBE (s1:yF) (s2:yF):Wy0 (Bool):=.i (Int.ofNat s1.length != Int.ofNat s2.length) (.k false) (.bn (zdT (s1.length+s2.length+(Int.ofNat s1.length).toNat +Int.toNat 0+1) s1 s2 (Int.ofNat s1.length) 0) λr0=>.i (isL r0) (.k (getL r0)) (.k true))
def zdr (s1:yF) (s2:yF):=(zBE s1 s2).fin default
def zBo:AL base (yF×yF×Unit):=zc (ze (vSl 49)) (zc (ze (vSl 49)) zo)
def zms:=zh zBo λx=>((zdr x.1 x.2.1).1,zZL (zdr x.1 x.2.1).2)
theorem zyE:SdP 209 zms:=
 sT (cx':=zm9) (zi trivial) call209 func209 (lOK (aC zzY aN))
def zZH:=zbt base 8 [(209,zms)]
def zZ4 (a:yF) (b:yF):Wy0 (Bool):=.bn (zdr a b) λr0=>.k r0
def zmA (a:yF) (b:yF):=(zZ4 a b).fin default
def zvP:=zh zBo λx=>((zmA x.1 x.2.1).1,zZL (zmA x.1 x.2.1).2)
theorem zDi:SdP 208 zvP:=
 sT (cx':=zZH) (zi ⟨zyE,trivial⟩) call208 func208 (lOK aN)
def z3V:=zbt base 17 [(120,zlg),(121,zlk)]
def z6a (a:RowID) (b:RowID):Wy0 (Int):=.bn (zdb a.Table b.Table) λr2=>.bn (zdb a.Seq b.Seq) λr1=>.bn (zlK [r2,r1]) λr0=>.k r0
def zeX (a:RowID) (b:RowID):=(z6a a b).fin default
def z6s:AL base (RowID×RowID×Unit):=zc (ze (zcy 49)) (zc (ze (zcy 49)) zo)
def zmm:=zh z6s λx=>((zeX x.1 x.2.1).1,zRZ (zeX x.1 x.2.1).2)
theorem zpz:SdP 233 zmm:=
 sT (cx':=z3V) (zi ⟨zmz,znO,trivial⟩) call233 func233 (lOK aN)
def ze0:Cx ty:={ base with nt:=8 }
def zcl (s:yF):Bool×yF:=(decide (s.length*16<=zP),s)
def zhe:Ab.Spec ty:=zh (cx:=base) (zc (ze (vSl 49)) zo) λx=>((zcl x.1).1,⟨[.own 49 (zcl x.1).2],[]⟩)
theorem zz0:zgD ze0 f212 (body f212) ⟨[.own 49],[]⟩ [.pure (.lit (.slice none 0 0))]=some ⟨[.own 49 []],[]⟩:=by kernel_rfl
theorem zyr (p:Addr) (c:Nat):zgD ze0 f212 (body f212) ⟨[.own 49],[]⟩ [.pure (.lit (.slice (some p) 0 c))]=some ⟨[.own 49 []],[]⟩:=by kernel_rfl
theorem zy8 (l:yF):zgD ze0 f212 (body f212) ⟨[.own 49],[]⟩ [.pure (.sl 49 l)]=bif !l.isEmpty then bif decide ((([]:List (ty 49)).length+l.length)*16<=zP) then some ⟨[.own 49 l],[]⟩ else none else none:=by kernel_rfl
theorem zlV:SdP 212 zhe:=
 zIo (cx':=ze0) (bytes:=16) zGk zgn ⟨⟨rfl,rfl,rfl,rfl,rfl,rfl⟩,rfl⟩ (λg s h=>by cases h) call212 func212 (c:=body f212) (by kernel_rfl) (zBz (l:=[]) (by kernel_rfl) trivial) zz0 zyr zy8 (by kernel_rfl)
abbrev zfF:=Unit×Int×(Nat×Nat)×Int×Unit
abbrev zcg:=yF×Unit
abbrev zo4:=Int×yF
abbrev zjm:=Unit×Int×Unit
abbrev zoT:=(Nat×yF)⊕yF
def zhi (k:Int) (s2_0:Nat) (s2_1:Nat) (k2:Int) (s:yF):Wy zfF zcg zo4:=.i (decide (k2<Int.ofNat s2_1)) (.i (decide (0<=k2)&&decide (k2<Int.ofNat s2_1)) (.i (decide (0<=IntKind.i64.wrap (k2 - 1))&&decide (IntKind.i64.wrap (k2 - 1)<Int.ofNat s2_1)) (.i (!((s.getD (s2_0+k2.toNat) default).Table==(s.getD (s2_0+(IntKind.i64.wrap (k2 - 1)).toNat) default).Table&&((s.getD (s2_0+k2.toNat) default).Seq==(s.getD (s2_0+(IntKind.i64.wrap (k2 - 1)).toNat) default).Seq&&true))) (.i (decide (0<=k2)&&decide (k2<Int.ofNat s2_1)) (.i (decide (0<=k)&&decide (k<Int.ofNat s.length)) (.i (decide (k.toNat<s.length)) (.h ((),(IntKind.i64.wrap (k+1)),(s2_0,s2_1),(IntKind.i64.wrap (k2+1)),()) ((s.set k.toNat (s.getD (s2_0+k2.toNat) default)),())) .d) .d) .d) (.h ((),k,(s2_0,s2_1),(IntKind.i64.wrap (k2+1)),()) (s,()))) .d) .d) (.k (k,s))
def zmn (x:zfF) (y:zcg):=zhi x.2.1 x.2.2.1.1 x.2.2.1.2 x.2.2.2.1 y.1
def zeI (n:Nat) (k:Int) (s2_0:Nat) (s2_1:Nat) (k2:Int) (s:yF):=zA (zmn) default n ((),k,(s2_0,s2_1),k2,()) (s,())
def zyK (r:zo4):LTree ty:=.done (.exit 2) [.own 244,.lit (.int .i64 r.1)] [.arr 49 r.2 false]
def zy1:LL ty zfF:=za (zdK 244) (za zj (za (zbna 244) (za zj zk)))
def zy2:BL ty zcg:=zdO 49 false (z8)
def zhh (k:Int) (s:yF):Wy zjm zcg zoT:=.i (decide (k<Int.ofNat s.length)) (.i (decide (0<=k)&&decide (k<Int.ofNat s.length)) (.i (decide (0<=IntKind.i64.wrap (k - 1))&&decide (IntKind.i64.wrap (k - 1)<Int.ofNat s.length)) (.i ((s.getD k.toNat default).Table==(s.getD (IntKind.i64.wrap (k - 1)).toNat default).Table&&((s.getD k.toNat default).Seq==(s.getD (IntKind.i64.wrap (k - 1)).toNat default).Seq&&true)) (.i (decide (0<=k)&&decide (k<=Int.ofNat s.length)&&decide (Int.ofNat s.length<=Int.ofNat s.length)) (.bn (zeI (k.toNat +k.toNat +((Int.ofNat s.length).toNat - k.toNat)+Int.toNat 1+s.length+1) k k.toNat ((Int.ofNat s.length).toNat - k.toNat) 1 s) λr0=>.i (decide (0<=r0.1)&&decide (r0.1<=Int.ofNat r0.2.length)&&decide (Int.ofNat r0.2.length<=Int.ofNat r0.2.length)) (.i (decide (r0.1.toNat +((Int.ofNat r0.2.length).toNat - r0.1.toNat)<=r0.2.length)) (.i (decide ((0:Int)<=(0:Int))&&decide (0<=r0.1)&&decide (r0.1<=Int.ofNat (List.take r0.1.toNat r0.2++List.replicate ((Int.ofNat r0.2.length).toNat - r0.1.toNat) (RowID.mk 0 0)++List.drop (r0.1.toNat +((Int.ofNat r0.2.length).toNat - r0.1.toNat)) r0.2).length)) (.k (.inl (r0.1.toNat - Int.toNat 0,List.take r0.1.toNat r0.2++List.replicate ((Int.ofNat r0.2.length).toNat - r0.1.toNat) (RowID.mk 0 0)++List.drop (r0.1.toNat +((Int.ofNat r0.2.length).toNat - r0.1.toNat)) r0.2))) .d) .d) .d) .d) (.h ((),(IntKind.i64.wrap (k+1)),()) (s,()))) .d) .d) (.k (.inr s))
def zmx (x:zjm) (y:zcg):=zhh x.2.1 y.1
def zdy (n:Nat) (k:Int) (s:yF):=zA (zmx) (.inl default) n ((),k,()) (s,())
def zx9 (r:zoT):LTree ty:=.ite (isL r) (.done .ret [.sub 244 0 ((getL r).1)] [.arr 49 ((getL r).2) false]) (.done (.exit 0) [.own 244] [.arr 49 (getR r) false])
def zzk:LL ty zjm:=za (zdK 244) (za zj zk)
def zyz (x:zfF) (y:zcg):Nat:=(Int.toNat x.2.1+x.2.2.1.1+x.2.2.1.2+Int.toNat x.2.2.2.1+y.1.length+1)
def zhc:=zbY base 61 [] [] [(4,(kpL [0,3])),(9,(kpL [0,3,4,5]))] [(4,1,(kpL [0])),(4,0,(kpL [2])),(9,3,(kpL [0,3]))] [(9,spW zy1 zy2 (zmn) default zyK zyz),(4,spW zzk zy2 (zmx) (.inl default) zx9 λx y=>(Int.toNat x.2.1+y.1.length+1))] []
theorem zyj:zy zhc (lp (body f234) 1):=zm (id:=9) (hl:=rfl)
theorem zyG:zy zhc (lp (body f234) 0):=zm (id:=4) (hl:=rfl)
def zz3 (s:yF):Wy0 (yF):=.i (decide (Int.ofNat s.length<2)) (.k s) (.bn (zdy (Int.toNat 1+s.length+1) 1 s) λr2=>.i (isL r2) (.k (List.take (getL r2).1 (getL r2).2)) (.k (getR r2)))
def zc9 (s:yF):=(zz3 s).fin default
def zyv (r:yF):ARes ty:=⟨[.own 49 r],[none]⟩
def zz4:AL base zcg:=zc (zlZ 49) zo
def zlB:=zh zz4 λx=>((zc9 x.1).1,zyv (zc9 x.1).2)
theorem zwH:SdP 234 zlB:=
 sT (cx':=zhc) (zi trivial) call234 func234 (lOK (aC zyG (aC zyj aN))) (sg:=⟨[.own 49],[false]⟩)
def zc2 (x:yF):Bool×yF:=zxL (λa b=>zeX a b) x
def zk1:Ab.Spec ty:=zh (cx:=base) (zc (zlZ 49) (zc (ze (vFn 233 (zb4))) zo)) λx=>((zc2 x.1).1,⟨[],[some ⟨49,(zc2 x.1).2⟩]⟩)
theorem zxK (c:Unit) (x y:RowID) (h:(zeX x y).1=true):zmm ((AV.agg (base.enc 49 x)::AV.agg (base.enc 49 y)::(zb4:VL base (Unit)).enc c).map Arg.pure)=some (true,⟨[.pure (.lit (.int .i64 (zeX x y).2))],[]⟩):=by
 rw [<- h]; kernel_rfl
theorem zwh:SdP 232 zk1:=by
 letI:DecidableEq (ty 49):=inferInstanceAs (DecidableEq RowID)
 exact zbgS (T:=49) zgn rfl Go.Proofs.Tryz.sortRow Tryz.isAgg49 (by unfold zr; exact Tryz.sizeOf49) call232 zpz (zb4) (λc=>λa b=>zeX a b) zxK
def zY1:=zbY base 10 [(212,zhe),(232,zk1),(233,zmm),(234,zlB)] [(232,[true,false]),(234,[true])] [] [] [] []
def z2V (l:yF):Wy0 (yF):=.bn (zcl l) λr2=>.bn (zc2 r2) λr1=>.bn (zc9 r1) λr0=>.k r0
def zgC (l:yF):=(z2V l).fin default
def zXj (r:yF):ARes ty:=⟨[.own 49 r],[]⟩
def z2a:AL base (yF×Unit):=zc (ze (vSl 49)) zo
def znZ:=zh z2a λx=>((zgC x.1).1,zXj (zgC x.1).2)
theorem zuN:SdP 204 znZ:=
 sT (cx':=zY1) (zi ⟨zlV,zwh,zpz,zwH,trivial⟩) call204 func204 (lOK aN) (sg:=⟨[.own 49],[]⟩)
abbrev zcB:=yF×yF×Unit×yF×Int×Int×Unit
abbrev zf6:=Int⊕(yF×yF)
def zc0 (s1:yF) (s2:yF) (t11:yF) (t12:Int) (t13:Int):Wy zcB Unit zf6:=.i (decide (t13<t12)) (.i (decide (0<=t13)&&decide (t13<Int.ofNat t11.length)) (.i (decide (t13≥Int.ofNat s2.length)) (.k (.inl 1)) (.i (decide (0<=t13)&&decide (t13<Int.ofNat s2.length)) (.bn (zeX (t11.getD t13.toNat default) (s2.getD t13.toNat default)) λr0=>.i (r0 != 0) (.k (.inl (r0))) (.h (s1,s2,(),t11,t12,(IntKind.i64.wrap (t13+1)),()) ())) .d)) .d) (.k (.inr (s1,s2)))
def zeJ (x:zcB) (y:Unit):=zc0 x.1 x.2.1 x.2.2.2.1 x.2.2.2.2.1 x.2.2.2.2.2.1
def zbN (n:Nat) (s1:yF) (s2:yF) (t11:yF) (t12:Int) (t13:Int):=zA (zeJ) (.inl default) n (s1,s2,(),t11,t12,t13,()) ()
def zkd (r:zf6):LTree ty:=.ite (isL r) (.done .ret [.lit (.int .i64 (getL r))] []) (.done (.exit 0) [.sl 49 (getR r).1,.sl 49 (getR r).2] [])
def zkr:LL ty zcB:=za (lSl 49) (za (lSl 49) (za (lFn 233 (zk)) (za (lSl 49) (za zj (za zj zk)))))
def zki (x:zcB) (y:Unit):Nat:=(x.1.length+x.2.1.length+x.2.2.2.1.length+Int.toNat x.2.2.2.2.1+Int.toNat x.2.2.2.2.2.1+1)
def zeL:=zbY base 39 [(233,zmm)] [] [(2,(kpL [0,1,2,11,12,13]))] [(2,1,(kpL [0,1])),(2,0,(kpL [6]))] [(2,spW zkr zbc9 (zeJ) (.inl default) zkd zki)] []
theorem zkh:zy zeL (lp (body f236) 0):=zm (id:=2) (hl:=rfl)
def zkV (s1:yF) (s2:yF):Wy0 (Int):=.bn (zbN (s1.length+s2.length+s1.length+(Int.ofNat s1.length).toNat +Int.toNat 0+1) s1 s2 s1 (Int.ofNat s1.length) 0) λr2=>.i (isL r2) (.k (getL r2)) (.i (decide (Int.ofNat (getR r2).1.length<Int.ofNat (getR r2).2.length)) (.k (-1:Int)) (.k 0))
def zbz (s1:yF) (s2:yF):=(zkV s1 s2).fin default
def zkU:AL base (yF×yF×Unit×Unit):=zc (ze (vSl 49)) (zc (ze (vSl 49)) (zc (ze (vFn 233 zb4)) zo))
def zeD:=zh zkU λx=>((zbz x.1 x.2.1).1,zRZ (zbz x.1 x.2.1).2)
theorem zjV:SdP 236 zeD:=
 sT (cx':=zeL) (zi ⟨zpz,trivial⟩) call236 func236 (lOK (aC zkh aN))
def zTx:=zbt base 8 [(233,zmm),(236,zeD)]
def zV8 (a:yF) (b:yF):Wy0 (Int):=.bn (zbz a b) λr0=>.k r0
def zew (a:yF) (b:yF):=(zV8 a b).fin default
def zsO:=zh zBo λx=>((zew x.1 x.2.1).1,zRZ (zew x.1 x.2.1).2)
theorem zAs:SdP 206 zsO:=
 sT (cx':=zTx) (zi ⟨zpz,zjV,trivial⟩) call206 func206 (lOK aN)
abbrev zeo:=Unit×Unit×Int×(Nat×Nat)×Int×Unit
abbrev zcb:=yB×Unit
abbrev zlM:=Int×yB
abbrev zgv:=Unit×Unit×Int×Unit
abbrev zlx:=(Nat×yB)⊕yB
def zfl (k:Int) (s2_0:Nat) (s2_1:Nat) (k2:Int) (s:yB):Wy zeo zcb zlM:=.i (decide (k2<Int.ofNat s2_1)) (.i (decide (0<=k2)&&decide (k2<Int.ofNat s2_1)) (.i (decide (0<=IntKind.i64.wrap (k2 - 1))&&decide (IntKind.i64.wrap (k2 - 1)<Int.ofNat s2_1)) (.bn (zmA (s.getD (s2_0+k2.toNat) default) (s.getD (s2_0+(IntKind.i64.wrap (k2 - 1)).toNat) default)) λr0=>.i (!r0) (.i (decide (0<=k2)&&decide (k2<Int.ofNat s2_1)) (.i (decide (0<=k)&&decide (k<Int.ofNat s.length)) (.i (decide (k.toNat<s.length)) (.h ((),(),(IntKind.i64.wrap (k+1)),(s2_0,s2_1),(IntKind.i64.wrap (k2+1)),()) ((s.set k.toNat (s.getD (s2_0+k2.toNat) default)),())) .d) .d) .d) (.h ((),(),k,(s2_0,s2_1),(IntKind.i64.wrap (k2+1)),()) (s,()))) .d) .d) (.k (k,s))
def zj1 (x:zeo) (y:zcb):=zfl x.2.2.1 x.2.2.2.1.1 x.2.2.2.1.2 x.2.2.2.2.1 y.1
def zdQ (n:Nat) (k:Int) (s2_0:Nat) (s2_1:Nat) (k2:Int) (s:yB):=zA (zj1) default n ((),(),k,(s2_0,s2_1),k2,()) (s,())
def zt0 (r:zlM):LTree ty:=.done (.exit 2) [.own 264,.lit (.int .i64 r.1)] [.arr 43 r.2 false]
def zuE:LL ty zeo:=za (zdK 264) (za (lFn 208 (zk)) (za zj (za (zbna 264) (za zj zk))))
def zuO:BL ty zcb:=zdO 43 false (z8)
def zff (k:Int) (s:yB):Wy zgv zcb zlx:=.i (decide (k<Int.ofNat s.length)) (.i (decide (0<=k)&&decide (k<Int.ofNat s.length)) (.i (decide (0<=IntKind.i64.wrap (k - 1))&&decide (IntKind.i64.wrap (k - 1)<Int.ofNat s.length)) (.bn (zmA (s.getD k.toNat default) (s.getD (IntKind.i64.wrap (k - 1)).toNat default)) λr3=>.i (r3) (.i (decide (0<=k)&&decide (k<=Int.ofNat s.length)&&decide (Int.ofNat s.length<=Int.ofNat s.length)) (.bn (zdQ (k.toNat +k.toNat +((Int.ofNat s.length).toNat - k.toNat)+Int.toNat 1+s.length+1) k k.toNat ((Int.ofNat s.length).toNat - k.toNat) 1 s) λr2=>.i (decide (0<=r2.1)&&decide (r2.1<=Int.ofNat r2.2.length)&&decide (Int.ofNat r2.2.length<=Int.ofNat r2.2.length)) (.i (decide (r2.1.toNat +((Int.ofNat r2.2.length).toNat - r2.1.toNat)<=r2.2.length)) (.i (decide ((0:Int)<=(0:Int))&&decide (0<=r2.1)&&decide (r2.1<=Int.ofNat (List.take r2.1.toNat r2.2++List.replicate ((Int.ofNat r2.2.length).toNat - r2.1.toNat) []++List.drop (r2.1.toNat +((Int.ofNat r2.2.length).toNat - r2.1.toNat)) r2.2).length)) (.k (.inl (r2.1.toNat - Int.toNat 0,List.take r2.1.toNat r2.2++List.replicate ((Int.ofNat r2.2.length).toNat - r2.1.toNat) []++List.drop (r2.1.toNat +((Int.ofNat r2.2.length).toNat - r2.1.toNat)) r2.2))) .d) .d) .d) .d) (.h ((),(),(IntKind.i64.wrap (k+1)),()) (s,()))) .d) .d) (.k (.inr s))
def zjO (x:zgv) (y:zcb):=zff x.2.2.1 y.1
def zcM (n:Nat) (k:Int) (s:yB):=zA (zjO) (.inl default) n ((),(),k,()) (s,())
def zt3 (r:zlx):LTree ty:=.ite (isL r) (.done .ret [.sub 264 0 ((getL r).1)] [.arr 43 ((getL r).2) false]) (.done (.exit 0) [.own 264] [.arr 43 (getR r) false])
def zuD:LL ty zgv:=za (zdK 264) (za (lFn 208 (zk)) (za zj zk))
def zt5 (x:zeo) (y:zcb):Nat:=(Int.toNat x.2.2.1+x.2.2.2.1.1+x.2.2.2.1.2+Int.toNat x.2.2.2.2.1+y.1.length+1)
def zfh:=zbY base 66 [(208,zvP)] [] [(4,(kpL [0,1,5])),(9,(kpL [0,1,5,6,7]))] [(4,1,(kpL [0])),(4,0,(kpL [4])),(9,3,(kpL [0,5]))] [(9,spW zuE zuO (zj1) default zt0 zt5),(4,spW zuD zuO (zjO) (.inl default) zt3 λx y=>(Int.toNat x.2.2.1+y.1.length+1))] []
theorem ztY:zy zfh (lp (body f207) 1):=zm (id:=9) (hl:=rfl)
theorem zun:zy zfh (lp (body f207) 0):=zm (id:=4) (hl:=rfl)
def zu8 (s:yB):Wy0 (yB):=.i (decide (Int.ofNat s.length<2)) (.k s) (.bn (zcM (Int.toNat 1+s.length+1) 1 s) λr6=>.i (isL r6) (.k (List.take (getL r6).1 (getL r6).2)) (.k (getR r6)))
def zcp (s:yB):=(zu8 s).fin default
def zt8 (r:yB):ARes ty:=⟨[.own 43 r],[none]⟩
def zu6:AL base (yB×Unit×Unit):=zc (zlZ 43) (zc (ze (vFn 208 zb4)) zo)
def zi4:=zh zu6 λx=>((zcp x.1).1,zt8 (zcp x.1).2)
theorem zsf:SdP 207 zi4:=
 sT (cx':=zfh) (zi ⟨zDi,trivial⟩) call207 func207 (lOK (aC zun (aC ztY aN))) (sg:=⟨[.own 43],[false]⟩)
def zcH (x:yB):Bool×yB:=zxL (λa b=>zew a b) x
def zj8:Ab.Spec ty:=zh (cx:=base) (zc (zlZ 43) (zc (ze (vFn 206 (zb4))) zo)) λx=>((zcH x.1).1,⟨[],[some ⟨43,(zcH x.1).2⟩]⟩)
theorem zwc (c:Unit) (x y:(yF)) (h:(zew x y).1=true):zsO (((.sl 49 x:AV ty)::(.sl 49 y:AV ty)::(zb4:VL base (Unit)).enc c).map Arg.pure)=some (true,⟨[.pure (.lit (.int .i64 (zew x y).2))],[]⟩):=by
 rw [<- h]; kernel_rfl
theorem zuJ:SdP 205 zj8:=by
 letI:DecidableEq (ty 43):=inferInstanceAs (DecidableEq (yF))
 exact zbgy (T:=43) zgn rfl Go.Proofs.Tryz.sortSet (λx:(yF)=>(.sl 49 x:AV ty)) (λ_=>rfl) call205 zAs (zb4) (λc=>λa b=>zew a b) zwc
abbrev zxo:=Unit×yB×Int×Int×Unit
abbrev zrv:=yB×Unit
abbrev zxe:=yB
def zDW (t6:yB) (t7:Int) (t8:Int) (out_:yB):Wy zxo zrv zxe:=.i (decide (t8<t7)) (.i (decide (0<=t8)&&decide (t8<Int.ofNat t6.length)) (.bn (zgC (t6.getD t8.toNat default)) λr0=>.i (decide ((out_.length+[r0].length)*24<=zP)) (.h ((),t6,t7,(IntKind.i64.wrap (t8+1)),()) ((out_++[r0]),())) .d) .d) (.k out_)
def zNO (x:zxo) (y:zrv):=zDW x.2.1 x.2.2.1 x.2.2.2.1 y.1
def zqN (n:Nat) (t6:yB) (t7:Int) (t8:Int) (out_:yB):=zA (zNO) default n ((),t6,t7,t8,()) (out_,())
def z4Q (r:zxe):LTree ty:=.done (.exit 0) [.own 88] [.arr 43 r false]
def z6U:LL ty zxo:=za (zdK 88) (za (lSl 43) (za zj (za zj zk)))
def z7J:BL ty zrv:=zdO 43 false (z8)
def z4q (x:zxo) (y:zrv):Nat:=(x.2.1.length+Int.toNat x.2.2.1+Int.toNat x.2.2.2.1+y.1.length+1)
def zO2:=zbY base 22 [(204,znZ),(205,zj8),(206,zsO),(207,zi4),(208,zvP)] [(205,[true,false]),(207,[true,false])] [(3,[(3,.own 43),(6,.keep),(7,.keep),(8,.keep)])] [(3,1,(kpL [3]))] [(3,spW z6U z7J (zNO) default z4Q z4q)] []
theorem z47:zy zO2 (lp (body f170) 0):=zm (id:=3) (hl:=rfl)
def z8o (l:yB):Wy0 zxe:=.bn (zqN (l.length+(Int.ofNat l.length).toNat +Int.toNat 0+0+1) l (Int.ofNat l.length) 0 []) λr4=>.bn (zcH r4) λr3=>.bn (zcp r3) λr2=>.k r2
def zlS (l:yB):=(z8o l).fin default
def z4M (r:zxe):ARes ty:=⟨[.own 43 r],[]⟩
def z9P:AL base zrv:=zc (ze (vSl 43)) zo
def zAX:=zh z9P λx=>((zlS x.1).1,z4M (zlS x.1).2)
theorem zGF:SdP 170 zAX:=
 sT (cx':=zO2) (zi ⟨zuN,zuJ,zAs,zsf,zDi,trivial⟩) call170 func170 (lOK (aC z47 aN)) (sg:=⟨[.own 43],[]⟩)
abbrev zgs:=yF×Unit×Int×Int×Unit
def zig (s:yF) (t7:Int) (t8:Int) (v:RowID):Wy zgs (RowID×Unit) (Int⊕Unit):=.i (decide (t8<t7)) (.i (decide (0<=t8)&&decide (t8<Int.ofNat s.length)) (.i (v.Table==(s.getD t8.toNat default).Table&&(v.Seq==(s.getD t8.toNat default).Seq&&true)) (.k (.inl t8)) (.h (s,(),t7,(IntKind.i64.wrap (t8+1)),()) (v,()))) .d) (.k (.inr ()))
def znr (x:zgs) (y:RowID×Unit):=zig x.1 x.2.2.1 x.2.2.2.1 y.1
def zdW (n:Nat) (s:yF) (t7:Int) (t8:Int) (v:RowID):=zA (znr) (.inl default) n (s,(),t7,t8,()) (v,())
def zBb:LL ty zgs:=za (lSl 49) (za (zeb 76 0) (za zj (za zj zk)))
def zA5:BL ty (RowID×Unit):=zf8 (zeR (λx=>(⟨x.1,x.2.1⟩:RowID)) (λx=>(x.Table,x.Seq,())) (λ_=>rfl) (za (zB .i64) (za (zB .i64) zk))) false (z8)
def zzW (x:zgs) (y:RowID×Unit):Nat:=(x.1.length+Int.toNat x.2.2.1+Int.toNat x.2.2.2.1+1)
def zna:=zbY base 19 [] [] [(2,(kpL [0,3,7,8]))] [(2,1,[]),(2,0,(kpL [4]))] [(2,spW zBb zA5 (znr) (.inl default) zsU zzW)] []
theorem zz8:zy zna (lp (body f261) 0):=zm (id:=2) (hl:=rfl)
def zBp (s:yF) (v:RowID):Wy0 (Int):=.bn (zdW (s.length+(Int.ofNat s.length).toNat +Int.toNat 0+1) s (Int.ofNat s.length) 0 v) λr0=>.i (isL r0) (.k (getL r0)) (.k (-1:Int))
def zds (s:yF) (v:RowID):=(zBp s v).fin default
def zBT:AL base (yF×RowID×Unit):=zc (ze (vSl 49)) (zc (ze (zcy 49)) zo)
def zml:=zh zBT λx=>((zds x.1 x.2.1).1,zRZ (zds x.1 x.2.1).2)
theorem zye:SdP 261 zml:=
 sT (cx':=zna) (zi trivial) call261 func261 (lOK (aC zz8 aN))
def zyt:=zbt base 9 [(261,zml)]
def zzb (s:yF) (v:RowID):Wy0 (Bool):=.bn (zds s v) λr0=>.k (decide (r0≥0))
def zcX (s:yF) (v:RowID):=(zzb s v).fin default
def zkZ:=zh zBT λx=>((zcX x.1 x.2.1).1,zZL (zcX x.1 x.2.1).2)
theorem zww:SdP 239 zkZ:=
 sT (cx':=zyt) (zi ⟨zye,trivial⟩) call239 func239 (lOK aN)
def z0y:=zbt base 7 [(239,zkZ)]
def z48 (id:RowID) (p1:yF):Wy0 (Bool):=.bn (zcX p1 id) λr0=>.k r0
def znT (id:RowID) (p1:yF):=(z48 id p1).fin default
def z4r:AL base (RowID×(yF×Unit)×Unit):=zc (ze (zcy 49)) (zc (ze (zuA (zdz (vSl 49) zb4))) zo)
def zpQ:=zh z4r λx=>((znT x.1 x.2.1.1).1,zZL (znT x.1 x.2.1.1).2)
theorem zwn:SdP 238 zpQ:=
 sT (cx':=z0y) (zi ⟨zww,trivial⟩) call238 func238 (lOK aN)
abbrev ze2:=yF×((yF×Unit)×Unit)×Int×Int×Unit
def zgy (s:yF) (f:yF) (t7:Int) (t8:Int):Wy ze2 Unit (Int⊕Unit):=.i (decide (t8<t7)) (.i (decide (0<=t8)&&decide (t8<Int.ofNat s.length)) (.bn (znT (s.getD t8.toNat default) f) λr0=>.i (r0) (.k (.inl t8)) (.h (s,((f,()),()),t7,(IntKind.i64.wrap (t8+1)),()) ())) .d) (.k (.inr ()))
def zk3 (x:ze2) (y:Unit):=zgy x.1 x.2.1.1.1 x.2.2.1 x.2.2.2.1
def zdd (n:Nat) (s:yF) (f:yF) (t7:Int) (t8:Int):=zA (zk3) (.inl default) n (s,((f,()),()),t7,t8,()) ()
def zxR:LL ty ze2:=za (lSl 49) (za (lFn 238 (za (znk (za (lSl 49) zk) 0) zk)) (za zj (za zj zk)))
def zwC (x:ze2) (y:Unit):Nat:=(x.1.length+x.2.1.1.1.length+Int.toNat x.2.2.1+Int.toNat x.2.2.2.1+1)
def zlL:=zbY base 19 [(238,zpQ)] [] [(2,(kpL [0,1,7,8]))] [(2,1,[]),(2,0,(kpL [4]))] [(2,spW zxR zbc9 (zk3) (.inl default) zsU zwC)] []
theorem zwF:zy zlL (lp (body f260) 0):=zm (id:=2) (hl:=rfl)
def zyp (s:yF) (f:yF):Wy0 (Int):=.bn (zdd (s.length+f.length+(Int.ofNat s.length).toNat +Int.toNat 0+1) s f (Int.ofNat s.length) 0) λr2=>.i (isL r2) (.k (getL r2)) (.k (-1:Int))
def zcm (s:yF) (f:yF):=(zyp s f).fin default
def zyT:AL base (yF×((yF×Unit)×Unit)×Unit):=zc (ze (vSl 49)) (zc (ze (vFn 238 (zdz (zuA (zdz (vSl 49) zb4)) zb4))) zo)
def zky:=zh zyT λx=>((zcm x.1 x.2.1.1.1).1,zRZ (zcm x.1 x.2.1.1.1).2)
theorem zu5:SdP 260 zky:=
 sT (cx':=zlL) (zi ⟨zwn,trivial⟩) call260 func260 (lOK (aC zwF aN))
abbrev zeQ:=Unit×((yF×Unit)×Unit)×Int×Int×Unit
abbrev zeS:=yF×Unit
abbrev zmM:=Int×yF
def zf7 (del:yF) (i:Int) (j:Int) (s:yF):Wy zeQ zeS zmM:=.i (decide (j<Int.ofNat s.length)) (.i (decide (0<=j)&&decide (j<Int.ofNat s.length)) (.bn (znT (s.getD j.toNat default) del) λr0=>.i (!r0) (.i (decide (0<=i)&&decide (i<Int.ofNat s.length)) (.i (decide (i.toNat<s.length)) (.h ((),((del,()),()),(IntKind.i64.wrap (i+1)),(IntKind.i64.wrap (j+1)),()) ((s.set i.toNat (s.getD j.toNat default)),())) .d) .d) (.h ((),((del,()),()),i,(IntKind.i64.wrap (j+1)),()) (s,()))) .d) (.k (i,s))
def zkX (x:zeQ) (y:zeS):=zf7 x.2.1.1.1 x.2.2.1 x.2.2.2.1 y.1
def zc8 (n:Nat) (del:yF) (i:Int) (j:Int) (s:yF):=zA (zkX) default n ((),((del,()),()),i,j,()) (s,())
def zwd (r:zmM):LTree ty:=.done (.exit 0) [.own 168,.lit (.int .i64 r.1)] [.arr 49 r.2 false]
def zwD:LL ty zeQ:=za (zdK 168) (za (lFn 238 (za (znk (za (lSl 49) zk) 0) zk)) (za zj (za zj zk)))
def zwT:BL ty zeS:=zdO 49 false (z8)
def zwg (x:zeQ) (y:zeS):Nat:=(x.2.1.1.1.length+Int.toNat x.2.2.1+Int.toNat x.2.2.2.1+y.1.length+1)
def zkW:=zbY base 42 [(238,zpQ),(260,zky)] [] [(5,(kpL [0,1,5,6]))] [(5,1,(kpL [0,5]))] [(5,spW zwD zwT (zkX) default zwd zwg)] []
theorem zv1:zy zkW (lp (body f237) 0):=zm (id:=5) (hl:=rfl)
def zxO (s:yF) (del:yF):Wy0 (yF):=.bn (zcm s del) λr3=>.i (r3==(-1:Int)) (.k s) (.bn (zc8 (del.length+r3.toNat +(IntKind.i64.wrap (r3+1)).toNat +s.length+1) del r3 (IntKind.i64.wrap (r3+1)) s) λr2=>.i (decide (0<=r2.1)&&decide (r2.1<=Int.ofNat r2.2.length)&&decide (Int.ofNat r2.2.length<=Int.ofNat r2.2.length)) (.i (decide (r2.1.toNat +((Int.ofNat r2.2.length).toNat - r2.1.toNat)<=r2.2.length)) (.i (decide ((0:Int)<=(0:Int))&&decide (0<=r2.1)&&decide (r2.1<=Int.ofNat (List.take r2.1.toNat r2.2++List.replicate ((Int.ofNat r2.2.length).toNat - r2.1.toNat) (RowID.mk 0 0)++List.drop (r2.1.toNat +((Int.ofNat r2.2.length).toNat - r2.1.toNat)) r2.2).length)) (.k (List.take (r2.1.toNat - Int.toNat 0) (List.take r2.1.toNat r2.2++List.replicate ((Int.ofNat r2.2.length).toNat - r2.1.toNat) (RowID.mk 0 0)++List.drop (r2.1.toNat +((Int.ofNat r2.2.length).toNat - r2.1.toNat)) r2.2))) .d) .d) .d)
def zcG (s:yF) (del:yF):=(zxO s del).fin default
def zx5:AL base (yF×((yF×Unit)×Unit)×Unit):=zc (zlZ 49) (zc (ze (vFn 238 (zdz (zuA (zdz (vSl 49) zb4)) zb4))) zo)
def zj9:=zh zx5 λx=>((zcG x.1 x.2.1.1.1).1,zyv (zcG x.1 x.2.1.1.1).2)
theorem zuI:SdP 237 zj9:=
 sT (cx':=zkW) (zi ⟨zwn,zu5,trivial⟩) call237 func237 (lOK (aC zv1 aN)) (sg:=⟨[.own 49],[false]⟩)
def z7X:=zbY base 11 [(204,znZ),(237,zj9),(238,zpQ)] [(237,[true,false])] [] [] [] []
def zbbW (a:yF) (b:yF):Wy0 (yF):=.bn (zgC a) λr1=>.bn (zcG r1 b) λr0=>.k r0
def zwb (a:yF) (b:yF):=(zbbW a b).fin default
def zLA:=zh zBo λx=>((zwb x.1 x.2.1).1,zXj (zwb x.1 x.2.1).2)
theorem z14:SdP 210 zLA:=
 sT (cx':=z7X) (zi ⟨zuN,zuI,zwn,trivial⟩) call210 func210 (lOK aN) (sg:=⟨[.own 49],[]⟩)
def z6O:=zbt base 10 [(210,zLA)]
def z8e (a:yF) (b:yF):Wy0 (Bool):=.bn (zwb a b) λr0=>.k (Int.ofNat r0.length==0)
def ztc (a:yF) (b:yF):=(z8e a b).fin default
def zJK:=zh zBo λx=>((ztc x.1 x.2.1).1,zZL (ztc x.1 x.2.1).2)
theorem zZA:SdP 172 zJK:=
 sT (cx':=z6O) (zi ⟨z14,trivial⟩) call172 func172 (lOK aN)
def zVv:=zbt base 17 [(172,zJK)]
def zYY (k:Int) (p1:Int) (p2:yB) (p3:yF):Wy0 (Bool):=.i (k != p1) (.i (decide (0<=k)&&decide (k<Int.ofNat p2.length)) (.bn (ztc (p2.getD k.toNat default) p3) λr0=>.k r0) .d) (.k false)
def zoO (k:Int) (p1:Int) (p2:yB) (p3:yF):=(zYY k p1 p2 p3).fin default
def zY4:AL base (Int×(Int×Unit)×(yB×Unit)×(yF×Unit)×Unit):=zc (ze zf9) (zc (ze (zuA (zdz zf9 zb4))) (zc (ze (zuA (zdz (vSl 43) zb4))) (zc (ze (zuA (zdz (vSl 49) zb4))) zo)))
def zm2:=zh zY4 λx=>((zoO x.1 x.2.1.1 x.2.2.1.1 x.2.2.2.1.1).1,zZL (zoO x.1 x.2.1.1 x.2.2.1.1 x.2.2.2.1.1).2)
theorem zsF:SdP 171 zm2:=
 sT (cx':=zVv) (zi ⟨zZA,trivial⟩) call171 func171 (lOK aN)
abbrev zvd:=Unit×Int×Int×Unit
abbrev zvm:=List Int×Unit
def zCu (t8:Int) (t9:Int) (out_:List Int):Wy zvd zvm (List Int):=.i (decide (t9<t8)) (.i (decide (0<=t9)&&decide (t9<Int.ofNat out_.length)) (.i (decide (t9.toNat<out_.length)) (.h ((),t8,(IntKind.i64.wrap (t9+1)),()) ((out_.set t9.toNat t9),())) .d) .d) (.k out_)
def zLV (x:zvd) (y:zvm):=zCu x.2.1 x.2.2.1 y.1
def zo5 (n:Nat) (t8:Int) (t9:Int) (out_:List Int):=zA (zLV) default n ((),t8,t9,()) (out_,())
def z0l (r:List Int):LTree ty:=.done (.exit 0) [.own 72] [.arr 3 r false]
def z5b:LL ty zvd:=za (zdK 72) (za zj (za zj zk))
def z4k:BL ty zvm:=zdO 3 false (z8)
def z0H (x:zvd) (y:zvm):Nat:=(Int.toNat x.2.1+Int.toNat x.2.2.1+y.1.length+1)
def zLS:=zbY base 18 [] [] [(3,(kpL [3,8,9]))] [(3,1,(kpL [3]))] [(3,spW z5b z4k (zLV) default z0l z0H)] []
theorem z0W:zy zLS (lp (body f174) 0):=zm (id:=3) (hl:=rfl)
def z6Z (n_:Int):Wy0 (List Int):=.i (decide (0<=n_)&&decide (n_<=n_)&&decide (n_*Int.ofNat 8<=Int.ofNat zP)&&decide (n_<=Int.ofNat zP)) (.bn (zo5 ((Int.ofNat (List.replicate n_.toNat (0:Int)).length).toNat +Int.toNat 0+(List.replicate n_.toNat (0:Int)).length+1) (Int.ofNat (List.replicate n_.toNat (0:Int)).length) 0 (List.replicate n_.toNat (0:Int))) λr0=>.k r0) .d
def zvQ (n_:Int):=(z6Z n_).fin default
def z1m (r:List Int):ARes ty:=⟨[.own 3 r],[]⟩
def zGQ:=zh z4Y λx=>((zvQ x.1).1,z1m (zvQ x.1).2)
theorem zXi:SdP 174 zGQ:=
 sT (cx':=zLS) (zi trivial) call174 func174 (lOK (aC z0W aN)) (sg:=⟨[.own 3],[]⟩)
abbrev zj6:=List Int×((Int×Unit)×(yB×Unit)×(yF×Unit)×Unit)×Int×Int×Unit
def zmB (s:List Int) (f_0:Int) (f_1:yB) (f_2:yF) (t7:Int) (t8:Int):Wy zj6 Unit (Int⊕Unit):=.i (decide (t8<t7)) (.i (decide (0<=t8)&&decide (t8<Int.ofNat s.length)) (.bn (zoO (s.getD t8.toNat default) f_0 f_1 f_2) λr0=>.i (r0) (.k (.inl t8)) (.h (s,((f_0,()),(f_1,()),(f_2,()),()),t7,(IntKind.i64.wrap (t8+1)),()) ())) .d) (.k (.inr ()))
def zvM (x:zj6) (y:Unit):=zmB x.1 x.2.1.1.1 x.2.1.2.1.1 x.2.1.2.2.1.1 x.2.2.1 x.2.2.2.1
def zf1 (n:Nat) (s:List Int) (f_0:Int) (f_1:yB) (f_2:yF) (t7:Int) (t8:Int):=zA (zvM) (.inl default) n (s,((f_0,()),(f_1,()),(f_2,()),()),t7,t8,()) ()
def zHa:LL ty zj6:=za (lSl 3) (za (lFn 171 (za (znk (za zj zk) 0) (za (znk (za (lSl 43) zk) 0) (za (znk (za (lSl 49) zk) 0) zk)))) (za zj (za zj zk)))
def zGn (x:zj6) (y:Unit):Nat:=(x.1.length+Int.toNat x.2.1.1.1+x.2.1.2.1.1.length+x.2.1.2.2.1.1.length+Int.toNat x.2.2.1+Int.toNat x.2.2.2.1+1)
def zwv:=zbY base 19 [(171,zm2)] [] [(2,(kpL [0,1,7,8]))] [(2,1,[]),(2,0,(kpL [4]))] [(2,spW zHa zbc9 (zvM) (.inl default) zsU zGn)] []
theorem zGt:zy zwv (lp (body f211) 0):=zm (id:=2) (hl:=rfl)
def zIC (s:List Int) (f_0:Int) (f_1:yB) (f_2:yF):Wy0 (Int):=.bn (zf1 (s.length+f_0.toNat +f_1.length+f_2.length+(Int.ofNat s.length).toNat +Int.toNat 0+1) s f_0 f_1 f_2 (Int.ofNat s.length) 0) λr2=>.i (isL r2) (.k (getL r2)) (.k (-1:Int))
def zfs (s:List Int) (f_0:Int) (f_1:yB) (f_2:yF):=(zIC s f_0 f_1 f_2).fin default
def zJv:AL base (List Int×((Int×Unit)×(yB×Unit)×(yF×Unit)×Unit)×Unit):=zc (ze (vSl 3)) (zc (ze (vFn 171 (zdz (zuA (zdz zf9 zb4)) (zdz (zuA (zdz (vSl 43) zb4)) (zdz (zuA (zdz (vSl 49) zb4)) zb4))))) zo)
def ztG:=zh zJv λx=>((zfs x.1 x.2.1.1.1 x.2.1.2.1.1 x.2.1.2.2.1.1).1,zRZ (zfs x.1 x.2.1.1.1 x.2.1.2.1.1 x.2.1.2.2.1.1).2)
theorem zEZ:SdP 211 ztG:=
 sT (cx':=zwv) (zi ⟨zsF,trivial⟩) call211 func211 (lOK (aC zGt aN))
def zE5:=zbt base 9 [(171,zm2),(211,ztG)]
def zFK (s:List Int) (f_0:Int) (f_1:yB) (f_2:yF):Wy0 (Bool):=.bn (zfs s f_0 f_1 f_2) λr0=>.k (decide (r0≥0))
def zfZ (s:List Int) (f_0:Int) (f_1:yB) (f_2:yF):=(zFK s f_0 f_1 f_2).fin default
def zp8:=zh zJv λx=>((zfZ x.1 x.2.1.1.1 x.2.1.2.1.1 x.2.1.2.2.1.1).1,zZL (zfZ x.1 x.2.1.1.1 x.2.1.2.1.1 x.2.1.2.2.1.1).2)
theorem zCx:SdP 173 zp8:=
 sT (cx':=zE5) (zi ⟨zsF,zEZ,trivial⟩) call173 func173 (lOK aN)
abbrev zvv:=Unit×Unit×Unit×Int×Int×Unit
abbrev zvs:=(Unit×Unit)×yB×yB×Unit
abbrev zvi:=yB
def zCD (t11:Int) (t12:Int) (out_:yB) (t10:yB):Wy zvv zvs zvi:=.i (decide (t12<t11)) (.i (decide (0<=t12)&&decide (t12<Int.ofNat t10.length)) (.bn (zvQ (Int.ofNat t10.length)) λr1=>.bn (zfZ r1 t12 t10 (t10.getD t12.toNat default)) λr0=>.i (!r0) (.i (decide ((out_.length+[t10.getD t12.toNat default].length)*24<=zP)) (.h ((),(),(),t11,(IntKind.i64.wrap (t12+1)),()) (((),()),(out_++[t10.getD t12.toNat default]),t10,())) .d) (.h ((),(),(),t11,(IntKind.i64.wrap (t12+1)),()) (((),()),out_,t10,()))) .d) (.k out_)
def zLW (x:zvv) (y:zvs):=zCD x.2.2.2.1 x.2.2.2.2.1 y.2.1 y.2.2.1
def zo0 (n:Nat) (t11:Int) (t12:Int) (out_:yB) (t10:yB):=zA (zLW) default n ((),(),(),t11,t12,()) (((),()),out_,t10,())
def z17 (r:zvi):LTree ty:=.done (.exit 0) [.own 120] [.arr 43 r false]
def z3F:LL ty zvv:=za (zeb 120 0) (za (zdK 121) (za (zdK 122) (za zj (za zj zk))))
def z3O:BL ty zvs:=zf8 (za (zdK 122) zk) false (zdO 43 false (zdO 43 false (z8)))
def z0D (x:zvv) (y:zvs):Nat:=(Int.toNat x.2.2.2.1+Int.toNat x.2.2.2.2.1+y.2.1.length+y.2.2.1.length+1)
def zLE:=zbY base 30 [(170,zAX),(171,zm2),(173,zp8),(174,zGQ)] [] [(4,[(3,.keep),(4,.own 43),(10,.keep),(11,.keep),(12,.keep)])] [(4,1,(kpL [4]))] [(4,spW z3F z3O (zLW) default z17 z0D)] []
theorem z2D:zy zLE (lp (body f143) 0):=zm (id:=4) (hl:=rfl)
def z7H (l:yB):Wy0 zvi:=.bn (zlS l) λr5=>.bn (zo0 ((Int.ofNat r5.length).toNat +Int.toNat 0+0+r5.length+1) (Int.ofNat r5.length) 0 [] r5) λr4=>.k r4
def zg0 (l:yB):=(z7H l).fin default
def zZ7 (r:zvi):ARes ty:=⟨[.own 43 r],[]⟩
def z58:AL base (yB×Unit):=zc (ze (vSl 43)) zo
def zGN:=zh z58 λx=>((zg0 x.1).1,zZ7 (zg0 x.1).2)
theorem zVs:SdP 143 zGN:=
 sT (cx':=zLE) (zi ⟨zGF,zsF,zCx,zXi,trivial⟩) call143 func143 (lOK (aC z2D aN)) (sg:=⟨[.own 43],[]⟩)
def zbaf:=zbt base 10 [(204,znZ),(212,zhe)]
def zbbb (a:yF) (b:yF):Wy0 (yF):=.bn (zcl a) λr1=>.i (decide ((r1.length+b.length)*16<=zP)) (.bn (zgC (r1++b)) λr0=>.k r0) .d
def zBd (a:yF) (b:yF):=(zbbb a b).fin default
def zLH:=zh zBo λx=>((zBd x.1 x.2.1).1,zXj (zBd x.1 x.2.1).2)
theorem z0C:SdP 175 zLH:=
 sT (cx':=zbaf) (zi ⟨zuN,zlV,trivial⟩) call175 func175 (lOK aN) (sg:=⟨[.own 49],[]⟩)
abbrev zvt:=yB×Unit×yF×yB×Int×Int×yB×Int×Int×Unit
abbrev zg6:=yB×Unit
abbrev zLC:=yB×yB×Int×Int×yB
abbrev zvp:=yB×Unit×yB×Int×Int×Unit
abbrev zvy:=yB
def zCK (b:yB) (x_:yF) (t10:yB) (t11:Int) (t12:Int) (t16:yB) (t17:Int) (t18:Int) (out_:yB):Wy zvt zg6 zLC:=.i (decide (t18<t17)) (.i (decide (0<=t18)&&decide (t18<Int.ofNat t16.length)) (.bn (zBd x_ (t16.getD t18.toNat default)) λr2=>.i (decide ((out_.length+[r2].length)*24<=zP)) (.h (b,(),x_,t10,t11,t12,t16,t17,(IntKind.i64.wrap (t18+1)),()) ((out_++[r2]),())) .d) .d) (.k (b,t10,t11,t12,out_))
def zLU (x:zvt) (y:zg6):=zCK x.1 x.2.2.1 x.2.2.2.1 x.2.2.2.2.1 x.2.2.2.2.2.1 x.2.2.2.2.2.2.1 x.2.2.2.2.2.2.2.1 x.2.2.2.2.2.2.2.2.1 y.1
def zvu (n:Nat) (b:yB) (x_:yF) (t10:yB) (t11:Int) (t12:Int) (t16:yB) (t17:Int) (t18:Int) (out_:yB):=zA (zLU) default n (b,(),x_,t10,t11,t12,t16,t17,t18,()) (out_,())
def z1y (r:zLC):LTree ty:=.done (.exit 2) [.sl 43 r.1,.own 128,.sl 43 r.2.1,.lit (.int .i64 r.2.2.1),.lit (.int .i64 r.2.2.2.1)] [.arr 43 r.2.2.2.2 false]
def z4R:LL ty zvt:=za (lSl 43) (za (zdK 128) (za (lSl 49) (za (lSl 43) (za zj (za zj (za (lSl 43) (za zj (za zj zk))))))))
def z3T:BL ty zg6:=zdO 43 false (z8)
def zCH (b:yB) (t10:yB) (t11:Int) (t12:Int) (out_:yB):Wy zvp zg6 zvy:=.i (decide (t12<t11)) (.i (decide (0<=t12)&&decide (t12<Int.ofNat t10.length)) (.bn (zvu (b.length+List.length (t10.getD t12.toNat default)+t10.length+t11.toNat +t12.toNat +b.length+(Int.ofNat b.length).toNat +Int.toNat 0+out_.length+1) b (t10.getD t12.toNat default) t10 t11 t12 b (Int.ofNat b.length) 0 out_) λr4=>.h ((r4.1),(),(r4.2.1),(r4.2.2.1),(IntKind.i64.wrap (r4.2.2.2.1+1)),()) ((r4.2.2.2.2),())) .d) (.k out_)
def zLM (x:zvp) (y:zg6):=zCH x.1 x.2.2.1 x.2.2.2.1 x.2.2.2.2.1 y.1
def zo3 (n:Nat) (b:yB) (t10:yB) (t11:Int) (t12:Int) (out_:yB):=zA (zLM) default n (b,(),t10,t11,t12,()) (out_,())
def z0J (r:zvy):LTree ty:=.done (.exit 0) [.own 128] [.arr 43 r false]
def z32:LL ty zvp:=za (lSl 43) (za (zdK 128) (za (lSl 43) (za zj (za zj zk))))
def z2S (x:zvt) (y:zg6):Nat:=(x.1.length+x.2.2.1.length+x.2.2.2.1.length+Int.toNat x.2.2.2.2.1+Int.toNat x.2.2.2.2.2.1+x.2.2.2.2.2.2.1.length+Int.toNat x.2.2.2.2.2.2.2.1+Int.toNat x.2.2.2.2.2.2.2.2.1+y.1.length+1)
def zZ8 (x:zvp) (y:zg6):Nat:=(x.1.length+x.2.2.1.length+Int.toNat x.2.2.2.1+Int.toNat x.2.2.2.2.1+y.1.length+1)
def zCI:=zbY base 32 [(170,zAX),(175,zLH)] [] [(3,[(1,.keep),(5,.own 43),(10,.keep),(11,.keep),(12,.keep)]),(6,[(1,.keep),(5,.own 43),(7,.keep),(10,.keep),(11,.keep),(12,.keep),(16,.keep),(17,.keep),(18,.keep)])] [(3,1,(kpL [5])),(6,3,(kpL [1,5,10,11,12]))] [(6,spW z4R z3T (zLU) default z1y z2S),(3,spW z32 z3T (zLM) default z0J zZ8)] []
theorem z27:zy zCI (lp (body f144) 1):=zm (id:=6) (hl:=rfl)
theorem z1r:zy zCI (lp (body f144) 0):=zm (id:=3) (hl:=rfl)
def z6m (a:yB) (b:yB):Wy0 zvy:=.bn (zo3 (b.length+a.length+(Int.ofNat a.length).toNat +Int.toNat 0+0+1) b a (Int.ofNat a.length) 0 []) λr7=>.bn (zlS r7) λr6=>.k r6
def zmF (a:yB) (b:yB):=(z6m a b).fin default
def z1T (r:zvy):ARes ty:=⟨[.own 43 r],[]⟩
def z6d:AL base (yB×yB×Unit):=zc (ze (vSl 43)) (zc (ze (vSl 43)) zo)
def zG3:=zh z6d λx=>((zmF x.1 x.2.1).1,z1T (zmF x.1 x.2.1).2)
theorem zWm:SdP 144 zG3:=
 sT (cx':=zCI) (zi ⟨zGF,z0C,trivial⟩) call144 func144 (lOK (aC z1r (aC z27 aN))) (sg:=⟨[.own 43],[]⟩)
abbrev zl9:=Unit×Unit×yC×Int×Int×yD×Int×Int×Unit
abbrev zmf:=yB×yB×Unit
abbrev zCj:=yC×Int×Int×yB×yB
abbrev zmg:=Unit×yC×Int×Int×Unit
abbrev zmh:=yB×Unit
abbrev zs7:=yB
def zhr (zQ:yC->Bool×yB) (t10:yC) (t11:Int) (t12:Int) (t19:yD) (t20:Int) (t21:Int) (all:yB) (sets:yB):Wy zl9 zmf zCj:=.i (decide (t21<t20)) (.i (decide (0<=t21)&&decide (t21<Int.ofNat t19.length)) (.i ((t19.getD t21.toNat default).At.Kind==2) (.i (decide ((0:Int)<=(0:Int))&&decide (0<Int.ofNat (t19.getD t21.toNat default).At.Ag.length)) (.bn (zQ ((t19.getD t21.toNat default).At.Ag.getD (Int.toNat 0) default)) λr12=>.bn (zmF sets r12) λr11=>.bn (zg0 r11) λr10=>.h ((),(),t10,t11,t12,t19,t20,(IntKind.i64.wrap (t21+1)),()) (all,(r10),())) .d) (.bn (zmF sets [[(t19.getD t21.toNat default).At.Row]]) λr14=>.bn (zg0 r14) λr13=>.h ((),(),t10,t11,t12,t19,t20,(IntKind.i64.wrap (t21+1)),()) (all,(r13),()))) .d) (.k (t10,t11,t12,all,sets))
def zpB (zQ:yC->Bool×yB) (x:zl9) (y:zmf):=zhr zQ x.2.2.1 x.2.2.2.1 x.2.2.2.2.1 x.2.2.2.2.2.1 x.2.2.2.2.2.2.1 x.2.2.2.2.2.2.2.1 y.1 y.2.1
def zpR (zQ:yC->Bool×yB) (n:Nat) (t10:yC) (t11:Int) (t12:Int) (t19:yD) (t20:Int) (t21:Int) (all:yB) (sets:yB):=zA (zpB zQ) default n ((),(),t10,t11,t12,t19,t20,t21,()) (all,sets,())
def zKr (r:zCj):LTree ty:=.done (.exit 2) [.own 204,.own 205,.sl 28 r.1,.lit (.int .i64 r.2.1),.lit (.int .i64 r.2.2.1)] [.arr 43 r.2.2.2.1 false,.arr 43 r.2.2.2.2 false]
def zMs:LL ty zl9:=za (zdK 204) (za (zdK 205) (za (lSl 28) (za zj (za zj (za (lSl 69) (za zj (za zj zk)))))))
def zM2:BL ty zmf:=zdO 43 false (zdO 43 false (z8))
def zhs (zQ:yC->Bool×yB) (t10:yC) (t11:Int) (t12:Int) (all:yB):Wy zmg zmh zs7:=.i (decide (t12<t11)) (.i (decide (0<=t12)&&decide (t12<Int.ofNat t10.length)) (.bn (zpR zQ (t10.length+t11.toNat +t12.toNat +(t10.getD t12.toNat default).Fs.length+(Int.ofNat (t10.getD t12.toNat default).Fs.length).toNat +Int.toNat 0+all.length+1+1000) t10 t11 t12 (t10.getD t12.toNat default).Fs (Int.ofNat (t10.getD t12.toNat default).Fs.length) 0 all [[]]) λr20=>.i (decide ((r20.2.2.2.1.length+r20.2.2.2.2.length)*24<=zP)) (.h ((),(r20.1),(r20.2.1),(IntKind.i64.wrap (r20.2.2.1+1)),()) ((r20.2.2.2.1++r20.2.2.2.2),())) .d) .d) (.k all)
def zpw (zQ:yC->Bool×yB) (x:zmg) (y:zmh):=zhs zQ x.2.1 x.2.2.1 x.2.2.2.1 y.1
def zzM (zQ:yC->Bool×yB) (n:Nat) (t10:yC) (t11:Int) (t12:Int) (all:yB):=zA (zpw zQ) default n ((),t10,t11,t12,()) (all,())
def zLj (r:zs7):LTree ty:=.done (.exit 0) [.own 204] [.arr 43 r false]
def zMB:LL ty zmg:=za (zdK 204) (za (lSl 28) (za zj (za zj zk)))
def zMb:BL ty zmh:=zdO 43 false (z8)
def zKW (x:zl9) (y:zmf):Nat:=(x.2.2.1.length+Int.toNat x.2.2.2.1+Int.toNat x.2.2.2.2.1+x.2.2.2.2.2.1.length+Int.toNat x.2.2.2.2.2.2.1+Int.toNat x.2.2.2.2.2.2.2.1+y.1.length+y.2.1.length+1000)
def zKR (x:zmg) (y:zmh):Nat:=(x.2.1.length+Int.toNat x.2.2.1+Int.toNat x.2.2.2.1+y.1.length+1000)
def zpJ (zQ:yC->Bool×yB):=zbY base 51 [(74,(zjZ zQ)),(143,zGN),(144,zG3)] [] [(3,[(3,.own 43),(10,.keep),(11,.keep),(12,.keep)]),(7,(kpL [3,6,10,11,12,19,20,21]))] [(3,1,(kpL [3])),(7,3,(kpL [3,6,10,11,12]))] [(7,spW zMs zM2 (zpB zQ) default zKr zKW),(3,spW zMB zMb (zpw zQ) default zLj zKR)] []
theorem zKo (zQ:yC->Bool×yB):zy (zpJ zQ) (lp (body f74) 1):=zm (id:=7) (hl:=rfl)
theorem zLg (zQ:yC->Bool×yB):zy (zpJ zQ) (lp (body f74) 0):=zm (id:=3) (hl:=rfl)
def zAD (zQ:yC->Bool×yB) (a:yC):Wy0 zs7:=.bn (zzM zQ (a.length+(Int.ofNat a.length).toNat +Int.toNat 0+0+1000) a (Int.ofNat a.length) 0 []) λr23=>.bn (zg0 r23) λr22=>.k r22
def zm4 (zQ:yC->Bool×yB) (a:yC):=(zAD zQ a).fin default
theorem zHB (zQ:yC->Bool×yB) (zNM:SdP 74 (zjZ zQ)):SdP 74 (zjZ (zm4 zQ)):=
 sT (cx':=(zpJ zQ)) (zi ⟨zNM,zVs,zWm,trivial⟩) call74 func74 (lOK (aC (zLg zQ) (aC (zKo zQ) aN))) (sg:=⟨[.own 43],[]⟩)
def zYj:Nat->(yC->Bool×yB)
 | 0=>λ_=>(false,default)
 | n+1=>zm4 (zYj n)
def zda (n:Nat):yC->Bool×yB:=zYj n
theorem zMy (n:Nat):zda (n+1)=zm4 (zda n):=rfl
theorem zQ0:∀ n,SdP 74 (zjZ (zda n))
 | 0=>zba call74 (λ_=>rfl)
 | n+1=>by
  have ih:=zQ0 n;exact zHB _ (ih)
def zxt:yC->Bool×yB:=zda 1000
def zzB:Ab.Spec ty:=zjZ zxt
theorem zLt:SdP 74 zzB:=(zQ0 1000)
def zPP:=zbt base 17 [(20,zcE),(73,zzC),(74,zzB)]
def zDd (a:yC):Wy0 (yB×Int):=.bn (zci a) λr2=>.i (!r2) (.k ([],1)) (.bn (zx3 a) λr1=>.i (!r1) (.k ([],13)) (.bn (zxt a) λr0=>.i (decide (Int.ofNat r0.length>512)) (.k ([],6)) (.k (r0,0))))
def zlz (a:yC):=(zDd a).fin default
def zNS (r:yB×Int):ARes ty:=⟨[.own 43 r.1,.pure (.lit (.int .i64 r.2))],[]⟩
def zpl:=zh z0t λx=>((zlz x.1).1,zNS (zlz x.1).2)
theorem zyF:SdP 24 zpl:=
 sT (cx':=zPP) (zi ⟨zcI,zKs,zLt,trivial⟩) call24 func24 (lOK aN) (sg:=⟨[.own 43,.pure],[]⟩)
def zRC (r:yC×Int):ARes ty:=⟨[.own 28 r.1,.pure (.lit (.int .i64 r.2))],[]⟩
def zVX:AL zb5 (yC×((yG×Unit)×Unit)×Unit):=zc (ze (vSl 28)) (zc (ze (vFn 84 (zdz (zuA (zdz (vSl 51) zb4)) zb4))) zo)
def zlH (F:yC->yG->Bool×(yC×Int)):Ab.Spec ty:=zh zVX λx=>((F x.1 x.2.1.1.1).1,zRC (F x.1 x.2.1.1.1).2)
def zOL:AL zb5 (At×((yG×Unit)×Unit)×Unit):=zc (ze (zcy 67)) (zc (ze (vFn 84 (zdz (zuA (zdz (vSl 51) zb4)) zb4))) zo)
def zly (F:At->yG->Bool×(yC×Int)):Ab.Spec ty:=zh zOL λx=>((F x.1 x.2.1.1.1).1,zRC (F x.1 x.2.1.1.1).2)
def zMC (k:Go.Value) (l:List (Go.Value×Int)):Option Int:=zV3 (ty:=ty) (V:=3) k l
def zbok (k:Go.Value) (l:List (Go.Value×Int)):Bool:=zLr (ty:=ty) (V:=3) k l
def zboF (k:Go.Value) (x:Int) (l:List (Go.Value×Int)):List (Go.Value×Int):=zHv (ty:=ty) (V:=3) k x l
def zZz (r:ByteArray):ARes ty:=⟨[.pure (.lit (.string r))],[]⟩
def z43:AL zb5 (yC×Unit):=zc (ze (vSl 28)) zo
def zvh (F:yC->Bool×ByteArray):Ab.Spec ty:=zh z43 λx=>((F x.1).1,zZz (F x.1).2)
def zPD:AL zb5 (At×Unit):=zc (ze (zcy 67)) zo
def zmc (F:At->Bool×ByteArray):Ab.Spec ty:=zh zPD λx=>((F x.1).1,zZz (F x.1).2)
def zKj:AL zb5 (yD×Unit):=zc (ze (vSl 69)) zo
def zgO (F:yD->Bool×ByteArray):Ab.Spec ty:=zh zKj λx=>((F x.1).1,zZz (F x.1).2)
def zPC:=zbt base 2 []
def zSG:Wy0 (List ByteArray):=.k [ByteArray.mk #[(67:UInt8),(79:UInt8),(85:UInt8),(78:UInt8),(84:UInt8)],ByteArray.mk #[(83:UInt8),(85:UInt8),(77:UInt8)],ByteArray.mk #[(77:UInt8),(73:UInt8),(78:UInt8)],ByteArray.mk #[(77:UInt8),(65:UInt8),(88:UInt8)]]
def zcR:Bool×List ByteArray:=(zSG).fin default
def zNE (r:List ByteArray):ARes ty:=⟨[.own 9 r],[]⟩
def zRx:AL base (Unit):=zo
def zzK:=zh zRx λx=>((zcR ).1,zNE (zcR ).2)
theorem zKa:SdP 198 zzK:=
 sT (cx':=zPC) (zi trivial) call198 func198 (lOK aN) (sg:=⟨[.own 9],[]⟩)
def zQr:=zbt base 2 []
def zRv:Wy0 (List ByteArray):=.k [ByteArray.mk #[(61:UInt8)],ByteArray.mk #[(60:UInt8),(62:UInt8)],ByteArray.mk #[(60:UInt8)],ByteArray.mk #[(60:UInt8),(61:UInt8)],ByteArray.mk #[(62:UInt8)],ByteArray.mk #[(62:UInt8),(61:UInt8)]]
def ze4:Bool×List ByteArray:=(zRv).fin default
def zzP:=zh zRx λx=>((ze4 ).1,zNE (ze4 ).2)
theorem zKG:SdP 199 zzP:=
 sT (cx':=zQr) (zi trivial) call199 func199 (lOK aN) (sg:=⟨[.own 9],[]⟩)
def strings_Join (l:List ByteArray) (sep:ByteArray):Bool×ByteArray:=zbd6 l sep
def zvq:Ab.Spec ty:=zh (cx:=zb5) (zc (ze (vSl 9)) (zc (ze zzg) zo)) λx=>((strings_Join x.1 x.2.1).1,⟨[.pure (.lit (.string (strings_Join x.1 x.2.1).2))],[]⟩)
theorem zAo:Sound Tryz.prog zb5 169 zvq:=zbic (T:=9) zPg rfl Go.Proofs.Tryz.lays156 Go.Proofs.Tryz.Builder_Extra_156 call169 (λs:ByteArray=>s) (λ_=>rfl) strings_Join (λl sep=>congrArg (λl=>zbd6 l sep) (List.map_id' (α:=ByteArray) l).symm)
def strconv_Itoa (x:Int):Bool×ByteArray:=z3b x
def zCn:Ab.Spec ty:=zh (cx:=base) (zc (ze (zic .i64)) zo) λx=>((strconv_Itoa x.1).1,⟨[.pure (.lit (.string (strconv_Itoa x.1).2))],[]⟩)
theorem zJm:SdP 168 zCn:=zbiS zgn Go.Proofs.Tryz.laysM171 call168 (λ_ h=>h.1)
def z65:=zbt base 15 [(128,zvn),(168,zCn)]
def z8Z (id:RowID):Wy0 (ByteArray):=.bn (zqS id) λr2=>.i (!r2) (.k (ByteArray.mk #[])) (.bn (strconv_Itoa id.Table) λr1=>.i (decide ((ByteArray.mk #[(116:UInt8)]).size+r1.size<=9223372036854775807)) (.i (decide ((ByteArray.mk #[(116:UInt8)]++r1).size+(ByteArray.mk #[(46:UInt8)]).size<=9223372036854775807)) (.bn (strconv_Itoa id.Seq) λr0=>.i (decide ((ByteArray.mk #[(116:UInt8)]++r1++ByteArray.mk #[(46:UInt8)]).size+r0.size<=9223372036854775807)) (.k (ByteArray.mk #[(116:UInt8)]++r1++ByteArray.mk #[(46:UInt8)]++r0)) .d) .d) .d)
def zKp (id:RowID):=(z8Z id).fin default
def zJw:=zh zbaA λx=>((zKp x.1).1,zZz (zKp x.1).2)
theorem zZp:SdP 195 zJw:=
 sT (cx':=z65) (zi ⟨zBf,zJm,trivial⟩) call195 func195 (lOK aN)
def zo8 (m b:Int):Bool×ByteArray:=zBO m b
def zuu:Ab.Spec ty:=zh (cx:=base) (zc (ze (zic .i64)) (zc (ze (zic .i64)) zo)) λx=>((zo8 x.1 x.2.1).1,⟨[.pure (.lit (.string (zo8 x.1 x.2.1).2))],[]⟩)
theorem zB1:SdP 227 zuu:=z8p zgn Go.Proofs.Tryz.laysM173 call227 (λ_ h=>h.1)
def strings_ReplaceAll (s p q:ByteArray):Bool×ByteArray:=zyW s p q
def zB7:Ab.Spec ty:=zh (cx:=zb5) (zc (ze zzg) (zc (ze zzg) (zc (ze zzg) zo))) λx=>((strings_ReplaceAll x.1 x.2.1 x.2.2.1).1,⟨[.pure (.lit (.string (strings_ReplaceAll x.1 x.2.1 x.2.2.1).2))],[]⟩)
theorem zPs:Sound Tryz.prog zb5 228 zB7:=z7b zPg rfl Go.Proofs.Tryz.lays155 Go.Proofs.Tryz.Builder_Extra_155 call228 (λ_ h=>h.2)
def z8f:=zbt zb5 27 [(164,zxd),(227,zuu),(228,zB7)]
def zba7 (v:Value):Wy0 (ByteArray):=.bn (zup v) λr2=>.i (!r2) (.k (ByteArray.mk #[])) (.i (v.Kind==0) (.bn (zo8 v.Int 10) λr0=>.k r0) (.i (v.Kind==1) (.bn (strings_ReplaceAll v.Text (ByteArray.mk #[(39:UInt8)]) (ByteArray.mk #[(39:UInt8),(39:UInt8)])) λr1=>.i (decide ((ByteArray.mk #[(39:UInt8)]).size+r1.size<=9223372036854775807)) (.i (decide ((ByteArray.mk #[(39:UInt8)]++r1).size+(ByteArray.mk #[(39:UInt8)]).size<=9223372036854775807)) (.k (ByteArray.mk #[(39:UInt8)]++r1++ByteArray.mk #[(39:UInt8)])) .d) .d) (.i (v.Int==1) (.k (ByteArray.mk #[(84:UInt8),(82:UInt8),(85:UInt8),(69:UInt8)])) (.k (ByteArray.mk #[(70:UInt8),(65:UInt8),(76:UInt8),(83:UInt8),(69:UInt8)])))))
def zE6 (v:Value):=(zba7 v).fin default
def zba0:AL zb5 (Value×Unit):=zc (ze (zcy 65)) zo
def zL2:=zh zba0 λx=>((zE6 x.1).1,zZz (zE6 x.1).2)
theorem z2v:Sound Tryz.prog zb5 197 zL2:=
 sU (cx':=z8f) (zi ⟨zCs.nodr,zB1.nodr,zPs,trivial⟩) call197 func197 (lOK aN)
abbrev zlf:=Unit×Unit×yE×Int×Int×Unit
abbrev zld:=At×List ByteArray×Unit
abbrev zAg:=At×List ByteArray
def zJV (zbE:yC->Bool×ByteArray) (t48:yE) (t49:Int) (t50:Int) (x_:At) (items:List ByteArray):Wy zlf zld zAg:=.i (decide (t50<t49)) (.i (decide (0<=t50)&&decide (t50<Int.ofNat t48.length)) (.bn (zE6 (t48.getD t50.toNat default).Value) λr1=>.i (decide (r1.size+(ByteArray.mk #[(58:UInt8),(32:UInt8)]).size<=9223372036854775807)) (.bn (zbE (t48.getD t50.toNat default).Ann) λr0=>.i (decide ((r1++ByteArray.mk #[(58:UInt8),(32:UInt8)]).size+r0.size<=9223372036854775807)) (.i (decide ((items.length+[r1++ByteArray.mk #[(58:UInt8),(32:UInt8)]++r0].length)*16<=zP)) (.h ((),(),t48,t49,(IntKind.i64.wrap (t50+1)),()) (x_,(items++[r1++ByteArray.mk #[(58:UInt8),(32:UInt8)]++r0]),())) .d) .d) .d) .d) (.k (x_,items))
def zw3 (zbE:yC->Bool×ByteArray) (x:zlf) (y:zld):=zJV zbE x.2.2.1 x.2.2.2.1 x.2.2.2.2.1 y.1 y.2.1
def zJa (zbE:yC->Bool×ByteArray) (n:Nat) (t48:yE) (t49:Int) (t50:Int) (x_:At) (items:List ByteArray):=zA (zw3 zbE) default n ((),(),t48,t49,t50,()) (x_,items,())
def zHX (r:zAg):LTree ty:=.done (.exit 1) [.ptr 360 0,.own 361] [.box (base.enc 67 r.1) false,.arr 9 r.2 false]
def zIX:LL ty zlf:=za (zeb 360 0) (za (zdK 361) (za (lSl 100) (za zj (za zj zk))))
def zJO:BL ty zld:=zf8 (zeR (λx=>(⟨x.1,⟨x.2.1,x.2.2.1⟩,x.2.2.2.1,x.2.2.2.2.1,x.2.2.2.2.2.1,x.2.2.2.2.2.2.1,⟨x.2.2.2.2.2.2.2.1,x.2.2.2.2.2.2.2.2.1,x.2.2.2.2.2.2.2.2.2.1⟩⟩:At)) (λx=>(x.Kind,x.Row.Table,x.Row.Seq,x.Ag,x.Func,x.Items,x.Op,x.Bd.Kind,x.Bd.Int,x.Bd.Text,())) (λ_=>rfl) (za (zB .i64) (za (zB .i64) (za (zB .i64) (za (lSl 23) (za (zB .i64) (za (lSl 100) (za (zB .i64) (za (zB .i64) (za (zB .i64) (za zl4 zk))))))))))) false (zdO 9 false (z8))
def zHT (x:zlf) (y:zld):Nat:=(x.2.2.1.length+Int.toNat x.2.2.2.1+Int.toNat x.2.2.2.2.1+y.1.Ag.length+y.1.Items.length+y.2.1.length+1)
def zyR (zbE:yC->Bool×ByteArray):=zbY zb5 90 [(169,zvq),(195,zJw),(196,(zvh zbE)),(197,zL2),(198,zzK),(199,zzP)] [] [(12,[(1,.keep),(3,.own 9),(48,.keep),(49,.keep),(50,.keep)])] [(12,2,(kpL [1,3]))] [(12,spW zIX zJO (zw3 zbE) default zHX zHT)] []
theorem zHf (zbE:yC->Bool×ByteArray):zy (zyR zbE) (lp (body f167) 0):=zm (id:=12) (hl:=rfl)
def zNg (zbE:yC->Bool×ByteArray) (x_:At):Wy0 (ByteArray):=.i (x_.Kind==0) (.bn (zKp x_.Row) λr4=>.k r4) (.i (x_.Kind==1) (.i (decide ((0:Int)<=(0:Int))&&decide (0<Int.ofNat x_.Ag.length)) (.bn (zbE (x_.Ag.getD (Int.toNat 0) default)) λr6=>.i (decide ((ByteArray.mk #[(109:UInt8),(111:UInt8),(110:UInt8),(117:UInt8),(115:UInt8),(91:UInt8)]).size+r6.size<=9223372036854775807)) (.i (decide ((ByteArray.mk #[(109:UInt8),(111:UInt8),(110:UInt8),(117:UInt8),(115:UInt8),(91:UInt8)]++r6).size+(ByteArray.mk #[(44:UInt8),(32:UInt8)]).size<=9223372036854775807)) (.i (decide ((0:Int)<=(1:Int))&&decide (1<Int.ofNat x_.Ag.length)) (.bn (zbE (x_.Ag.getD (Int.toNat 1) default)) λr5=>.i (decide ((ByteArray.mk #[(109:UInt8),(111:UInt8),(110:UInt8),(117:UInt8),(115:UInt8),(91:UInt8)]++r6++ByteArray.mk #[(44:UInt8),(32:UInt8)]).size+r5.size<=9223372036854775807)) (.i (decide ((ByteArray.mk #[(109:UInt8),(111:UInt8),(110:UInt8),(117:UInt8),(115:UInt8),(91:UInt8)]++r6++ByteArray.mk #[(44:UInt8),(32:UInt8)]++r5).size+(ByteArray.mk #[(93:UInt8)]).size<=9223372036854775807)) (.k (ByteArray.mk #[(109:UInt8),(111:UInt8),(110:UInt8),(117:UInt8),(115:UInt8),(91:UInt8)]++r6++ByteArray.mk #[(44:UInt8),(32:UInt8)]++r5++ByteArray.mk #[(93:UInt8)])) .d) .d) .d) .d) .d) .d) (.i (x_.Kind==2) (.i (decide ((0:Int)<=(0:Int))&&decide (0<Int.ofNat x_.Ag.length)) (.bn (zbE (x_.Ag.getD (Int.toNat 0) default)) λr7=>.i (decide ((ByteArray.mk #[(100:UInt8),(101:UInt8),(108:UInt8),(116:UInt8),(97:UInt8),(91:UInt8)]).size+r7.size<=9223372036854775807)) (.i (decide ((ByteArray.mk #[(100:UInt8),(101:UInt8),(108:UInt8),(116:UInt8),(97:UInt8),(91:UInt8)]++r7).size+(ByteArray.mk #[(93:UInt8)]).size<=9223372036854775807)) (.k (ByteArray.mk #[(100:UInt8),(101:UInt8),(108:UInt8),(116:UInt8),(97:UInt8),(91:UInt8)]++r7++ByteArray.mk #[(93:UInt8)])) .d) .d) .d) (.i (x_.Kind==3) (.i (decide ((0:Int)<=(0:Int))&&decide (0<Int.ofNat x_.Ag.length)) (.bn (zbE (x_.Ag.getD (Int.toNat 0) default)) λr8=>.i (decide ((ByteArray.mk #[(97:UInt8),(98:UInt8),(115:UInt8),(101:UInt8),(110:UInt8),(116:UInt8),(91:UInt8)]).size+r8.size<=9223372036854775807)) (.i (decide ((ByteArray.mk #[(97:UInt8),(98:UInt8),(115:UInt8),(101:UInt8),(110:UInt8),(116:UInt8),(91:UInt8)]++r8).size+(ByteArray.mk #[(93:UInt8)]).size<=9223372036854775807)) (.k (ByteArray.mk #[(97:UInt8),(98:UInt8),(115:UInt8),(101:UInt8),(110:UInt8),(116:UInt8),(91:UInt8)]++r8++ByteArray.mk #[(93:UInt8)])) .d) .d) .d) (.bn (zJa zbE (x_.Items.length+(Int.ofNat x_.Items.length).toNat +Int.toNat 0+x_.Ag.length+x_.Items.length+0+1) x_.Items (Int.ofNat x_.Items.length) 0 (At.mk x_.Kind x_.Row x_.Ag x_.Func x_.Items x_.Op x_.Bd) []) λr11=>.i (decide (0<=r11.1.Func)&&decide (r11.1.Func<Int.ofNat zcR.2.length)) (.i (decide ((ByteArray.mk #[(116:UInt8),(101:UInt8),(115:UInt8),(116:UInt8),(91:UInt8)]).size+ByteArray.size (zcR.2.getD r11.1.Func.toNat default)<=9223372036854775807)) (.i (decide ((ByteArray.mk #[(116:UInt8),(101:UInt8),(115:UInt8),(116:UInt8),(91:UInt8)]++zcR.2.getD r11.1.Func.toNat default).size+(ByteArray.mk #[(123:UInt8)]).size<=9223372036854775807)) (.bn (strings_Join r11.2 (ByteArray.mk #[(59:UInt8),(32:UInt8)])) λr10=>.i (decide ((ByteArray.mk #[(116:UInt8),(101:UInt8),(115:UInt8),(116:UInt8),(91:UInt8)]++zcR.2.getD r11.1.Func.toNat default++ByteArray.mk #[(123:UInt8)]).size+r10.size<=9223372036854775807)) (.i (decide ((ByteArray.mk #[(116:UInt8),(101:UInt8),(115:UInt8),(116:UInt8),(91:UInt8)]++zcR.2.getD r11.1.Func.toNat default++ByteArray.mk #[(123:UInt8)]++r10).size+(ByteArray.mk #[(125:UInt8),(32:UInt8)]).size<=9223372036854775807)) (.i (decide (0<=IntKind.i64.wrap (r11.1.Op - 5))&&decide (IntKind.i64.wrap (r11.1.Op - 5)<Int.ofNat ze4.2.length)) (.i (decide ((ByteArray.mk #[(116:UInt8),(101:UInt8),(115:UInt8),(116:UInt8),(91:UInt8)]++zcR.2.getD r11.1.Func.toNat default++ByteArray.mk #[(123:UInt8)]++r10++ByteArray.mk #[(125:UInt8),(32:UInt8)]).size+ByteArray.size (ze4.2.getD (IntKind.i64.wrap (r11.1.Op - 5)).toNat default)<=9223372036854775807)) (.i (decide ((ByteArray.mk #[(116:UInt8),(101:UInt8),(115:UInt8),(116:UInt8),(91:UInt8)]++zcR.2.getD r11.1.Func.toNat default++ByteArray.mk #[(123:UInt8)]++r10++ByteArray.mk #[(125:UInt8),(32:UInt8)]++ze4.2.getD (IntKind.i64.wrap (r11.1.Op - 5)).toNat default).size+(ByteArray.mk #[(32:UInt8)]).size<=9223372036854775807)) (.bn (zE6 r11.1.Bd) λr9=>.i (decide ((ByteArray.mk #[(116:UInt8),(101:UInt8),(115:UInt8),(116:UInt8),(91:UInt8)]++zcR.2.getD r11.1.Func.toNat default++ByteArray.mk #[(123:UInt8)]++r10++ByteArray.mk #[(125:UInt8),(32:UInt8)]++ze4.2.getD (IntKind.i64.wrap (r11.1.Op - 5)).toNat default++ByteArray.mk #[(32:UInt8)]).size+r9.size<=9223372036854775807)) (.i (decide ((ByteArray.mk #[(116:UInt8),(101:UInt8),(115:UInt8),(116:UInt8),(91:UInt8)]++zcR.2.getD r11.1.Func.toNat default++ByteArray.mk #[(123:UInt8)]++r10++ByteArray.mk #[(125:UInt8),(32:UInt8)]++ze4.2.getD (IntKind.i64.wrap (r11.1.Op - 5)).toNat default++ByteArray.mk #[(32:UInt8)]++r9).size+(ByteArray.mk #[(93:UInt8)]).size<=9223372036854775807)) (.k (ByteArray.mk #[(116:UInt8),(101:UInt8),(115:UInt8),(116:UInt8),(91:UInt8)]++zcR.2.getD r11.1.Func.toNat default++ByteArray.mk #[(123:UInt8)]++r10++ByteArray.mk #[(125:UInt8),(32:UInt8)]++ze4.2.getD (IntKind.i64.wrap (r11.1.Op - 5)).toNat default++ByteArray.mk #[(32:UInt8)]++r9++ByteArray.mk #[(93:UInt8)])) .d) .d) .d) .d) .d) .d) .d) .d) .d) .d))))
def zB5 (zbE:yC->Bool×ByteArray) (x_:At):=(zNg zbE x_).fin default
theorem zGv (zbE:yC->Bool×ByteArray) (zZG:Sound Tryz.prog zb5 196 (zvh zbE)):Sound Tryz.prog zb5 167 (zmc (zB5 zbE)):=
 sU (cx':=(zyR zbE)) (zi ⟨zAo,zZp.nodr,zZG,z2v,zKa.nodr,zKG.nodr,trivial⟩) call167 func167 (lOK (aC (zHf zbE) aN))
abbrev zjA:=Unit×yD×Int×Int×Unit
abbrev zjx:=List ByteArray×Unit
def zGC (zbm:At->Bool×ByteArray) (t7:yD) (t8:Int) (t9:Int) (out_:List ByteArray):Wy zjA zjx (List ByteArray):=.i (decide (t9<t8)) (.i (decide (0<=t9)&&decide (t9<Int.ofNat t7.length)) (.bn (zbm (At.mk (t7.getD t9.toNat default).At.Kind (t7.getD t9.toNat default).At.Row (t7.getD t9.toNat default).At.Ag (t7.getD t9.toNat default).At.Func (t7.getD t9.toNat default).At.Items (t7.getD t9.toNat default).At.Op (t7.getD t9.toNat default).At.Bd)) λr1=>.i ((t7.getD t9.toNat default).Exp != 1) (.bn (strconv_Itoa (t7.getD t9.toNat default).Exp) λr0=>.i (decide ((ByteArray.mk #[(94:UInt8)]).size+r0.size<=9223372036854775807)) (.i (decide (r1.size+(ByteArray.mk #[(94:UInt8)]++r0).size<=9223372036854775807)) (.i (decide ((out_.length+[r1++(ByteArray.mk #[(94:UInt8)]++r0)].length)*16<=zP)) (.h ((),t7,t8,(IntKind.i64.wrap (t9+1)),()) ((out_++[r1++(ByteArray.mk #[(94:UInt8)]++r0)]),())) .d) .d) .d) (.i (decide ((out_.length+[r1].length)*16<=zP)) (.h ((),t7,t8,(IntKind.i64.wrap (t9+1)),()) ((out_++[r1]),())) .d)) .d) (.k out_)
def zu2 (zbm:At->Bool×ByteArray) (x:zjA) (y:zjx):=zGC zbm x.2.1 x.2.2.1 x.2.2.2.1 y.1
def zGA (zbm:At->Bool×ByteArray) (n:Nat) (t7:yD) (t8:Int) (t9:Int) (out_:List ByteArray):=zA (zu2 zbm) default n ((),t7,t8,t9,()) (out_,())
def zFE (r:List ByteArray):LTree ty:=.done (.exit 0) [.own 128] [.arr 9 r false]
def zGo:LL ty zjA:=za (zdK 128) (za (lSl 69) (za zj (za zj zk)))
def zGx:BL ty zjx:=zdO 9 false (z8)
def zFx (x:zjA) (y:zjx):Nat:=(x.2.1.length+Int.toNat x.2.2.1+Int.toNat x.2.2.2.1+y.1.length+1)
def zu1 (zbm:At->Bool×ByteArray):=zbY zb5 32 [(167,(zmc zbm)),(168,zCn),(169,zvq)] [] [(3,[(3,.own 9),(7,.keep),(8,.keep),(9,.keep)])] [(3,1,(kpL [3]))] [(3,spW zGo zGx (zu2 zbm) default zFE zFx)] []
theorem zFa (zbm:At->Bool×ByteArray):zy (zu1 zbm) (lp (body f139) 0):=zm (id:=3) (hl:=rfl)
def zHg (zbm:At->Bool×ByteArray) (l:yD):Wy0 (ByteArray):=.bn (zGA zbm (l.length+(Int.ofNat l.length).toNat +Int.toNat 0+0+1) l (Int.ofNat l.length) 0 []) λr5=>.bn (strings_Join r5 (ByteArray.mk #[(42:UInt8)])) λr4=>.k r4
def zyJ (zbm:At->Bool×ByteArray) (l:yD):=(zHg zbm l).fin default
theorem zDK (zbm:At->Bool×ByteArray) (zMI:Sound Tryz.prog zb5 167 (zmc zbm)):Sound Tryz.prog zb5 139 (zgO (zyJ zbm)):=
 sU (cx':=(zu1 zbm)) (zi ⟨zMI,zJm.nodr,zAo,trivial⟩) call139 func139 (lOK (aC (zFa zbm) aN))
end Go.Proofs.YtljlfiomikifjaaGreatDoor
end
