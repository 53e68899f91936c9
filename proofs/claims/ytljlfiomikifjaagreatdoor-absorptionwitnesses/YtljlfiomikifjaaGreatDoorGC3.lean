/- Texts of this claim, joined (the program, its functions in plain words, and what they compute). -/
import Derived.Test.YtljlfiomikifjaaGreatDoorGC2
set_option autoImplicit false
set_option linter.unusedVariables false
set_option linter.unusedSectionVars false
set_option linter.unusedSimpArgs false
set_option maxRecDepth 1000000
set_option maxHeartbeats 0
noncomputable section
namespace Go.Proofs.YtljlfiomikifjaaGreatDoor
open Go Go.Ab
open Go.Proofs.Tryz
def zo3 (zbl:yD->Bool×Int) (zk:Fc->Bool×Bool):=zbq base 9 [(103,(zdC zbl)),(142,(zcQ zk))]
def zhf (zbl:yD->Bool×Int) (zk:Fc->Bool×Bool) (s:yD):Wy0 (Bool):=.bn (zbl s) λr0=>.k (decide (r0≥0))
def zdd (zbl:yD->Bool×Int) (zk:Fc->Bool×Bool) (s:yD):=(zhf zbl zk s).fin default
theorem znb (zbl:yD->Bool×Int) (zk:Fc->Bool×Bool) (zrN:SdP 103 (zdC zbl)) (zeP:SdP 142 (zcQ zk)):SdP 49 (zdb (zdd zbl zk)):=
 sT (cx':=(zo3 zbl zk)) (zi ⟨zrN,zeP,trivial⟩) call49 func49 (lOK aN)
def zn1 (zbk:yC->Bool×Int) (zo:Term->Bool×Bool):=zbq base 9 [(113,(zdp zbk)),(141,(zdx zo))]
def zgY (zbk:yC->Bool×Int) (zo:Term->Bool×Bool) (s:yC):Wy0 (Bool):=.bn (zbk s) λr0=>.k (decide (r0≥0))
def zc8 (zbk:yC->Bool×Int) (zo:Term->Bool×Bool) (s:yC):=(zgY zbk zo s).fin default
theorem zmB (zbk:yC->Bool×Int) (zo:Term->Bool×Bool) (zqQ:SdP 113 (zdp zbk)) (zf3:SdP 141 (zdx zo)):SdP 59 (zc6 (zc8 zbk zo)):=
 sT (cx':=(zn1 zbk zo)) (zi ⟨zqQ,zf3,trivial⟩) call59 func59 (lOK aN)
abbrev zea:=yD×Unit×Int×Int×Unit
def zh3 (zk:Fc->Bool×Bool) (s:yD) (t7:Int) (t8:Int):Wy zea Unit (Int⊕Unit):=.i (decide (t8<t7)) (.i (decide (0<=t8)&&decide (t8<Int.ofNat s.length)) (.bn (zk (FO.mk (At.mk (s.getD t8.toNat default).At.Kind (s.getD t8.toNat default).At.Row (s.getD t8.toNat default).At.Ag (s.getD t8.toNat default).At.Func (s.getD t8.toNat default).At.Items (s.getD t8.toNat default).At.Op (s.getD t8.toNat default).At.Bd) (s.getD t8.toNat default).Exp)) λr0=>.i (r0) (.k (.inl t8)) (.h (s,(),t7,(IntKind.i64.wrap (t8+1)),()) ())) .d) (.k (.inr ()))
def zda (zk:Fc->Bool×Bool) (x:zea) (y:Unit):=zh3 zk x.1 x.2.2.1 x.2.2.2.1
def zh8 (zk:Fc->Bool×Bool) (n:Nat) (s:yD) (t7:Int) (t8:Int):=zH (zda zk) (.inl default) n (s,(),t7,t8,()) ()
def zq6:LL ty zea:=za (lSl 69) (za (lFn 142 (zm)) (za zj (za zj zm)))
def zqD (x:zea) (y:Unit):Nat:=(x.1.length+Int.toNat x.2.2.1+Int.toNat x.2.2.2.1+1000)
def zh4 (zk:Fc->Bool×Bool):=zbZ base 19 [(142,(zcQ zk))] [] [(2,(kpL [0,1,7,8]))] [(2,1,[]),(2,0,(kpL [4]))] [(2,spW zq6 z8a (zda zk) (.inl default) zrC zqD)] []
theorem zqt (zk:Fc->Bool×Bool):zD (zh4 zk) (lp (body f103) 0):=zq (id:=2) (hl:=rfl)
def ziG (zk:Fc->Bool×Bool) (s:yD):Wy0 (Int):=.bn (zh8 zk (s.length+(Int.ofNat s.length).toNat +Int.toNat 0+1000) s (Int.ofNat s.length) 0) λr2=>.i (isL r2) (.k (getL r2)) (.k (-1:Int))
def zcy (zk:Fc->Bool×Bool) (s:yD):=(ziG zk s).fin default
theorem zow (zk:Fc->Bool×Bool) (zeP:SdP 142 (zcQ zk)):SdP 103 (zdC (zcy zk)):=
 sT (cx':=(zh4 zk)) (zi ⟨zeP,trivial⟩) call103 func103 (lOK (aC (zqt zk) aN))
abbrev zd3:=yC×Unit×Int×Int×Unit
def zpR (zo:Term->Bool×Bool) (s:yC) (t7:Int) (t8:Int):Wy zd3 Unit (Int⊕Unit):=.i (decide (t8<t7)) (.i (decide (0<=t8)&&decide (t8<Int.ofNat s.length)) (.bn (zo (s.getD t8.toNat default)) λr0=>.i (r0) (.k (.inl t8)) (.h (s,(),t7,(IntKind.i64.wrap (t8+1)),()) ())) .d) (.k (.inr ()))
def zhX (zo:Term->Bool×Bool) (x:zd3) (y:Unit):=zpR zo x.1 x.2.2.1 x.2.2.2.1
def zqC (zo:Term->Bool×Bool) (n:Nat) (s:yC) (t7:Int) (t8:Int):=zH (zhX zo) (.inl default) n (s,(),t7,t8,()) ()
def zqb:LL ty zd3:=za (lSl 28) (za (lFn 141 (zm)) (za zj (za zj zm)))
def zpr (x:zd3) (y:Unit):Nat:=(x.1.length+Int.toNat x.2.2.1+Int.toNat x.2.2.2.1+1000)
def zhH (zo:Term->Bool×Bool):=zbZ base 19 [(141,(zdx zo))] [] [(2,(kpL [0,1,7,8]))] [(2,1,[]),(2,0,(kpL [4]))] [(2,spW zqb z8a (zhX zo) (.inl default) zrC zpr)] []
theorem zpw (zo:Term->Bool×Bool):zD (zhH zo) (lp (body f113) 0):=zq (id:=2) (hl:=rfl)
def zrh (zo:Term->Bool×Bool) (s:yC):Wy0 (Int):=.bn (zqC zo (s.length+(Int.ofNat s.length).toNat +Int.toNat 0+1000) s (Int.ofNat s.length) 0) λr2=>.i (isL r2) (.k (getL r2)) (.k (-1:Int))
def zdw (zo:Term->Bool×Bool) (s:yC):=(zrh zo s).fin default
theorem zoc (zo:Term->Bool×Bool) (zf3:SdP 141 (zdx zo)):SdP 113 (zdp (zdw zo)):=
 sT (cx':=(zhH zo)) (zi ⟨zf3,trivial⟩) call113 func113 (lOK (aC (zpw zo) aN))
def zcW:Nat->(yC->Bool×Bool)×(Term->Bool×Bool)×(Fc->Bool×Bool)×(yC->Bool×Int)×(yC->Bool×Bool)×(yD->Bool×Int)×(yD->Bool×Bool)
 | 0=>(λ_=>(false,default),λ_=>(false,default),λ_=>(false,default),λ_=>(false,default),λ_=>(false,default),λ_=>(false,default),λ_=>(false,default))
 | n+1=>(zmi ((zcW n).2.2.2.2.1) ((zcW n).2.1),zkd ((zcW n).2.2.2.2.2.2) ((zcW n).2.2.1),zir ((zcW n).1),zdw ((zcW n).2.1),zc8 ((zcW n).2.2.2.1) ((zcW n).2.1),zcy ((zcW n).2.2.1),zdd ((zcW n).2.2.2.2.2.1) ((zcW n).2.2.1))
def zeT (n:Nat):yC->Bool×Bool:=(zcW n).1
def ze8 (n:Nat):Term->Bool×Bool:=(zcW n).2.1
def zej (n:Nat):Fc->Bool×Bool:=(zcW n).2.2.1
def zeH (n:Nat):yC->Bool×Int:=(zcW n).2.2.2.1
def zc3 (n:Nat):yC->Bool×Bool:=(zcW n).2.2.2.2.1
def ze2 (n:Nat):yD->Bool×Int:=(zcW n).2.2.2.2.2.1
def zdc (n:Nat):yD->Bool×Bool:=(zcW n).2.2.2.2.2.2
theorem zKp (n:Nat):zeT (n+1)=zmi (zc3 n) (ze8 n):=rfl
theorem zGe (n:Nat):ze8 (n+1)=zkd (zdc n) (zej n):=rfl
theorem zCM (n:Nat):zej (n+1)=zir (zeT n):=rfl
theorem zqf (n:Nat):zeH (n+1)=zdw (ze8 n):=rfl
theorem zol (n:Nat):zc3 (n+1)=zc8 (zeH n) (ze8 n):=rfl
theorem zqU (n:Nat):ze2 (n+1)=zcy (zej n):=rfl
theorem zoU (n:Nat):zdc (n+1)=zdd (ze2 n) (zej n):=rfl
theorem zNx:∀ n,SdP 73 (zhO (zeT n))/\SdP 141 (zdx (ze8 n))/\SdP 142 (zcQ (zej n))/\SdP 113 (zdp (zeH n))/\SdP 59 (zc6 (zc3 n))/\SdP 103 (zdC (ze2 n))/\SdP 49 (zdb (zdc n))
 | 0=>⟨zba call73 (λ_=>rfl),zba call141 (λ_=>rfl),zba call142 (λ_=>rfl),zba call113 (λ_=>rfl),zba call59 (λ_=>rfl),zba call103 (λ_=>rfl),zba call49 (λ_=>rfl)⟩
 | n+1=>by
  have ih:=zNx n;exact ⟨zFF _ _ (ih.2.2.2.2.1) (ih.2.1),zCO _ _ (ih.2.2.2.2.2.2) (ih.2.2.1),zAO _ (ih.1),zoc _ (ih.2.1),zmB _ _ (ih.2.2.2.1) (ih.2.1),zow _ (ih.2.2.1),znb _ _ (ih.2.2.2.2.2.1) (ih.2.2.1)⟩
def zv6:yC->Bool×Bool:=zeT 1000
def zyg:Ab.Spec ty:=zhO zv6
theorem zIC:SdP 73 zyg:=(zNx 1000).1
def zKJ (r:yB):ARes ty:=⟨[.own 43 r],[]⟩
def zjn (F:yC->Bool×yB):Ab.Spec ty:=zh zWH λx=>((F x.1).1,zKJ (F x.1).2)
abbrev zgf:=yF×yF×Int×Int×Unit
def zhB (s1:yF) (s2:yF) (t12:Int) (t13:Int):Wy zgf Unit (Bool⊕Unit):=.i (decide (t13<t12)) (.i (decide (0<=t13)&&decide (t13<Int.ofNat s1.length)) (.i (decide (0<=t13)&&decide (t13<Int.ofNat s2.length)) (.i (!((s1.getD t13.toNat default).Table==(s2.getD t13.toNat default).Table&&((s1.getD t13.toNat default).Seq==(s2.getD t13.toNat default).Seq&&true))) (.k (.inl false)) (.h (s1,s2,t12,(IntKind.i64.wrap (t13+1)),()) ())) .d) .d) (.k (.inr ()))
def zmA (x:zgf) (y:Unit):=zhB x.1 x.2.1 x.2.2.1 x.2.2.2.1
def zdL (n:Nat) (s1:yF) (s2:yF) (t12:Int) (t13:Int):=zH (zmA) (.inl default) n (s1,s2,t12,t13,()) ()
def zy2:LL ty zgf:=za (lSl 49) (za (lSl 49) (za zj (za zj zm)))
def zyG (x:zgf) (y:Unit):Nat:=(x.1.length+x.2.1.length+Int.toNat x.2.2.1+Int.toNat x.2.2.2.1+1)
def zm5:=zbZ base 26 [] [] [(4,(kpL [0,1,12,13]))] [(4,1,[]),(4,0,(kpL [4]))] [(4,spW zy2 z8a (zmA) (.inl default) zOn zyG)] []
theorem zyH:zD zm5 (lp (body f209) 0):=zq (id:=4) (hl:=rfl)
def zzV (s1:yF) (s2:yF):Wy0 (Bool):=.i (Int.ofNat s1.length != Int.ofNat s2.length) (.k false) (.bn (zdL (s1.length+s2.length+(Int.ofNat s1.length).toNat +Int.toNat 0+1) s1 s2 (Int.ofNat s1.length) 0) λr0=>.i (isL r0) (.k (getL r0)) (.k true))
def zdi (s1:yF) (s2:yF):=(zzV s1 s2).fin default
def zzT:AL base (yF×yF×Unit):=zd (ze (vSl 49)) (zd (ze (vSl 49)) zp)
def zlJ:=zh zzT λx=>((zdi x.1 x.2.1).1,zVf (zdi x.1 x.2.1).2)
theorem zw6:SdP 209 zlJ:=
 sT (cx':=zm5) (zi trivial) call209 func209 (lOK (aC zyH aN))
def zUw:=zbq base 8 [(209,zlJ)]
def zYA (a:yF) (b:yF):Wy0 (Bool):=.bn (zdi a b) λr0=>.k r0
def zlX (a:yF) (b:yF):=(zYA a b).fin default
def zu4:=zh zzT λx=>((zlX x.1 x.2.1).1,zVf (zlX x.1 x.2.1).2)
theorem zBd:SdP 208 zu4:=
 sT (cx':=zUw) (zi ⟨zw6,trivial⟩) call208 func208 (lOK aN)
def z0i:=zbq base 17 [(120,zkV),(121,zkY)]
def z1w (a:RowID) (b:RowID):Wy0 (Int):=.bn (zc1 a.Table b.Table) λr2=>.bn (zc1 a.Seq b.Seq) λr1=>.bn (zkO [r2,r1]) λr0=>.k r0
def zeD (a:RowID) (b:RowID):=(z1w a b).fin default
def z2D:AL base (RowID×RowID×Unit):=zd (ze (zcx 49)) (zd (ze (zcx 49)) zp)
def zlQ:=zh z2D λx=>((zeD x.1 x.2.1).1,zOF (zeD x.1 x.2.1).2)
theorem zoq:SdP 233 zlQ:=
 sT (cx':=z0i) (zi ⟨zma,znp,trivial⟩) call233 func233 (lOK aN)
def zeI:Cx ty:={ base with nt:=8 }
def zb8 (s:yF):Bool×yF:=(decide (s.length*16<=z7),s)
def zgQ:Ab.Spec ty:=zh (cx:=base) (zd (ze (vSl 49)) zp) λx=>((zb8 x.1).1,⟨[.own 49 (zb8 x.1).2],[]⟩)
theorem zyF:zgd zeI f212 (body f212) ⟨[.own 49],[]⟩ [.pure (.lit (.slice none 0 0))]=some ⟨[.own 49 []],[]⟩:=by kernel_rfl
theorem zxm (p:Addr) (c:Nat):zgd zeI f212 (body f212) ⟨[.own 49],[]⟩ [.pure (.lit (.slice (some p) 0 c))]=some ⟨[.own 49 []],[]⟩:=by kernel_rfl
theorem zxQ (l:yF):zgd zeI f212 (body f212) ⟨[.own 49],[]⟩ [.pure (.sl 49 l)]=bif !l.isEmpty then bif decide ((([]:List (ty 49)).length+l.length)*16<=z7) then some ⟨[.own 49 l],[]⟩ else none else none:=by kernel_rfl
theorem zlk:SdP 212 zgQ:=
 zGj (cx':=zeI) (bytes:=16) zDg zgB ⟨⟨rfl,rfl,rfl,rfl,rfl,rfl⟩,rfl⟩ (λg s h=>by cases h) call212 func212 (c:=body f212) (by kernel_rfl) (zzZ (l:=[]) (by kernel_rfl) trivial) zyF zxm zxQ (by kernel_rfl)
abbrev zfu:=Unit×Int×(Nat×Nat)×Int×Unit
abbrev zb5:=yF×Unit
abbrev znY:=Int×yF
abbrev ziU:=Unit×Int×Unit
abbrev zn7:=(Nat×yF)⊕yF
def zgR (k:Int) (s2_0:Nat) (s2_1:Nat) (k2:Int) (s:yF):Wy zfu zb5 znY:=.i (decide (k2<Int.ofNat s2_1)) (.i (decide (0<=k2)&&decide (k2<Int.ofNat s2_1)) (.i (decide (0<=IntKind.i64.wrap (k2 - 1))&&decide (IntKind.i64.wrap (k2 - 1)<Int.ofNat s2_1)) (.i (!((s.getD (s2_0+k2.toNat) default).Table==(s.getD (s2_0+(IntKind.i64.wrap (k2 - 1)).toNat) default).Table&&((s.getD (s2_0+k2.toNat) default).Seq==(s.getD (s2_0+(IntKind.i64.wrap (k2 - 1)).toNat) default).Seq&&true))) (.i (decide (0<=k2)&&decide (k2<Int.ofNat s2_1)) (.i (decide (0<=k)&&decide (k<Int.ofNat s.length)) (.i (decide (k.toNat<s.length)) (.h ((),(IntKind.i64.wrap (k+1)),(s2_0,s2_1),(IntKind.i64.wrap (k2+1)),()) ((s.set k.toNat (s.getD (s2_0+k2.toNat) default)),())) .d) .d) .d) (.h ((),k,(s2_0,s2_1),(IntKind.i64.wrap (k2+1)),()) (s,()))) .d) .d) (.k (k,s))
def zlI (x:zfu) (y:zb5):=zgR x.2.1 x.2.2.1.1 x.2.2.1.2 x.2.2.2.1 y.1
def zem (n:Nat) (k:Int) (s2_0:Nat) (s2_1:Nat) (k2:Int) (s:yF):=zH (zlI) default n ((),k,(s2_0,s2_1),k2,()) (s,())
def zxa (r:znY):LTree ty:=.done (.exit 2) [.own 244,.lit (.int .i64 r.1)] [.arr 49 r.2 false]
def zxN:LL ty zfu:=za (zes 244) (za zj (za (zbg0 244) (za zj zm)))
def zx1:BL ty zb5:=zew 49 false (zbg)
def zgV (k:Int) (s:yF):Wy ziU zb5 zn7:=.i (decide (k<Int.ofNat s.length)) (.i (decide (0<=k)&&decide (k<Int.ofNat s.length)) (.i (decide (0<=IntKind.i64.wrap (k - 1))&&decide (IntKind.i64.wrap (k - 1)<Int.ofNat s.length)) (.i ((s.getD k.toNat default).Table==(s.getD (IntKind.i64.wrap (k - 1)).toNat default).Table&&((s.getD k.toNat default).Seq==(s.getD (IntKind.i64.wrap (k - 1)).toNat default).Seq&&true)) (.i (decide (0<=k)&&decide (k<=Int.ofNat s.length)&&decide (Int.ofNat s.length<=Int.ofNat s.length)) (.bn (zem (k.toNat +k.toNat +((Int.ofNat s.length).toNat - k.toNat)+Int.toNat 1+s.length+1) k k.toNat ((Int.ofNat s.length).toNat - k.toNat) 1 s) λr0=>.i (decide (0<=r0.1)&&decide (r0.1<=Int.ofNat r0.2.length)&&decide (Int.ofNat r0.2.length<=Int.ofNat r0.2.length)) (.i (decide (r0.1.toNat +((Int.ofNat r0.2.length).toNat - r0.1.toNat)<=r0.2.length)) (.i (decide ((0:Int)<=(0:Int))&&decide (0<=r0.1)&&decide (r0.1<=Int.ofNat (List.take r0.1.toNat r0.2++List.replicate ((Int.ofNat r0.2.length).toNat - r0.1.toNat) (RowID.mk 0 0)++List.drop (r0.1.toNat +((Int.ofNat r0.2.length).toNat - r0.1.toNat)) r0.2).length)) (.k (.inl (r0.1.toNat - Int.toNat 0,List.take r0.1.toNat r0.2++List.replicate ((Int.ofNat r0.2.length).toNat - r0.1.toNat) (RowID.mk 0 0)++List.drop (r0.1.toNat +((Int.ofNat r0.2.length).toNat - r0.1.toNat)) r0.2))) .d) .d) .d) .d) (.h ((),(IntKind.i64.wrap (k+1)),()) (s,()))) .d) .d) (.k (.inr s))
def zlK (x:ziU) (y:zb5):=zgV x.2.1 y.1
def zdo (n:Nat) (k:Int) (s:yF):=zH (zlK) (.inl default) n ((),k,()) (s,())
def zw8 (r:zn7):LTree ty:=.ite (isL r) (.done .ret [.sub 244 0 ((getL r).1)] [.arr 49 ((getL r).2) false]) (.done (.exit 0) [.own 244] [.arr 49 (getR r) false])
def zxL:LL ty ziU:=za (zes 244) (za zj zm)
def zxn (x:zfu) (y:zb5):Nat:=(Int.toNat x.2.1+x.2.2.1.1+x.2.2.1.2+Int.toNat x.2.2.2.1+y.1.length+1)
def zgU:=zbZ base 61 [] [] [(4,(kpL [0,3])),(9,(kpL [0,3,4,5]))] [(4,1,(kpL [0])),(4,0,(kpL [2])),(9,3,(kpL [0,3]))] [(9,spW zxN zx1 (zlI) default zxa zxn),(4,spW zxL zx1 (zlK) (.inl default) zw8 λx y=>(Int.toNat x.2.1+y.1.length+1))] []
theorem zxw:zD zgU (lp (body f234) 1):=zq (id:=9) (hl:=rfl)
theorem zw4:zD zgU (lp (body f234) 0):=zq (id:=4) (hl:=rfl)
def zyC (s:yF):Wy0 (yF):=.i (decide (Int.ofNat s.length<2)) (.k s) (.bn (zdo (Int.toNat 1+s.length+1) 1 s) λr2=>.i (isL r2) (.k (List.take (getL r2).1 (getL r2).2)) (.k (getR r2)))
def zcY (s:yF):=(zyC s).fin default
def zxj (r:yF):ARes ty:=⟨[.own 49 r],[none]⟩
def zyJ:AL base zb5:=zd (zlu 49) zp
def zkA:=zh zyJ λx=>((zcY x.1).1,zxj (zcY x.1).2)
theorem zvv:SdP 234 zkA:=
 sT (cx':=zgU) (zi trivial) call234 func234 (lOK (aC zw4 (aC zxw aN))) (sg:=⟨[.own 49],[false]⟩)
def zcN (x:yF):Bool×yF:=zwH (λa b=>zeD a b) x
def zkn:Ab.Spec ty:=zh (cx:=base) (zd (zlu 49) (zd (ze (vFn 233 (zbT))) zp)) λx=>((zcN x.1).1,⟨[],[some ⟨49,(zcN x.1).2⟩]⟩)
theorem zwa (c:Unit) (x y:RowID) (h:(zeD x y).1=true):zlQ ((AV.agg (base.enc 49 x)::AV.agg (base.enc 49 y)::(zbT:VL base (Unit)).enc c).map Arg.pure)=some (true,⟨[.pure (.lit (.int .i64 (zeD x y).2))],[]⟩):=by
 rw [<- h]; kernel_rfl
theorem zuR:SdP 232 zkn:=by
 letI:DecidableEq (ty 49):=inferInstanceAs (DecidableEq RowID)
 exact zbaV (T:=49) zgB rfl Go.Proofs.Tryz.sortRow Tryz.isAgg49 (by unfold zr; exact Tryz.sizeOf49) call232 zoq (zbT) (λc=>λa b=>zeD a b) zwa
def zVs:=zbZ base 10 [(212,zgQ),(232,zkn),(233,zlQ),(234,zkA)] [(232,[true,false]),(234,[true])] [] [] [] []
def zX7 (l:yF):Wy0 (yF):=.bn (zb8 l) λr2=>.bn (zcN r2) λr1=>.bn (zcY r1) λr0=>.k r0
def zga (l:yF):=(zX7 l).fin default
def zRG (r:yF):ARes ty:=⟨[.own 49 r],[]⟩
def zV9:AL base (yF×Unit):=zd (ze (vSl 49)) zp
def zni:=zh zV9 λx=>((zga x.1).1,zRG (zga x.1).2)
theorem ztq:SdP 204 zni:=
 sT (cx':=zVs) (zi ⟨zlk,zuR,zoq,zvv,trivial⟩) call204 func204 (lOK aN) (sg:=⟨[.own 49],[]⟩)
abbrev zcq:=yF×yF×Unit×yF×Int×Int×Unit
abbrev zfP:=Int⊕(yF×yF)
def zcP (s1:yF) (s2:yF) (t11:yF) (t12:Int) (t13:Int):Wy zcq Unit zfP:=.i (decide (t13<t12)) (.i (decide (0<=t13)&&decide (t13<Int.ofNat t11.length)) (.i (decide (t13≥Int.ofNat s2.length)) (.k (.inl 1)) (.i (decide (0<=t13)&&decide (t13<Int.ofNat s2.length)) (.bn (zeD (t11.getD t13.toNat default) (s2.getD t13.toNat default)) λr0=>.i (r0 != 0) (.k (.inl (r0))) (.h (s1,s2,(),t11,t12,(IntKind.i64.wrap (t13+1)),()) ())) .d)) .d) (.k (.inr (s1,s2)))
def zep (x:zcq) (y:Unit):=zcP x.1 x.2.1 x.2.2.2.1 x.2.2.2.2.1 x.2.2.2.2.2.1
def zbE (n:Nat) (s1:yF) (s2:yF) (t11:yF) (t12:Int) (t13:Int):=zH (zep) (.inl default) n (s1,s2,(),t11,t12,t13,()) ()
def zjG (r:zfP):LTree ty:=.ite (isL r) (.done .ret [.lit (.int .i64 (getL r))] []) (.done (.exit 0) [.sl 49 (getR r).1,.sl 49 (getR r).2] [])
def zjR:LL ty zcq:=za (lSl 49) (za (lSl 49) (za (lFn 233 (zm)) (za (lSl 49) (za zj (za zj zm)))))
def zjJ (x:zcq) (y:Unit):Nat:=(x.1.length+x.2.1.length+x.2.2.2.1.length+Int.toNat x.2.2.2.2.1+Int.toNat x.2.2.2.2.2.1+1)
def zeo:=zbZ base 39 [(233,zlQ)] [] [(2,(kpL [0,1,2,11,12,13]))] [(2,1,(kpL [0,1])),(2,0,(kpL [6]))] [(2,spW zjR z8a (zep) (.inl default) zjG zjJ)] []
theorem zjH:zD zeo (lp (body f236) 0):=zq (id:=2) (hl:=rfl)
def zkl (s1:yF) (s2:yF):Wy0 (Int):=.bn (zbE (s1.length+s2.length+s1.length+(Int.ofNat s1.length).toNat +Int.toNat 0+1) s1 s2 s1 (Int.ofNat s1.length) 0) λr2=>.i (isL r2) (.k (getL r2)) (.i (decide (Int.ofNat (getR r2).1.length<Int.ofNat (getR r2).2.length)) (.k (-1:Int)) (.k 0))
def zbr (s1:yF) (s2:yF):=(zkl s1 s2).fin default
def zkj:AL base (yF×yF×Unit×Unit):=zd (ze (vSl 49)) (zd (ze (vSl 49)) (zd (ze (vFn 233 zbT)) zp))
def zel:=zh zkj λx=>((zbr x.1 x.2.1).1,zOF (zbr x.1 x.2.1).2)
theorem zjt:SdP 236 zel:=
 sT (cx':=zeo) (zi ⟨zoq,trivial⟩) call236 func236 (lOK (aC zjH aN))
def zPQ:=zbq base 8 [(233,zlQ),(236,zel)]
def zTv (a:yF) (b:yF):Wy0 (Int):=.bn (zbr a b) λr0=>.k r0
def zee (a:yF) (b:yF):=(zTv a b).fin default
def zru:=zh zzT λx=>((zee x.1 x.2.1).1,zOF (zee x.1 x.2.1).2)
theorem zzn:SdP 206 zru:=
 sT (cx':=zPQ) (zi ⟨zoq,zjt,trivial⟩) call206 func206 (lOK aN)
abbrev zed:=Unit×Unit×Int×(Nat×Nat)×Int×Unit
abbrev zb1:=yB×Unit
abbrev zkD:=Int×yB
abbrev zgb:=Unit×Unit×Int×Unit
abbrev zkQ:=(Nat×yB)⊕yB
def zeV (k:Int) (s2_0:Nat) (s2_1:Nat) (k2:Int) (s:yB):Wy zed zb1 zkD:=.i (decide (k2<Int.ofNat s2_1)) (.i (decide (0<=k2)&&decide (k2<Int.ofNat s2_1)) (.i (decide (0<=IntKind.i64.wrap (k2 - 1))&&decide (IntKind.i64.wrap (k2 - 1)<Int.ofNat s2_1)) (.bn (zlX (s.getD (s2_0+k2.toNat) default) (s.getD (s2_0+(IntKind.i64.wrap (k2 - 1)).toNat) default)) λr0=>.i (!r0) (.i (decide (0<=k2)&&decide (k2<Int.ofNat s2_1)) (.i (decide (0<=k)&&decide (k<Int.ofNat s.length)) (.i (decide (k.toNat<s.length)) (.h ((),(),(IntKind.i64.wrap (k+1)),(s2_0,s2_1),(IntKind.i64.wrap (k2+1)),()) ((s.set k.toNat (s.getD (s2_0+k2.toNat) default)),())) .d) .d) .d) (.h ((),(),k,(s2_0,s2_1),(IntKind.i64.wrap (k2+1)),()) (s,()))) .d) .d) (.k (k,s))
def zjj (x:zed) (y:zb1):=zeV x.2.2.1 x.2.2.2.1.1 x.2.2.2.1.2 x.2.2.2.2.1 y.1
def zdG (n:Nat) (k:Int) (s2_0:Nat) (s2_1:Nat) (k2:Int) (s:yB):=zH (zjj) default n ((),(),k,(s2_0,s2_1),k2,()) (s,())
def zsS (r:zkD):LTree ty:=.done (.exit 2) [.own 264,.lit (.int .i64 r.1)] [.arr 43 r.2 false]
def ztx:LL ty zed:=za (zes 264) (za (lFn 208 (zm)) (za zj (za (zbg0 264) (za zj zm))))
def ztE:BL ty zb1:=zew 43 false (zbg)
def zeW (k:Int) (s:yB):Wy zgb zb1 zkQ:=.i (decide (k<Int.ofNat s.length)) (.i (decide (0<=k)&&decide (k<Int.ofNat s.length)) (.i (decide (0<=IntKind.i64.wrap (k - 1))&&decide (IntKind.i64.wrap (k - 1)<Int.ofNat s.length)) (.bn (zlX (s.getD k.toNat default) (s.getD (IntKind.i64.wrap (k - 1)).toNat default)) λr3=>.i (r3) (.i (decide (0<=k)&&decide (k<=Int.ofNat s.length)&&decide (Int.ofNat s.length<=Int.ofNat s.length)) (.bn (zdG (k.toNat +k.toNat +((Int.ofNat s.length).toNat - k.toNat)+Int.toNat 1+s.length+1) k k.toNat ((Int.ofNat s.length).toNat - k.toNat) 1 s) λr2=>.i (decide (0<=r2.1)&&decide (r2.1<=Int.ofNat r2.2.length)&&decide (Int.ofNat r2.2.length<=Int.ofNat r2.2.length)) (.i (decide (r2.1.toNat +((Int.ofNat r2.2.length).toNat - r2.1.toNat)<=r2.2.length)) (.i (decide ((0:Int)<=(0:Int))&&decide (0<=r2.1)&&decide (r2.1<=Int.ofNat (List.take r2.1.toNat r2.2++List.replicate ((Int.ofNat r2.2.length).toNat - r2.1.toNat) []++List.drop (r2.1.toNat +((Int.ofNat r2.2.length).toNat - r2.1.toNat)) r2.2).length)) (.k (.inl (r2.1.toNat - Int.toNat 0,List.take r2.1.toNat r2.2++List.replicate ((Int.ofNat r2.2.length).toNat - r2.1.toNat) []++List.drop (r2.1.toNat +((Int.ofNat r2.2.length).toNat - r2.1.toNat)) r2.2))) .d) .d) .d) .d) (.h ((),(),(IntKind.i64.wrap (k+1)),()) (s,()))) .d) .d) (.k (.inr s))
def zjv (x:zgb) (y:zb1):=zeW x.2.2.1 y.1
def zcz (n:Nat) (k:Int) (s:yB):=zH (zjv) (.inl default) n ((),(),k,()) (s,())
def zsm (r:zkQ):LTree ty:=.ite (isL r) (.done .ret [.sub 264 0 ((getL r).1)] [.arr 43 ((getL r).2) false]) (.done (.exit 0) [.own 264] [.arr 43 (getR r) false])
def zte:LL ty zgb:=za (zes 264) (za (lFn 208 (zm)) (za zj zm))
def zsZ (x:zed) (y:zb1):Nat:=(Int.toNat x.2.2.1+x.2.2.2.1.1+x.2.2.2.1.2+Int.toNat x.2.2.2.2.1+y.1.length+1)
def zeZ:=zbZ base 66 [(208,zu4)] [] [(4,(kpL [0,1,5])),(9,(kpL [0,1,5,6,7]))] [(4,1,(kpL [0])),(4,0,(kpL [4])),(9,3,(kpL [0,5]))] [(9,spW ztx ztE (zjj) default zsS zsZ),(4,spW zte ztE (zjv) (.inl default) zsm λx y=>(Int.toNat x.2.2.1+y.1.length+1))] []
theorem zsN:zD zeZ (lp (body f207) 1):=zq (id:=9) (hl:=rfl)
theorem zsQ:zD zeZ (lp (body f207) 0):=zq (id:=4) (hl:=rfl)
def ztX (s:yB):Wy0 (yB):=.i (decide (Int.ofNat s.length<2)) (.k s) (.bn (zcz (Int.toNat 1+s.length+1) 1 s) λr6=>.i (isL r6) (.k (List.take (getL r6).1 (getL r6).2)) (.k (getR r6)))
def zcd (s:yB):=(ztX s).fin default
def zsc (r:yB):ARes ty:=⟨[.own 43 r],[none]⟩
def zt0:AL base (yB×Unit×Unit):=zd (zlu 43) (zd (ze (vFn 208 zbT)) zp)
def ziz:=zh zt0 λx=>((zcd x.1).1,zsc (zcd x.1).2)
theorem zqM:SdP 207 ziz:=
 sT (cx':=zeZ) (zi ⟨zBd,trivial⟩) call207 func207 (lOK (aC zsQ (aC zsN aN))) (sg:=⟨[.own 43],[false]⟩)
def zcw (x:yB):Bool×yB:=zwH (λa b=>zee a b) x
def zjF:Ab.Spec ty:=zh (cx:=base) (zd (zlu 43) (zd (ze (vFn 206 (zbT))) zp)) λx=>((zcw x.1).1,⟨[],[some ⟨43,(zcw x.1).2⟩]⟩)
theorem zvb (c:Unit) (x y:(yF)) (h:(zee x y).1=true):zru (((.sl 49 x:AV ty)::(.sl 49 y:AV ty)::(zbT:VL base (Unit)).enc c).map Arg.pure)=some (true,⟨[.pure (.lit (.int .i64 (zee x y).2))],[]⟩):=by
 rw [<- h]; kernel_rfl
theorem ztM:SdP 205 zjF:=by
 letI:DecidableEq (ty 43):=inferInstanceAs (DecidableEq (yF))
 exact zbaF (T:=43) zgB rfl Go.Proofs.Tryz.sortSet (λx:(yF)=>(.sl 49 x:AV ty)) (λ_=>rfl) call205 zzn (zbT) (λc=>λa b=>zee a b) zvb
abbrev zwo:=Unit×yB×Int×Int×Unit
abbrev zp1:=yB×Unit
abbrev zwn:=yB
def zBR (t6:yB) (t7:Int) (t8:Int) (out_:yB):Wy zwo zp1 zwn:=.i (decide (t8<t7)) (.i (decide (0<=t8)&&decide (t8<Int.ofNat t6.length)) (.bn (zga (t6.getD t8.toNat default)) λr0=>.i (decide ((out_.length+[r0].length)*24<=z7)) (.h ((),t6,t7,(IntKind.i64.wrap (t8+1)),()) ((out_++[r0]),())) .d) .d) (.k out_)
def zKN (x:zwo) (y:zp1):=zBR x.2.1 x.2.2.1 x.2.2.2.1 y.1
def zqx (n:Nat) (t6:yB) (t7:Int) (t8:Int) (out_:yB):=zH (zKN) default n ((),t6,t7,t8,()) (out_,())
def zZg (r:zwn):LTree ty:=.done (.exit 0) [.own 88] [.arr 43 r false]
def z14:LL ty zwo:=za (zes 88) (za (lSl 43) (za zj (za zj zm)))
def z2c:BL ty zp1:=zew 43 false (zbg)
def zZO (x:zwo) (y:zp1):Nat:=(x.2.1.length+Int.toNat x.2.2.1+Int.toNat x.2.2.2.1+y.1.length+1)
def zMe:=zbZ base 22 [(204,zni),(205,zjF),(206,zru),(207,ziz),(208,zu4)] [(205,[true,false]),(207,[true,false])] [(3,[(3,.own 43),(6,.keep),(7,.keep),(8,.keep)])] [(3,1,(kpL [3]))] [(3,spW z14 z2c (zKN) default zZg zZO)] []
theorem zZo:zD zMe (lp (body f170) 0):=zq (id:=3) (hl:=rfl)
def z3k (l:yB):Wy0 zwn:=.bn (zqx (l.length+(Int.ofNat l.length).toNat +Int.toNat 0+0+1) l (Int.ofNat l.length) 0 []) λr4=>.bn (zcw r4) λr3=>.bn (zcd r3) λr2=>.k r2
def zli (l:yB):=(z3k l).fin default
def z0q (r:zwn):ARes ty:=⟨[.own 43 r],[]⟩
def z5s:AL base zp1:=zd (ze (vSl 43)) zp
def zyX:=zh z5s λx=>((zli x.1).1,z0q (zli x.1).2)
theorem zEJ:SdP 170 zyX:=
 sT (cx':=zMe) (zi ⟨ztq,ztM,zzn,zqM,zBd,trivial⟩) call170 func170 (lOK (aC zZo aN)) (sg:=⟨[.own 43],[]⟩)
abbrev zgh:=yF×Unit×Int×Int×Unit
def zhV (s:yF) (t7:Int) (t8:Int) (v:RowID):Wy zgh (RowID×Unit) (Int⊕Unit):=.i (decide (t8<t7)) (.i (decide (0<=t8)&&decide (t8<Int.ofNat s.length)) (.i (v.Table==(s.getD t8.toNat default).Table&&(v.Seq==(s.getD t8.toNat default).Seq&&true)) (.k (.inl t8)) (.h (s,(),t7,(IntKind.i64.wrap (t8+1)),()) (v,()))) .d) (.k (.inr ()))
def zmN (x:zgh) (y:RowID×Unit):=zhV x.1 x.2.2.1 x.2.2.2.1 y.1
def zdK (n:Nat) (s:yF) (t7:Int) (t8:Int) (v:RowID):=zH (zmN) (.inl default) n (s,(),t7,t8,()) (v,())
def zyK:LL ty zgh:=za (lSl 49) (za (zfa 76 0) (za zj (za zj zm)))
def zzE:BL ty (RowID×Unit):=ziw (zgt (λx=>(⟨x.1,x.2.1⟩:RowID)) (λx=>(x.Table,x.Seq,())) (λ_=>rfl) (za (zO .i64) (za (zO .i64) zm))) false (zbg)
def zyx (x:zgh) (y:RowID×Unit):Nat:=(x.1.length+Int.toNat x.2.2.1+Int.toNat x.2.2.2.1+1)
def zmG:=zbZ base 19 [] [] [(2,(kpL [0,3,7,8]))] [(2,1,[]),(2,0,(kpL [4]))] [(2,spW zyK zzE (zmN) (.inl default) zrC zyx)] []
theorem zyI:zD zmG (lp (body f261) 0):=zq (id:=2) (hl:=rfl)
def zzK (s:yF) (v:RowID):Wy0 (Int):=.bn (zdK (s.length+(Int.ofNat s.length).toNat +Int.toNat 0+1) s (Int.ofNat s.length) 0 v) λr0=>.i (isL r0) (.k (getL r0)) (.k (-1:Int))
def zdg (s:yF) (v:RowID):=(zzK s v).fin default
def zzN:AL base (yF×RowID×Unit):=zd (ze (vSl 49)) (zd (ze (zcx 49)) zp)
def zlT:=zh zzN λx=>((zdg x.1 x.2.1).1,zOF (zdg x.1 x.2.1).2)
theorem zw5:SdP 261 zlT:=
 sT (cx':=zmG) (zi trivial) call261 func261 (lOK (aC zyI aN))
def zxf:=zbq base 9 [(261,zlT)]
def zxO (s:yF) (v:RowID):Wy0 (Bool):=.bn (zdg s v) λr0=>.k (decide (r0≥0))
def zcO (s:yF) (v:RowID):=(zxO s v).fin default
def zko:=zh zzN λx=>((zcO x.1 x.2.1).1,zVf (zcO x.1 x.2.1).2)
theorem zvc:SdP 239 zko:=
 sT (cx':=zxf) (zi ⟨zw5,trivial⟩) call239 func239 (lOK aN)
def zX0:=zbq base 7 [(239,zko)]
def z0x (id:RowID) (p1:yF):Wy0 (Bool):=.bn (zcO p1 id) λr0=>.k r0
def znu (id:RowID) (p1:yF):=(z0x id p1).fin default
def z0E:AL base (RowID×(yF×Unit)×Unit):=zd (ze (zcx 49)) (zd (ze (ztA (zdv (vSl 49) zbT))) zp)
def zoB:=zh z0E λx=>((znu x.1 x.2.1.1).1,zVf (znu x.1 x.2.1.1).2)
theorem zun:SdP 238 zoB:=
 sT (cx':=zX0) (zi ⟨zvc,trivial⟩) call238 func238 (lOK aN)
abbrev zeR:=yF×((yF×Unit)×Unit)×Int×Int×Unit
def zf8 (s:yF) (f:yF) (t7:Int) (t8:Int):Wy zeR Unit (Int⊕Unit):=.i (decide (t8<t7)) (.i (decide (0<=t8)&&decide (t8<Int.ofNat s.length)) (.bn (znu (s.getD t8.toNat default) f) λr0=>.i (r0) (.k (.inl t8)) (.h (s,((f,()),()),t7,(IntKind.i64.wrap (t8+1)),()) ())) .d) (.k (.inr ()))
def zkL (x:zeR) (y:Unit):=zf8 x.1 x.2.1.1.1 x.2.2.1 x.2.2.2.1
def zc5 (n:Nat) (s:yF) (f:yF) (t7:Int) (t8:Int):=zH (zkL) (.inl default) n (s,((f,()),()),t7,t8,()) ()
def zwO:LL ty zeR:=za (lSl 49) (za (lFn 238 (za (zmY (za (lSl 49) zm) 0) zm)) (za zj (za zj zm)))
def zvi (x:zeR) (y:Unit):Nat:=(x.1.length+x.2.1.1.1.length+Int.toNat x.2.2.1+Int.toNat x.2.2.2.1+1)
def zkC:=zbZ base 19 [(238,zoB)] [] [(2,(kpL [0,1,7,8]))] [(2,1,[]),(2,0,(kpL [4]))] [(2,spW zwO z8a (zkL) (.inl default) zrC zvi)] []
theorem zvq:zD zkC (lp (body f260) 0):=zq (id:=2) (hl:=rfl)
def zxd (s:yF) (f:yF):Wy0 (Int):=.bn (zc5 (s.length+f.length+(Int.ofNat s.length).toNat +Int.toNat 0+1) s f (Int.ofNat s.length) 0) λr2=>.i (isL r2) (.k (getL r2)) (.k (-1:Int))
def zca (s:yF) (f:yF):=(zxd s f).fin default
def zwZ:AL base (yF×((yF×Unit)×Unit)×Unit):=zd (ze (vSl 49)) (zd (ze (vFn 238 (zdv (ztA (zdv (vSl 49) zbT)) zbT))) zp)
def zj5:=zh zwZ λx=>((zca x.1 x.2.1.1.1).1,zOF (zca x.1 x.2.1.1.1).2)
theorem ztV:SdP 260 zj5:=
 sT (cx':=zkC) (zi ⟨zun,trivial⟩) call260 func260 (lOK (aC zvq aN))
abbrev zeu:=Unit×((yF×Unit)×Unit)×Int×Int×Unit
abbrev zev:=yF×Unit
abbrev zmd:=Int×yF
def zfR (del:yF) (i:Int) (j:Int) (s:yF):Wy zeu zev zmd:=.i (decide (j<Int.ofNat s.length)) (.i (decide (0<=j)&&decide (j<Int.ofNat s.length)) (.bn (znu (s.getD j.toNat default) del) λr0=>.i (!r0) (.i (decide (0<=i)&&decide (i<Int.ofNat s.length)) (.i (decide (i.toNat<s.length)) (.h ((),((del,()),()),(IntKind.i64.wrap (i+1)),(IntKind.i64.wrap (j+1)),()) ((s.set i.toNat (s.getD j.toNat default)),())) .d) .d) (.h ((),((del,()),()),i,(IntKind.i64.wrap (j+1)),()) (s,()))) .d) (.k (i,s))
def zkr (x:zeu) (y:zev):=zfR x.2.1.1.1 x.2.2.1 x.2.2.2.1 y.1
def zcX (n:Nat) (del:yF) (i:Int) (j:Int) (s:yF):=zH (zkr) default n ((),((del,()),()),i,j,()) (s,())
def zuD (r:zmd):LTree ty:=.done (.exit 0) [.own 168,.lit (.int .i64 r.1)] [.arr 49 r.2 false]
def zvx:LL ty zeu:=za (zes 168) (za (lFn 238 (za (zmY (za (lSl 49) zm) 0) zm)) (za zj (za zj zm)))
def zvw:BL ty zev:=zew 49 false (zbg)
def zuO (x:zeu) (y:zev):Nat:=(x.2.1.1.1.length+Int.toNat x.2.2.1+Int.toNat x.2.2.2.1+y.1.length+1)
def zkm:=zbZ base 42 [(238,zoB),(260,zj5)] [] [(5,(kpL [0,1,5,6]))] [(5,1,(kpL [0,5]))] [(5,spW zvx zvw (zkr) default zuD zuO)] []
theorem zve:zD zkm (lp (body f237) 0):=zq (id:=5) (hl:=rfl)
def zwk (s:yF) (del:yF):Wy0 (yF):=.bn (zca s del) λr3=>.i (r3==(-1:Int)) (.k s) (.bn (zcX (del.length+r3.toNat +(IntKind.i64.wrap (r3+1)).toNat +s.length+1) del r3 (IntKind.i64.wrap (r3+1)) s) λr2=>.i (decide (0<=r2.1)&&decide (r2.1<=Int.ofNat r2.2.length)&&decide (Int.ofNat r2.2.length<=Int.ofNat r2.2.length)) (.i (decide (r2.1.toNat +((Int.ofNat r2.2.length).toNat - r2.1.toNat)<=r2.2.length)) (.i (decide ((0:Int)<=(0:Int))&&decide (0<=r2.1)&&decide (r2.1<=Int.ofNat (List.take r2.1.toNat r2.2++List.replicate ((Int.ofNat r2.2.length).toNat - r2.1.toNat) (RowID.mk 0 0)++List.drop (r2.1.toNat +((Int.ofNat r2.2.length).toNat - r2.1.toNat)) r2.2).length)) (.k (List.take (r2.1.toNat - Int.toNat 0) (List.take r2.1.toNat r2.2++List.replicate ((Int.ofNat r2.2.length).toNat - r2.1.toNat) (RowID.mk 0 0)++List.drop (r2.1.toNat +((Int.ofNat r2.2.length).toNat - r2.1.toNat)) r2.2))) .d) .d) .d)
def zcv (s:yF) (del:yF):=(zwk s del).fin default
def zwC:AL base (yF×((yF×Unit)×Unit)×Unit):=zd (zlu 49) (zd (ze (vFn 238 (zdv (ztA (zdv (vSl 49) zbT)) zbT))) zp)
def zjE:=zh zwC λx=>((zcv x.1 x.2.1.1.1).1,zxj (zcv x.1 x.2.1.1.1).2)
theorem ztl:SdP 237 zjE:=
 sT (cx':=zkm) (zi ⟨zun,ztV,trivial⟩) call237 func237 (lOK (aC zve aN)) (sg:=⟨[.own 49],[false]⟩)
def z5r:=zbZ base 11 [(204,zni),(237,zjE),(238,zoB)] [(237,[true,false])] [] [] [] []
def z5D (a:yF) (b:yF):Wy0 (yF):=.bn (zga a) λr1=>.bn (zcv r1 b) λr0=>.k r0
def zuz (a:yF) (b:yF):=(z5D a b).fin default
def zJb:=zh zzT λx=>((zuz x.1 x.2.1).1,zRG (zuz x.1 x.2.1).2)
theorem zXa:SdP 210 zJb:=
 sT (cx':=z5r) (zi ⟨ztq,ztl,zun,trivial⟩) call210 func210 (lOK aN) (sg:=⟨[.own 49],[]⟩)
def z2O:=zbq base 10 [(210,zJb)]
def z5A (a:yF) (b:yF):Wy0 (Bool):=.bn (zuz a b) λr0=>.k (Int.ofNat r0.length==0)
def zsa (a:yF) (b:yF):=(z5A a b).fin default
def zHD:=zh zzT λx=>((zsa x.1 x.2.1).1,zVf (zsa x.1 x.2.1).2)
theorem zU4:SdP 172 zHD:=
 sT (cx':=z2O) (zi ⟨zXa,trivial⟩) call172 func172 (lOK aN)
def zRK:=zbq base 17 [(172,zHD)]
def zUW (k:Int) (p1:Int) (p2:yB) (p3:yF):Wy0 (Bool):=.i (k != p1) (.i (decide (0<=k)&&decide (k<Int.ofNat p2.length)) (.bn (zsa (p2.getD k.toNat default) p3) λr0=>.k r0) .d) (.k false)
def zoi (k:Int) (p1:Int) (p2:yB) (p3:yF):=(zUW k p1 p2 p3).fin default
def zVr:AL base (Int×(Int×Unit)×(yB×Unit)×(yF×Unit)×Unit):=zd (ze zha) (zd (ze (ztA (zdv zha zbT))) (zd (ze (ztA (zdv (vSl 43) zbT))) (zd (ze (ztA (zdv (vSl 49) zbT))) zp)))
def zmk:=zh zVr λx=>((zoi x.1 x.2.1.1 x.2.2.1.1 x.2.2.2.1.1).1,zVf (zoi x.1 x.2.1.1 x.2.2.1.1 x.2.2.2.1.1).2)
theorem zrz:SdP 171 zmk:=
 sT (cx':=zRK) (zi ⟨zU4,trivial⟩) call171 func171 (lOK aN)
abbrev zt8:=Unit×Int×Int×Unit
abbrev zt9:=List Int×Unit
def zAX (t8:Int) (t9:Int) (out_:List Int):Wy zt8 zt9 (List Int):=.i (decide (t9<t8)) (.i (decide (0<=t9)&&decide (t9<Int.ofNat out_.length)) (.i (decide (t9.toNat<out_.length)) (.h ((),t8,(IntKind.i64.wrap (t9+1)),()) ((out_.set t9.toNat t9),())) .d) .d) (.k out_)
def zI4 (x:zt8) (y:zt9):=zAX x.2.1 x.2.2.1 y.1
def zn3 (n:Nat) (t8:Int) (t9:Int) (out_:List Int):=zH (zI4) default n ((),t8,t9,()) (out_,())
def zWD (r:List Int):LTree ty:=.done (.exit 0) [.own 72] [.arr 3 r false]
def zZG:LL ty zt8:=za (zes 72) (za zj (za zj zm))
def zZx:BL ty zt9:=zew 3 false (zbg)
def zWp (x:zt8) (y:zt9):Nat:=(Int.toNat x.2.1+Int.toNat x.2.2.1+y.1.length+1)
def zJh:=zbZ base 18 [] [] [(3,(kpL [3,8,9]))] [(3,1,(kpL [3]))] [(3,spW zZG zZx (zI4) default zWD zWp)] []
theorem zXD:zD zJh (lp (body f174) 0):=zq (id:=3) (hl:=rfl)
def z1u (n_:Int):Wy0 (List Int):=.i (decide (0<=n_)&&decide (n_<=n_)&&decide (n_*Int.ofNat 8<=Int.ofNat z7)&&decide (n_<=Int.ofNat z7)) (.bn (zn3 ((Int.ofNat (List.replicate n_.toNat (0:Int)).length).toNat +Int.toNat 0+(List.replicate n_.toNat (0:Int)).length+1) (Int.ofNat (List.replicate n_.toNat (0:Int)).length) 0 (List.replicate n_.toNat (0:Int))) λr0=>.k r0) .d
def zur (n_:Int):=(z1u n_).fin default
def zWY (r:List Int):ARes ty:=⟨[.own 3 r],[]⟩
def zEH:=zh zZB λx=>((zur x.1).1,zWY (zur x.1).2)
theorem zRO:SdP 174 zEH:=
 sT (cx':=zJh) (zi trivial) call174 func174 (lOK (aC zXD aN)) (sg:=⟨[.own 3],[]⟩)
abbrev zjx:=List Int×((Int×Unit)×(yB×Unit)×(yF×Unit)×Unit)×Int×Int×Unit
def zlW (s:List Int) (f_0:Int) (f_1:yB) (f_2:yF) (t7:Int) (t8:Int):Wy zjx Unit (Int⊕Unit):=.i (decide (t8<t7)) (.i (decide (0<=t8)&&decide (t8<Int.ofNat s.length)) (.bn (zoi (s.getD t8.toNat default) f_0 f_1 f_2) λr0=>.i (r0) (.k (.inl t8)) (.h (s,((f_0,()),(f_1,()),(f_2,()),()),t7,(IntKind.i64.wrap (t8+1)),()) ())) .d) (.k (.inr ()))
def zu7 (x:zjx) (y:Unit):=zlW x.1 x.2.1.1.1 x.2.1.2.1.1 x.2.1.2.2.1.1 x.2.2.1 x.2.2.2.1
def zfJ (n:Nat) (s:List Int) (f_0:Int) (f_1:yB) (f_2:yF) (t7:Int) (t8:Int):=zH (zu7) (.inl default) n (s,((f_0,()),(f_1,()),(f_2,()),()),t7,t8,()) ()
def zFC:LL ty zjx:=za (lSl 3) (za (lFn 171 (za (zmY (za zj zm) 0) (za (zmY (za (lSl 43) zm) 0) (za (zmY (za (lSl 49) zm) 0) zm)))) (za zj (za zj zm)))
def zED (x:zjx) (y:Unit):Nat:=(x.1.length+Int.toNat x.2.1.1.1+x.2.1.2.1.1.length+x.2.1.2.2.1.1.length+Int.toNat x.2.2.1+Int.toNat x.2.2.2.1+1)
def zum:=zbZ base 19 [(171,zmk)] [] [(2,(kpL [0,1,7,8]))] [(2,1,[]),(2,0,(kpL [4]))] [(2,spW zFC z8a (zu7) (.inl default) zrC zED)] []
theorem zEl:zD zum (lp (body f211) 0):=zq (id:=2) (hl:=rfl)
def zGO (s:List Int) (f_0:Int) (f_1:yB) (f_2:yF):Wy0 (Int):=.bn (zfJ (s.length+f_0.toNat +f_1.length+f_2.length+(Int.ofNat s.length).toNat +Int.toNat 0+1) s f_0 f_1 f_2 (Int.ofNat s.length) 0) λr2=>.i (isL r2) (.k (getL r2)) (.k (-1:Int))
def zff (s:List Int) (f_0:Int) (f_1:yB) (f_2:yF):=(zGO s f_0 f_1 f_2).fin default
def zHt:AL base (List Int×((Int×Unit)×(yB×Unit)×(yF×Unit)×Unit)×Unit):=zd (ze (vSl 3)) (zd (ze (vFn 171 (zdv (ztA (zdv zha zbT)) (zdv (ztA (zdv (vSl 43) zbT)) (zdv (ztA (zdv (vSl 49) zbT)) zbT))))) zp)
def zsM:=zh zHt λx=>((zff x.1 x.2.1.1.1 x.2.1.2.1.1 x.2.1.2.2.1.1).1,zOF (zff x.1 x.2.1.1.1 x.2.1.2.1.1 x.2.1.2.2.1.1).2)
theorem zCL:SdP 211 zsM:=
 sT (cx':=zum) (zi ⟨zrz,trivial⟩) call211 func211 (lOK (aC zEl aN))
def zCP:=zbq base 9 [(171,zmk),(211,zsM)]
def zD8 (s:List Int) (f_0:Int) (f_1:yB) (f_2:yF):Wy0 (Bool):=.bn (zff s f_0 f_1 f_2) λr0=>.k (decide (r0≥0))
def zfw (s:List Int) (f_0:Int) (f_1:yB) (f_2:yF):=(zD8 s f_0 f_1 f_2).fin default
def zpf:=zh zHt λx=>((zfw x.1 x.2.1.1.1 x.2.1.2.1.1 x.2.1.2.2.1.1).1,zVf (zfw x.1 x.2.1.1.1 x.2.1.2.1.1 x.2.1.2.2.1.1).2)
theorem zAM:SdP 173 zpf:=
 sT (cx':=zCP) (zi ⟨zrz,zCL,trivial⟩) call173 func173 (lOK aN)
abbrev zud:=Unit×Unit×Unit×Int×Int×Unit
abbrev zub:=(Unit×Unit)×yB×yB×Unit
abbrev zul:=yB
def zAC (t11:Int) (t12:Int) (out_:yB) (t10:yB):Wy zud zub zul:=.i (decide (t12<t11)) (.i (decide (0<=t12)&&decide (t12<Int.ofNat t10.length)) (.bn (zur (Int.ofNat t10.length)) λr1=>.bn (zfw r1 t12 t10 (t10.getD t12.toNat default)) λr0=>.i (!r0) (.i (decide ((out_.length+[t10.getD t12.toNat default].length)*24<=z7)) (.h ((),(),(),t11,(IntKind.i64.wrap (t12+1)),()) (((),()),(out_++[t10.getD t12.toNat default]),t10,())) .d) (.h ((),(),(),t11,(IntKind.i64.wrap (t12+1)),()) (((),()),out_,t10,()))) .d) (.k out_)
def zJj (x:zud) (y:zub):=zAC x.2.2.2.1 x.2.2.2.2.1 y.2.1 y.2.2.1
def zoa (n:Nat) (t11:Int) (t12:Int) (out_:yB) (t10:yB):=zH (zJj) default n ((),(),(),t11,t12,()) (((),()),out_,t10,())
def zWi (r:zul):LTree ty:=.done (.exit 0) [.own 120] [.arr 43 r false]
def zZE:LL ty zud:=za (zfa 120 0) (za (zes 121) (za (zes 122) (za zj (za zj zm))))
def zZK:BL ty zub:=ziw (za (zes 122) zm) false (zew 43 false (zew 43 false (zbg)))
def zXL (x:zud) (y:zub):Nat:=(Int.toNat x.2.2.2.1+Int.toNat x.2.2.2.2.1+y.2.1.length+y.2.2.1.length+1)
def zIT:=zbZ base 30 [(170,zyX),(171,zmk),(173,zpf),(174,zEH)] [] [(4,[(3,.keep),(4,.own 43),(10,.keep),(11,.keep),(12,.keep)])] [(4,1,(kpL [4]))] [(4,spW zZE zZK (zJj) default zWi zXL)] []
theorem zVM:zD zIT (lp (body f143) 0):=zq (id:=4) (hl:=rfl)
def z1n (l:yB):Wy0 zul:=.bn (zli l) λr5=>.bn (zoa ((Int.ofNat r5.length).toNat +Int.toNat 0+0+r5.length+1) (Int.ofNat r5.length) 0 [] r5) λr4=>.k r4
def zgw (l:yB):=(z1n l).fin default
def zYI (r:zul):ARes ty:=⟨[.own 43 r],[]⟩
def z1v:AL base (yB×Unit):=zd (ze (vSl 43)) zp
def zEV:=zh z1v λx=>((zgw x.1).1,zYI (zgw x.1).2)
theorem zSp:SdP 143 zEV:=
 sT (cx':=zIT) (zi ⟨zEJ,zrz,zAM,zRO,trivial⟩) call143 func143 (lOK (aC zVM aN)) (sg:=⟨[.own 43],[]⟩)
def z4H:=zbq base 10 [(204,zni),(212,zgQ)]
def z6Z (a:yF) (b:yF):Wy0 (yF):=.bn (zb8 a) λr1=>.i (decide ((r1.length+b.length)*16<=z7)) (.bn (zga (r1++b)) λr0=>.k r0) .d
def zyP (a:yF) (b:yF):=(z6Z a b).fin default
def zIS:=zh zzT λx=>((zyP x.1 x.2.1).1,zRG (zyP x.1 x.2.1).2)
theorem zWn:SdP 175 zIS:=
 sT (cx':=z4H) (zi ⟨ztq,zlk,trivial⟩) call175 func175 (lOK aN) (sg:=⟨[.own 49],[]⟩)
abbrev zt6:=yB×Unit×yF×yB×Int×Int×yB×Int×Int×Unit
abbrev zgJ:=yB×Unit
abbrev zIX:=yB×yB×Int×Int×yB
abbrev zt4:=yB×Unit×yB×Int×Int×Unit
abbrev zui:=yB
def zAB (b:yB) (x_:yF) (t10:yB) (t11:Int) (t12:Int) (t16:yB) (t17:Int) (t18:Int) (out_:yB):Wy zt6 zgJ zIX:=.i (decide (t18<t17)) (.i (decide (0<=t18)&&decide (t18<Int.ofNat t16.length)) (.bn (zyP x_ (t16.getD t18.toNat default)) λr2=>.i (decide ((out_.length+[r2].length)*24<=z7)) (.h (b,(),x_,t10,t11,t12,t16,t17,(IntKind.i64.wrap (t18+1)),()) ((out_++[r2]),())) .d) .d) (.k (b,t10,t11,t12,out_))
def zIP (x:zt6) (y:zgJ):=zAB x.1 x.2.2.1 x.2.2.2.1 x.2.2.2.2.1 x.2.2.2.2.2.1 x.2.2.2.2.2.2.1 x.2.2.2.2.2.2.2.1 x.2.2.2.2.2.2.2.2.1 y.1
def zue (n:Nat) (b:yB) (x_:yF) (t10:yB) (t11:Int) (t12:Int) (t16:yB) (t17:Int) (t18:Int) (out_:yB):=zH (zIP) default n (b,(),x_,t10,t11,t12,t16,t17,t18,()) (out_,())
def zXS (r:zIX):LTree ty:=.done (.exit 2) [.sl 43 r.1,.own 128,.sl 43 r.2.1,.lit (.int .i64 r.2.2.1),.lit (.int .i64 r.2.2.2.1)] [.arr 43 r.2.2.2.2 false]
def zZf:LL ty zt6:=za (lSl 43) (za (zes 128) (za (lSl 49) (za (lSl 43) (za zj (za zj (za (lSl 43) (za zj (za zj zm))))))))
def z0j:BL ty zgJ:=zew 43 false (zbg)
def zAG (b:yB) (t10:yB) (t11:Int) (t12:Int) (out_:yB):Wy zt4 zgJ zui:=.i (decide (t12<t11)) (.i (decide (0<=t12)&&decide (t12<Int.ofNat t10.length)) (.bn (zue (b.length+List.length (t10.getD t12.toNat default)+t10.length+t11.toNat +t12.toNat +b.length+(Int.ofNat b.length).toNat +Int.toNat 0+out_.length+1) b (t10.getD t12.toNat default) t10 t11 t12 b (Int.ofNat b.length) 0 out_) λr4=>.h ((r4.1),(),(r4.2.1),(r4.2.2.1),(IntKind.i64.wrap (r4.2.2.2.1+1)),()) ((r4.2.2.2.2),())) .d) (.k out_)
def zI5 (x:zt4) (y:zgJ):=zAG x.1 x.2.2.1 x.2.2.2.1 x.2.2.2.2.1 y.1
def znZ (n:Nat) (b:yB) (t10:yB) (t11:Int) (t12:Int) (out_:yB):=zH (zI5) default n (b,(),t10,t11,t12,()) (out_,())
def zVS (r:zui):LTree ty:=.done (.exit 0) [.own 128] [.arr 43 r false]
def zZJ:LL ty zt4:=za (lSl 43) (za (zes 128) (za (lSl 43) (za zj (za zj zm))))
def zWL (x:zt6) (y:zgJ):Nat:=(x.1.length+x.2.2.1.length+x.2.2.2.1.length+Int.toNat x.2.2.2.2.1+Int.toNat x.2.2.2.2.2.1+x.2.2.2.2.2.2.1.length+Int.toNat x.2.2.2.2.2.2.2.1+Int.toNat x.2.2.2.2.2.2.2.2.1+y.1.length+1)
def zXv (x:zt4) (y:zgJ):Nat:=(x.1.length+x.2.2.1.length+Int.toNat x.2.2.2.1+Int.toNat x.2.2.2.2.1+y.1.length+1)
def zAE:=zbZ base 32 [(170,zyX),(175,zIS)] [] [(3,[(1,.keep),(5,.own 43),(10,.keep),(11,.keep),(12,.keep)]),(6,[(1,.keep),(5,.own 43),(7,.keep),(10,.keep),(11,.keep),(12,.keep),(16,.keep),(17,.keep),(18,.keep)])] [(3,1,(kpL [5])),(6,3,(kpL [1,5,10,11,12]))] [(6,spW zZf z0j (zIP) default zXS zWL),(3,spW zZJ z0j (zI5) default zVS zXv)] []
theorem zWz:zD zAE (lp (body f144) 1):=zq (id:=6) (hl:=rfl)
theorem zVX:zD zAE (lp (body f144) 0):=zq (id:=3) (hl:=rfl)
def z2C (a:yB) (b:yB):Wy0 zui:=.bn (znZ (b.length+a.length+(Int.ofNat a.length).toNat +Int.toNat 0+0+1) b a (Int.ofNat a.length) 0 []) λr7=>.bn (zli r7) λr6=>.k r6
def zmc (a:yB) (b:yB):=(z2C a b).fin default
def zYk (r:zui):ARes ty:=⟨[.own 43 r],[]⟩
def z1G:AL base (yB×yB×Unit):=zd (ze (vSl 43)) (zd (ze (vSl 43)) zp)
def zEU:=zh z1G λx=>((zmc x.1 x.2.1).1,zYk (zmc x.1 x.2.1).2)
theorem zSw:SdP 144 zEU:=
 sT (cx':=zAE) (zi ⟨zEJ,zWn,trivial⟩) call144 func144 (lOK (aC zVX (aC zWz aN))) (sg:=⟨[.own 43],[]⟩)
abbrev zly:=Unit×Unit×yC×Int×Int×yD×Int×Int×Unit
abbrev zlv:=yB×yB×Unit
abbrev zAc:=yC×Int×Int×yB×yB
abbrev zlE:=Unit×yC×Int×Int×Unit
abbrev zlx:=yB×Unit
abbrev zrS:=yB
def zg1 (zM:yC->Bool×yB) (t10:yC) (t11:Int) (t12:Int) (t19:yD) (t20:Int) (t21:Int) (all:yB) (sets:yB):Wy zly zlv zAc:=.i (decide (t21<t20)) (.i (decide (0<=t21)&&decide (t21<Int.ofNat t19.length)) (.i ((t19.getD t21.toNat default).At.Kind==2) (.i (decide ((0:Int)<=(0:Int))&&decide (0<Int.ofNat (t19.getD t21.toNat default).At.Ag.length)) (.bn (zM ((t19.getD t21.toNat default).At.Ag.getD (Int.toNat 0) default)) λr12=>.bn (zmc sets r12) λr11=>.bn (zgw r11) λr10=>.h ((),(),t10,t11,t12,t19,t20,(IntKind.i64.wrap (t21+1)),()) (all,(r10),())) .d) (.bn (zmc sets [[(t19.getD t21.toNat default).At.Row]]) λr14=>.bn (zgw r14) λr13=>.h ((),(),t10,t11,t12,t19,t20,(IntKind.i64.wrap (t21+1)),()) (all,(r13),()))) .d) (.k (t10,t11,t12,all,sets))
def zou (zM:yC->Bool×yB) (x:zly) (y:zlv):=zg1 zM x.2.2.1 x.2.2.2.1 x.2.2.2.2.1 x.2.2.2.2.2.1 x.2.2.2.2.2.2.1 x.2.2.2.2.2.2.2.1 y.1 y.2.1
def zoO (zM:yC->Bool×yB) (n:Nat) (t10:yC) (t11:Int) (t12:Int) (t19:yD) (t20:Int) (t21:Int) (all:yB) (sets:yB):=zH (zou zM) default n ((),(),t10,t11,t12,t19,t20,t21,()) (all,sets,())
def zHL (r:zAc):LTree ty:=.done (.exit 2) [.own 204,.own 205,.sl 28 r.1,.lit (.int .i64 r.2.1),.lit (.int .i64 r.2.2.1)] [.arr 43 r.2.2.2.1 false,.arr 43 r.2.2.2.2 false]
def zJH:LL ty zly:=za (zes 204) (za (zes 205) (za (lSl 28) (za zj (za zj (za (lSl 69) (za zj (za zj zm)))))))
def zJC:BL ty zlv:=zew 43 false (zew 43 false (zbg))
def zg7 (zM:yC->Bool×yB) (t10:yC) (t11:Int) (t12:Int) (all:yB):Wy zlE zlx zrS:=.i (decide (t12<t11)) (.i (decide (0<=t12)&&decide (t12<Int.ofNat t10.length)) (.bn (zoO zM (t10.length+t11.toNat +t12.toNat +(t10.getD t12.toNat default).Fs.length+(Int.ofNat (t10.getD t12.toNat default).Fs.length).toNat +Int.toNat 0+all.length+1+1000) t10 t11 t12 (t10.getD t12.toNat default).Fs (Int.ofNat (t10.getD t12.toNat default).Fs.length) 0 all [[]]) λr20=>.i (decide ((r20.2.2.2.1.length+r20.2.2.2.2.length)*24<=z7)) (.h ((),(r20.1),(r20.2.1),(IntKind.i64.wrap (r20.2.2.1+1)),()) ((r20.2.2.2.1++r20.2.2.2.2),())) .d) .d) (.k all)
def zoZ (zM:yC->Bool×yB) (x:zlE) (y:zlx):=zg7 zM x.2.1 x.2.2.1 x.2.2.2.1 y.1
def zyd (zM:yC->Bool×yB) (n:Nat) (t10:yC) (t11:Int) (t12:Int) (all:yB):=zH (zoZ zM) default n ((),t10,t11,t12,()) (all,())
def zIh (r:zrS):LTree ty:=.done (.exit 0) [.own 204] [.arr 43 r false]
def zKf:LL ty zlE:=za (zes 204) (za (lSl 28) (za zj (za zj zm)))
def zKc:BL ty zlx:=zew 43 false (zbg)
def zHM (x:zly) (y:zlv):Nat:=(x.2.2.1.length+Int.toNat x.2.2.2.1+Int.toNat x.2.2.2.2.1+x.2.2.2.2.2.1.length+Int.toNat x.2.2.2.2.2.2.1+Int.toNat x.2.2.2.2.2.2.2.1+y.1.length+y.2.1.length+1000)
def zH7 (x:zlE) (y:zlx):Nat:=(x.2.1.length+Int.toNat x.2.2.1+Int.toNat x.2.2.2.1+y.1.length+1000)
def zox (zM:yC->Bool×yB):=zbZ base 51 [(74,(zjn zM)),(143,zEV),(144,zEU)] [] [(3,[(3,.own 43),(10,.keep),(11,.keep),(12,.keep)]),(7,(kpL [3,6,10,11,12,19,20,21]))] [(3,1,(kpL [3])),(7,3,(kpL [3,6,10,11,12]))] [(7,spW zJH zJC (zou zM) default zHL zHM),(3,spW zKf zKc (zoZ zM) default zIh zH7)] []
theorem zHQ (zM:yC->Bool×yB):zD (zox zM) (lp (body f74) 1):=zq (id:=7) (hl:=rfl)
theorem zIx (zM:yC->Bool×yB):zD (zox zM) (lp (body f74) 0):=zq (id:=3) (hl:=rfl)
def zyZ (zM:yC->Bool×yB) (a:yC):Wy0 zrS:=.bn (zyd zM (a.length+(Int.ofNat a.length).toNat +Int.toNat 0+0+1000) a (Int.ofNat a.length) 0 []) λr23=>.bn (zgw r23) λr22=>.k r22
def zme (zM:yC->Bool×yB) (a:yC):=(zyZ zM a).fin default
theorem zFV (zM:yC->Bool×yB) (zLS:SdP 74 (zjn zM)):SdP 74 (zjn (zme zM)):=
 sT (cx':=(zox zM)) (zi ⟨zLS,zSp,zSw,trivial⟩) call74 func74 (lOK (aC (zIx zM) (aC (zHQ zM) aN))) (sg:=⟨[.own 43],[]⟩)
def zT4:Nat->(yC->Bool×yB)
 | 0=>λ_=>(false,default)
 | n+1=>zme (zT4 n)
def zcZ (n:Nat):yC->Bool×yB:=zT4 n
theorem zJt (n:Nat):zcZ (n+1)=zme (zcZ n):=rfl
theorem zNQ:∀ n,SdP 74 (zjn (zcZ n))
 | 0=>zba call74 (λ_=>rfl)
 | n+1=>by
  have ih:=zNQ n;exact zFV _ (ih)
def zwv:yC->Bool×yB:=zcZ 1000
def zyi:Ab.Spec ty:=zjn zwv
theorem zIv:SdP 74 zyi:=(zNQ 1000)
def zMD:=zbq base 17 [(20,zcs),(73,zyg),(74,zyi)]
def zBc (a:yC):Wy0 (yB×Int):=.bn (zb7 a) λr2=>.i (!r2) (.k ([],1)) (.bn (zv6 a) λr1=>.i (!r1) (.k ([],13)) (.bn (zwv a) λr0=>.i (decide (Int.ofNat r0.length>512)) (.k ([],6)) (.k (r0,0))))
def zk4 (a:yC):=(zBc a).fin default
def zMl (r:yB×Int):ARes ty:=⟨[.own 43 r.1,.pure (.lit (.int .i64 r.2))],[]⟩
def zop:=zh zWH λx=>((zk4 x.1).1,zMl (zk4 x.1).2)
theorem zxg:SdP 24 zop:=
 sT (cx':=zMD) (zi ⟨zcC,zIC,zIv,trivial⟩) call24 func24 (lOK aN) (sg:=⟨[.own 43,.pure],[]⟩)
def zOT (r:yC×Int):ARes ty:=⟨[.own 28 r.1,.pure (.lit (.int .i64 r.2))],[]⟩
def zSN:AL zbU (yC×((yG×Unit)×Unit)×Unit):=zd (ze (vSl 28)) (zd (ze (vFn 84 (zdv (ztA (zdv (vSl 51) zbT)) zbT))) zp)
def zkx (F:yC->yG->Bool×(yC×Int)):Ab.Spec ty:=zh zSN λx=>((F x.1 x.2.1.1.1).1,zOT (F x.1 x.2.1.1.1).2)
def zLx:AL zbU (At×((yG×Unit)×Unit)×Unit):=zd (ze (zcx 67)) (zd (ze (vFn 84 (zdv (ztA (zdv (vSl 51) zbT)) zbT))) zp)
def zk5 (F:At->yG->Bool×(yC×Int)):Ab.Spec ty:=zh zLx λx=>((F x.1 x.2.1.1.1).1,zOT (F x.1 x.2.1.1.1).2)
def zKq (k:Go.Value) (l:List (Go.Value×Int)):Option Int:=zRD (ty:=ty) (V:=3) k l
def zbh3 (k:Go.Value) (l:List (Go.Value×Int)):Bool:=zId (ty:=ty) (V:=3) k l
def zbh1 (k:Go.Value) (x:Int) (l:List (Go.Value×Int)):List (Go.Value×Int):=zFS (ty:=ty) (V:=3) k x l
def zUJ (r:ByteArray):ARes ty:=⟨[.pure (.lit (.string r))],[]⟩
def zY8:AL zbU (yC×Unit):=zd (ze (vSl 28)) zp
def zt3 (F:yC->Bool×ByteArray):Ab.Spec ty:=zh zY8 λx=>((F x.1).1,zUJ (F x.1).2)
def zMR:AL zbU (At×Unit):=zd (ze (zcx 67)) zp
def zlC (F:At->Bool×ByteArray):Ab.Spec ty:=zh zMR λx=>((F x.1).1,zUJ (F x.1).2)
def zHI:AL zbU (yD×Unit):=zd (ze (vSl 69)) zp
def zgr (F:yD->Bool×ByteArray):Ab.Spec ty:=zh zHI λx=>((F x.1).1,zUJ (F x.1).2)
def zMG:=zbq base 2 []
def zOo:Wy0 (List ByteArray):=.k [ByteArray.mk #[(67:UInt8),(79:UInt8),(85:UInt8),(78:UInt8),(84:UInt8)],ByteArray.mk #[(83:UInt8),(85:UInt8),(77:UInt8)],ByteArray.mk #[(77:UInt8),(73:UInt8),(78:UInt8)],ByteArray.mk #[(77:UInt8),(65:UInt8),(88:UInt8)]]
def zcG:Bool×List ByteArray:=(zOo).fin default
def zMi (r:List ByteArray):ARes ty:=⟨[.own 9 r],[]⟩
def zOB:AL base (Unit):=zp
def zyl:=zh zOB λx=>((zcG ).1,zMi (zcG ).2)
theorem zIb:SdP 198 zyl:=
 sT (cx':=zMG) (zi trivial) call198 func198 (lOK aN) (sg:=⟨[.own 9],[]⟩)
def zMM:=zbq base 2 []
def zO7:Wy0 (List ByteArray):=.k [ByteArray.mk #[(61:UInt8)],ByteArray.mk #[(60:UInt8),(62:UInt8)],ByteArray.mk #[(60:UInt8)],ByteArray.mk #[(60:UInt8),(61:UInt8)],ByteArray.mk #[(62:UInt8)],ByteArray.mk #[(62:UInt8),(61:UInt8)]]
def zeQ:Bool×List ByteArray:=(zO7).fin default
def zyk:=zh zOB λx=>((zeQ ).1,zMi (zeQ ).2)
theorem zHU:SdP 199 zyk:=
 sT (cx':=zMM) (zi trivial) call199 func199 (lOK aN) (sg:=⟨[.own 9],[]⟩)
def strings_Join (l:List ByteArray) (sep:ByteArray):Bool×ByteArray:=z8L l sep
def zuk:Ab.Spec ty:=zh (cx:=zbU) (zd (ze (vSl 9)) (zd (ze zxY) zp)) λx=>((strings_Join x.1 x.2.1).1,⟨[.pure (.lit (.string (strings_Join x.1 x.2.1).2))],[]⟩)
theorem zzk:Sound Tryz.prog zbU 169 zuk:=zbci (T:=9) zLp rfl Go.Proofs.Tryz.lays156 Go.Proofs.Tryz.Builder_Extra_156 call169 (λs:ByteArray=>s) (λ_=>rfl) strings_Join (λl sep=>congrArg (λl=>z8L l sep) (List.map_id' (α:=ByteArray) l).symm)
def strconv_Itoa (x:Int):Bool×ByteArray:=zYT x
def zA5:Ab.Spec ty:=zh (cx:=base) (zd (ze (zhM .i64)) zp) λx=>((strconv_Itoa x.1).1,⟨[.pure (.lit (.string (strconv_Itoa x.1).2))],[]⟩)
theorem zHb:SdP 168 zA5:=zbcp zgB Go.Proofs.Tryz.laysM171 call168 (λ_ h=>h.1)
def z2y:=zbq base 15 [(128,zuj),(168,zA5)]
def z4c (id:RowID):Wy0 (ByteArray):=.bn (zp0 id) λr2=>.i (!r2) (.k (ByteArray.mk #[])) (.bn (strconv_Itoa id.Table) λr1=>.i (decide ((ByteArray.mk #[(116:UInt8)]).size+r1.size<=9223372036854775807)) (.i (decide ((ByteArray.mk #[(116:UInt8)]++r1).size+(ByteArray.mk #[(46:UInt8)]).size<=9223372036854775807)) (.bn (strconv_Itoa id.Seq) λr0=>.i (decide ((ByteArray.mk #[(116:UInt8)]++r1++ByteArray.mk #[(46:UInt8)]).size+r0.size<=9223372036854775807)) (.k (ByteArray.mk #[(116:UInt8)]++r1++ByteArray.mk #[(46:UInt8)]++r0)) .d) .d) .d)
def zIF (id:RowID):=(z4c id).fin default
def zHv:=zh z5M λx=>((zIF x.1).1,zUJ (zIF x.1).2)
theorem zVz:SdP 195 zHv:=
 sT (cx':=z2y) (zi ⟨zzG,zHb,trivial⟩) call195 func195 (lOK aN)
def zn5 (m b:Int):Bool×ByteArray:=zz7 m b
def ztj:Ab.Spec ty:=zh (cx:=base) (zd (ze (zhM .i64)) (zd (ze (zhM .i64)) zp)) λx=>((zn5 x.1 x.2.1).1,⟨[.pure (.lit (.string (zn5 x.1 x.2.1).2))],[]⟩)
theorem zAn:SdP 227 ztj:=z33 zgB Go.Proofs.Tryz.laysM173 call227 (λ_ h=>h.1)
def strings_ReplaceAll (s p q:ByteArray):Bool×ByteArray:=zxG s p q
def zAw:Ab.Spec ty:=zh (cx:=zbU) (zd (ze zxY) (zd (ze zxY) (zd (ze zxY) zp))) λx=>((strings_ReplaceAll x.1 x.2.1 x.2.2.1).1,⟨[.pure (.lit (.string (strings_ReplaceAll x.1 x.2.1 x.2.2.1).2))],[]⟩)
theorem zKY:Sound Tryz.prog zbU 228 zAw:=z1s zLp rfl Go.Proofs.Tryz.lays155 Go.Proofs.Tryz.Builder_Extra_155 call228 (λ_ h=>h.2)
def z3q:=zbq zbU 27 [(164,zww),(227,ztj),(228,zAw)]
def z6D (v:Value):Wy0 (ByteArray):=.bn (zto v) λr2=>.i (!r2) (.k (ByteArray.mk #[])) (.i (v.Kind==0) (.bn (zn5 v.Int 10) λr0=>.k r0) (.i (v.Kind==1) (.bn (strings_ReplaceAll v.Text (ByteArray.mk #[(39:UInt8)]) (ByteArray.mk #[(39:UInt8),(39:UInt8)])) λr1=>.i (decide ((ByteArray.mk #[(39:UInt8)]).size+r1.size<=9223372036854775807)) (.i (decide ((ByteArray.mk #[(39:UInt8)]++r1).size+(ByteArray.mk #[(39:UInt8)]).size<=9223372036854775807)) (.k (ByteArray.mk #[(39:UInt8)]++r1++ByteArray.mk #[(39:UInt8)])) .d) .d) (.i (v.Int==1) (.k (ByteArray.mk #[(84:UInt8),(82:UInt8),(85:UInt8),(69:UInt8)])) (.k (ByteArray.mk #[(70:UInt8),(65:UInt8),(76:UInt8),(83:UInt8),(69:UInt8)])))))
def zDR (v:Value):=(z6D v).fin default
def z6M:AL zbU (Value×Unit):=zd (ze (zcx 65)) zp
def zJk:=zh z6M λx=>((zDR x.1).1,zUJ (zDR x.1).2)
theorem zWe:Sound Tryz.prog zbU 197 zJk:=
 sU (cx':=z3q) (zi ⟨zAA.nodr,zAn.nodr,zKY,trivial⟩) call197 func197 (lOK aN)
abbrev zkZ:=Unit×Unit×yE×Int×Int×Unit
abbrev zkN:=At×List ByteArray×Unit
abbrev zyU:=At×List ByteArray
def zGF (zbv:yC->Bool×ByteArray) (t48:yE) (t49:Int) (t50:Int) (x_:At) (items:List ByteArray):Wy zkZ zkN zyU:=.i (decide (t50<t49)) (.i (decide (0<=t50)&&decide (t50<Int.ofNat t48.length)) (.bn (zDR (t48.getD t50.toNat default).Value) λr1=>.i (decide (r1.size+(ByteArray.mk #[(58:UInt8),(32:UInt8)]).size<=9223372036854775807)) (.bn (zbv (t48.getD t50.toNat default).Ann) λr0=>.i (decide ((r1++ByteArray.mk #[(58:UInt8),(32:UInt8)]).size+r0.size<=9223372036854775807)) (.i (decide ((items.length+[r1++ByteArray.mk #[(58:UInt8),(32:UInt8)]++r0].length)*16<=z7)) (.h ((),(),t48,t49,(IntKind.i64.wrap (t50+1)),()) (x_,(items++[r1++ByteArray.mk #[(58:UInt8),(32:UInt8)]++r0]),())) .d) .d) .d) .d) (.k (x_,items))
def zvV (zbv:yC->Bool×ByteArray) (x:zkZ) (y:zkN):=zGF zbv x.2.2.1 x.2.2.2.1 x.2.2.2.2.1 y.1 y.2.1
def zGr (zbv:yC->Bool×ByteArray) (n:Nat) (t48:yE) (t49:Int) (t50:Int) (x_:At) (items:List ByteArray):=zH (zvV zbv) default n ((),(),t48,t49,t50,()) (x_,items,())
def zFY (r:zyU):LTree ty:=.done (.exit 1) [.ptr 360 0,.own 361] [.box (base.enc 67 r.1) false,.arr 9 r.2 false]
def zGw:LL ty zkZ:=za (zfa 360 0) (za (zes 361) (za (lSl 100) (za zj (za zj zm))))
def zGU:BL ty zkN:=ziw (zgt (λx=>(⟨x.1,⟨x.2.1,x.2.2.1⟩,x.2.2.2.1,x.2.2.2.2.1,x.2.2.2.2.2.1,x.2.2.2.2.2.2.1,⟨x.2.2.2.2.2.2.2.1,x.2.2.2.2.2.2.2.2.1,x.2.2.2.2.2.2.2.2.2.1⟩⟩:At)) (λx=>(x.Kind,x.Row.Table,x.Row.Seq,x.Ag,x.Func,x.Items,x.Op,x.Bd.Kind,x.Bd.Int,x.Bd.Text,())) (λ_=>rfl) (za (zO .i64) (za (zO .i64) (za (zO .i64) (za (lSl 23) (za (zO .i64) (za (lSl 100) (za (zO .i64) (za (zO .i64) (za (zO .i64) (za zp3 zm))))))))))) false (zew 9 false (zbg))
def zFn (x:zkZ) (y:zkN):Nat:=(x.2.2.1.length+Int.toNat x.2.2.2.1+Int.toNat x.2.2.2.2.1+y.1.Ag.length+y.1.Items.length+y.2.1.length+1)
def zxh (zbv:yC->Bool×ByteArray):=zbZ zbU 90 [(169,zuk),(195,zHv),(196,(zt3 zbv)),(197,zJk),(198,zyl),(199,zyk)] [] [(12,[(1,.keep),(3,.own 9),(48,.keep),(49,.keep),(50,.keep)])] [(12,2,(kpL [1,3]))] [(12,spW zGw zGU (zvV zbv) default zFY zFn)] []
theorem zFL (zbv:yC->Bool×ByteArray):zD (zxh zbv) (lp (body f167) 0):=zq (id:=12) (hl:=rfl)
def zJP (zbv:yC->Bool×ByteArray) (x_:At):Wy0 (ByteArray):=.i (x_.Kind==0) (.bn (zIF x_.Row) λr4=>.k r4) (.i (x_.Kind==1) (.i (decide ((0:Int)<=(0:Int))&&decide (0<Int.ofNat x_.Ag.length)) (.bn (zbv (x_.Ag.getD (Int.toNat 0) default)) λr6=>.i (decide ((ByteArray.mk #[(109:UInt8),(111:UInt8),(110:UInt8),(117:UInt8),(115:UInt8),(91:UInt8)]).size+r6.size<=9223372036854775807)) (.i (decide ((ByteArray.mk #[(109:UInt8),(111:UInt8),(110:UInt8),(117:UInt8),(115:UInt8),(91:UInt8)]++r6).size+(ByteArray.mk #[(44:UInt8),(32:UInt8)]).size<=9223372036854775807)) (.i (decide ((0:Int)<=(1:Int))&&decide (1<Int.ofNat x_.Ag.length)) (.bn (zbv (x_.Ag.getD (Int.toNat 1) default)) λr5=>.i (decide ((ByteArray.mk #[(109:UInt8),(111:UInt8),(110:UInt8),(117:UInt8),(115:UInt8),(91:UInt8)]++r6++ByteArray.mk #[(44:UInt8),(32:UInt8)]).size+r5.size<=9223372036854775807)) (.i (decide ((ByteArray.mk #[(109:UInt8),(111:UInt8),(110:UInt8),(117:UInt8),(115:UInt8),(91:UInt8)]++r6++ByteArray.mk #[(44:UInt8),(32:UInt8)]++r5).size+(ByteArray.mk #[(93:UInt8)]).size<=9223372036854775807)) (.k (ByteArray.mk #[(109:UInt8),(111:UInt8),(110:UInt8),(117:UInt8),(115:UInt8),(91:UInt8)]++r6++ByteArray.mk #[(44:UInt8),(32:UInt8)]++r5++ByteArray.mk #[(93:UInt8)])) .d) .d) .d) .d) .d) .d) (.i (x_.Kind==2) (.i (decide ((0:Int)<=(0:Int))&&decide (0<Int.ofNat x_.Ag.length)) (.bn (zbv (x_.Ag.getD (Int.toNat 0) default)) λr7=>.i (decide ((ByteArray.mk #[(100:UInt8),(101:UInt8),(108:UInt8),(116:UInt8),(97:UInt8),(91:UInt8)]).size+r7.size<=9223372036854775807)) (.i (decide ((ByteArray.mk #[(100:UInt8),(101:UInt8),(108:UInt8),(116:UInt8),(97:UInt8),(91:UInt8)]++r7).size+(ByteArray.mk #[(93:UInt8)]).size<=9223372036854775807)) (.k (ByteArray.mk #[(100:UInt8),(101:UInt8),(108:UInt8),(116:UInt8),(97:UInt8),(91:UInt8)]++r7++ByteArray.mk #[(93:UInt8)])) .d) .d) .d) (.i (x_.Kind==3) (.i (decide ((0:Int)<=(0:Int))&&decide (0<Int.ofNat x_.Ag.length)) (.bn (zbv (x_.Ag.getD (Int.toNat 0) default)) λr8=>.i (decide ((ByteArray.mk #[(97:UInt8),(98:UInt8),(115:UInt8),(101:UInt8),(110:UInt8),(116:UInt8),(91:UInt8)]).size+r8.size<=9223372036854775807)) (.i (decide ((ByteArray.mk #[(97:UInt8),(98:UInt8),(115:UInt8),(101:UInt8),(110:UInt8),(116:UInt8),(91:UInt8)]++r8).size+(ByteArray.mk #[(93:UInt8)]).size<=9223372036854775807)) (.k (ByteArray.mk #[(97:UInt8),(98:UInt8),(115:UInt8),(101:UInt8),(110:UInt8),(116:UInt8),(91:UInt8)]++r8++ByteArray.mk #[(93:UInt8)])) .d) .d) .d) (.bn (zGr zbv (x_.Items.length+(Int.ofNat x_.Items.length).toNat +Int.toNat 0+x_.Ag.length+x_.Items.length+0+1) x_.Items (Int.ofNat x_.Items.length) 0 (At.mk x_.Kind x_.Row x_.Ag x_.Func x_.Items x_.Op x_.Bd) []) λr11=>.i (decide (0<=r11.1.Func)&&decide (r11.1.Func<Int.ofNat zcG.2.length)) (.i (decide ((ByteArray.mk #[(116:UInt8),(101:UInt8),(115:UInt8),(116:UInt8),(91:UInt8)]).size+ByteArray.size (zcG.2.getD r11.1.Func.toNat default)<=9223372036854775807)) (.i (decide ((ByteArray.mk #[(116:UInt8),(101:UInt8),(115:UInt8),(116:UInt8),(91:UInt8)]++zcG.2.getD r11.1.Func.toNat default).size+(ByteArray.mk #[(123:UInt8)]).size<=9223372036854775807)) (.bn (strings_Join r11.2 (ByteArray.mk #[(59:UInt8),(32:UInt8)])) λr10=>.i (decide ((ByteArray.mk #[(116:UInt8),(101:UInt8),(115:UInt8),(116:UInt8),(91:UInt8)]++zcG.2.getD r11.1.Func.toNat default++ByteArray.mk #[(123:UInt8)]).size+r10.size<=9223372036854775807)) (.i (decide ((ByteArray.mk #[(116:UInt8),(101:UInt8),(115:UInt8),(116:UInt8),(91:UInt8)]++zcG.2.getD r11.1.Func.toNat default++ByteArray.mk #[(123:UInt8)]++r10).size+(ByteArray.mk #[(125:UInt8),(32:UInt8)]).size<=9223372036854775807)) (.i (decide (0<=IntKind.i64.wrap (r11.1.Op - 5))&&decide (IntKind.i64.wrap (r11.1.Op - 5)<Int.ofNat zeQ.2.length)) (.i (decide ((ByteArray.mk #[(116:UInt8),(101:UInt8),(115:UInt8),(116:UInt8),(91:UInt8)]++zcG.2.getD r11.1.Func.toNat default++ByteArray.mk #[(123:UInt8)]++r10++ByteArray.mk #[(125:UInt8),(32:UInt8)]).size+ByteArray.size (zeQ.2.getD (IntKind.i64.wrap (r11.1.Op - 5)).toNat default)<=9223372036854775807)) (.i (decide ((ByteArray.mk #[(116:UInt8),(101:UInt8),(115:UInt8),(116:UInt8),(91:UInt8)]++zcG.2.getD r11.1.Func.toNat default++ByteArray.mk #[(123:UInt8)]++r10++ByteArray.mk #[(125:UInt8),(32:UInt8)]++zeQ.2.getD (IntKind.i64.wrap (r11.1.Op - 5)).toNat default).size+(ByteArray.mk #[(32:UInt8)]).size<=9223372036854775807)) (.bn (zDR r11.1.Bd) λr9=>.i (decide ((ByteArray.mk #[(116:UInt8),(101:UInt8),(115:UInt8),(116:UInt8),(91:UInt8)]++zcG.2.getD r11.1.Func.toNat default++ByteArray.mk #[(123:UInt8)]++r10++ByteArray.mk #[(125:UInt8),(32:UInt8)]++zeQ.2.getD (IntKind.i64.wrap (r11.1.Op - 5)).toNat default++ByteArray.mk #[(32:UInt8)]).size+r9.size<=9223372036854775807)) (.i (decide ((ByteArray.mk #[(116:UInt8),(101:UInt8),(115:UInt8),(116:UInt8),(91:UInt8)]++zcG.2.getD r11.1.Func.toNat default++ByteArray.mk #[(123:UInt8)]++r10++ByteArray.mk #[(125:UInt8),(32:UInt8)]++zeQ.2.getD (IntKind.i64.wrap (r11.1.Op - 5)).toNat default++ByteArray.mk #[(32:UInt8)]++r9).size+(ByteArray.mk #[(93:UInt8)]).size<=9223372036854775807)) (.k (ByteArray.mk #[(116:UInt8),(101:UInt8),(115:UInt8),(116:UInt8),(91:UInt8)]++zcG.2.getD r11.1.Func.toNat default++ByteArray.mk #[(123:UInt8)]++r10++ByteArray.mk #[(125:UInt8),(32:UInt8)]++zeQ.2.getD (IntKind.i64.wrap (r11.1.Op - 5)).toNat default++ByteArray.mk #[(32:UInt8)]++r9++ByteArray.mk #[(93:UInt8)])) .d) .d) .d) .d) .d) .d) .d) .d) .d) .d))))
def zAo (zbv:yC->Bool×ByteArray) (x_:At):=(zJP zbv x_).fin default
theorem zEq (zbv:yC->Bool×ByteArray) (zUM:Sound Tryz.prog zbU 196 (zt3 zbv)):Sound Tryz.prog zbU 167 (zlC (zAo zbv)):=
 sU (cx':=(zxh zbv)) (zi ⟨zzk,zVz.nodr,zUM,zWe,zIb.nodr,zHU.nodr,trivial⟩) call167 func167 (lOK (aC (zFL zbv) aN))
abbrev ziZ:=Unit×yD×Int×Int×Unit
abbrev zja:=List ByteArray×Unit
def zEA (zbj:At->Bool×ByteArray) (t7:yD) (t8:Int) (t9:Int) (out_:List ByteArray):Wy ziZ zja (List ByteArray):=.i (decide (t9<t8)) (.i (decide (0<=t9)&&decide (t9<Int.ofNat t7.length)) (.bn (zbj (At.mk (t7.getD t9.toNat default).At.Kind (t7.getD t9.toNat default).At.Row (t7.getD t9.toNat default).At.Ag (t7.getD t9.toNat default).At.Func (t7.getD t9.toNat default).At.Items (t7.getD t9.toNat default).At.Op (t7.getD t9.toNat default).At.Bd)) λr1=>.i ((t7.getD t9.toNat default).Exp != 1) (.bn (strconv_Itoa (t7.getD t9.toNat default).Exp) λr0=>.i (decide ((ByteArray.mk #[(94:UInt8)]).size+r0.size<=9223372036854775807)) (.i (decide (r1.size+(ByteArray.mk #[(94:UInt8)]++r0).size<=9223372036854775807)) (.i (decide ((out_.length+[r1++(ByteArray.mk #[(94:UInt8)]++r0)].length)*16<=z7)) (.h ((),t7,t8,(IntKind.i64.wrap (t9+1)),()) ((out_++[r1++(ByteArray.mk #[(94:UInt8)]++r0)]),())) .d) .d) .d) (.i (decide ((out_.length+[r1].length)*16<=z7)) (.h ((),t7,t8,(IntKind.i64.wrap (t9+1)),()) ((out_++[r1]),())) .d)) .d) (.k out_)
def ztT (zbj:At->Bool×ByteArray) (x:ziZ) (y:zja):=zEA zbj x.2.1 x.2.2.1 x.2.2.2.1 y.1
def zEk (zbj:At->Bool×ByteArray) (n:Nat) (t7:yD) (t8:Int) (t9:Int) (out_:List ByteArray):=zH (ztT zbj) default n ((),t7,t8,t9,()) (out_,())
def zDw (r:List ByteArray):LTree ty:=.done (.exit 0) [.own 128] [.arr 9 r false]
def zEv:LL ty ziZ:=za (zes 128) (za (lSl 69) (za zj (za zj zm)))
def zEs:BL ty zja:=zew 9 false (zbg)
def zD6 (x:ziZ) (y:zja):Nat:=(x.2.1.length+Int.toNat x.2.2.1+Int.toNat x.2.2.2.1+y.1.length+1)
def ztU (zbj:At->Bool×ByteArray):=zbZ zbU 32 [(167,(zlC zbj)),(168,zA5),(169,zuk)] [] [(3,[(3,.own 9),(7,.keep),(8,.keep),(9,.keep)])] [(3,1,(kpL [3]))] [(3,spW zEv zEs (ztT zbj) default zDw zD6)] []
theorem zD0 (zbj:At->Bool×ByteArray):zD (ztU zbj) (lp (body f139) 0):=zq (id:=3) (hl:=rfl)
def zFO (zbj:At->Bool×ByteArray) (l:yD):Wy0 (ByteArray):=.bn (zEk zbj (l.length+(Int.ofNat l.length).toNat +Int.toNat 0+0+1) l (Int.ofNat l.length) 0 []) λr5=>.bn (strings_Join r5 (ByteArray.mk #[(42:UInt8)])) λr4=>.k r4
def zxl (zbj:At->Bool×ByteArray) (l:yD):=(zFO zbj l).fin default
theorem zBL (zbj:At->Bool×ByteArray) (zJr:Sound Tryz.prog zbU 167 (zlC zbj)):Sound Tryz.prog zbU 139 (zgr (zxl zbj)):=
 sU (cx':=(ztU zbj)) (zi ⟨zJr,zHb.nodr,zzk,trivial⟩) call139 func139 (lOK (aC (zD0 zbj) aN))
end Go.Proofs.YtljlfiomikifjaaGreatDoor
end
