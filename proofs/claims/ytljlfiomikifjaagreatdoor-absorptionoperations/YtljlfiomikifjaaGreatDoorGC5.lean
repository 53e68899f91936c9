/- Texts of this claim, joined (the program, its functions in plain words, and what they compute). -/
import Derived.Test.YtljlfiomikifjaaGreatDoorGC4
set_option autoImplicit false
set_option linter.unusedVariables false
set_option linter.unusedSectionVars false
set_option linter.unusedSimpArgs false
set_option maxRecDepth 1000000
set_option maxHeartbeats 0
noncomputable section
namespace Go.Proofs.YtljlfiomikifjaaGreatDoor
open Go Go.Ab
open Go.Proofs.Tryz
abbrev zgr:=yF×yF×Int×Int×Unit
def zBE (s1:yF) (s2:yF) (t12:Int) (t13:Int):Wy zgr Unit (Bool⊕Unit):=.i (decide (t13<t12)) (.i (decide (0<=t13)&&decide (t13<Int.ofNat s1.length)) (.i (decide (0<=t13)&&decide (t13<Int.ofNat s2.length)) (.i (!((s1.getD t13.toNat default).Table==(s2.getD t13.toNat default).Table&&((s1.getD t13.toNat default).Seq==(s2.getD t13.toNat default).Seq&&true))) (.k (.inl false)) (.h (s1,s2,t12,(IntKind.i64.wrap (t13+1)),()) ())) .d) .d) (.k (.inr ()))
def zn1 (x:zgr) (y:Unit):=zBE x.1 x.2.1 x.2.2.1 x.2.2.2.1
def zBM (n:Nat) (s1:yF) (s2:yF) (t12:Int) (t13:Int):=zy (zn1) (.inl default) n (s1,s2,t12,t13,()) ()
def zCj:LL ty zgr:=za (lSl 49) (za (lSl 49) (za zj (za zj zk)))
def zA5 (x:zgr) (y:Unit):Nat:=(x.1.length+x.2.1.length+Int.toNat x.2.2.1+Int.toNat x.2.2.2.1+1)
def zn7:=zbY base 26 [] [] [(4,(kpL [0,1,12,13]))] [(4,1,[]),(4,0,(kpL [4]))] [(4,spW zCj zbcZ (zn1) (.inl default) zSy zA5)] []
theorem zBd:zA zn7 (lp (body f209) 0):=zp (id:=4) (hl:=rfl)
def zCx (s1:yF) (s2:yF):Wy0 (Bool):=.i (Int.ofNat s1.length != Int.ofNat s2.length) (.k false) (.bn (zBM (s1.length+s2.length+(Int.ofNat s1.length).toNat +Int.toNat 0+1) s1 s2 (Int.ofNat s1.length) 0) λr0=>.i (isL r0) (.k (getL r0)) (.k true))
def zj9 (s1:yF) (s2:yF):=(zCx s1 s2).fin default
def zCN:AL base (yF×yF×Unit):=zc (ze (vSl 49)) (zc (ze (vSl 49)) zo)
def zmW:=zh zCN λx=>((zj9 x.1 x.2.1).1,zYA (zj9 x.1 x.2.1).2)
theorem zzg:SdP 209 zmW:=
 sT (cx':=zn7) (zi trivial) call209 func209 (lOK (aC zBd aN))
def zYR:=zbl base 8 [(209,zmW)]
def z2l (a:yF) (b:yF):Wy0 (Bool):=.bn (zj9 a b) λr0=>.k r0
def zyr (a:yF) (b:yF):=(z2l a b).fin default
def zwL:=zh zCN λx=>((zyr x.1 x.2.1).1,zYA (zyr x.1 x.2.1).2)
theorem zD3:SdP 208 zwL:=
 sT (cx':=zYR) (zi ⟨zzg,trivial⟩) call208 func208 (lOK aN)
def z30:=zbl base 17 [(120,zlS),(121,zlT)]
def z6B (a:RowID) (b:RowID):Wy0 (Int):=.bn (zd5 a.Table b.Table) λr2=>.bn (zd5 a.Seq b.Seq) λr1=>.bn (znm [r2,r1]) λr0=>.k r0
def zm2 (a:RowID) (b:RowID):=(z6B a b).fin default
def z6a:AL base (RowID×RowID×Unit):=zc (ze (zcl 49)) (zc (ze (zcl 49)) zo)
def zm0:=zh z6a λx=>((zm2 x.1 x.2.1).1,zTh (zm2 x.1 x.2.1).2)
theorem zqo:SdP 233 zm0:=
 sT (cx':=z30) (zi ⟨znd,zoA,trivial⟩) call233 func233 (lOK aN)
def ze4:Cx ty:={ base with nt:=8 }
def zfY (s:yF):Bool×yF:=(decide (s.length*16<=zG),s)
def zhc:Ab.Spec ty:=zh (cx:=base) (zc (ze (vSl 49)) zo) λx=>((zfY x.1).1,⟨[.own 49 (zfY x.1).2],[]⟩)
theorem zBa:zgv ze4 f212 (body f212) ⟨[.own 49],[]⟩ [.pure (.lit (.slice none 0 0))]=some ⟨[.own 49 []],[]⟩:=by kernel_rfl
theorem zy9 (p:Addr) (c:Nat):zgv ze4 f212 (body f212) ⟨[.own 49],[]⟩ [.pure (.lit (.slice (some p) 0 c))]=some ⟨[.own 49 []],[]⟩:=by kernel_rfl
theorem zAo (l:yF):zgv ze4 f212 (body f212) ⟨[.own 49],[]⟩ [.pure (.sl 49 l)]=bif !l.isEmpty then bif decide ((([]:List (ty 49)).length+l.length)*16<=zG) then some ⟨[.own 49 l],[]⟩ else none else none:=by kernel_rfl
theorem zl6:SdP 212 zhc:=
 zJK (cx':=ze4) (bytes:=16) zGn zfi ⟨⟨rfl,rfl,rfl,rfl,rfl,rfl⟩,rfl⟩ (λg s h=>by cases h) call212 func212 (c:=body f212) (by kernel_rfl) (zCB (l:=[]) (by kernel_rfl) trivial) zBa zy9 zAo (by kernel_rfl)
abbrev zfz:=Unit×Int×(Nat×Nat)×Int×Unit
abbrev zcc:=yF×Unit
abbrev zpg:=Int×yF
abbrev zjm:=Unit×Int×Unit
abbrev zpp:=(Nat×yF)⊕yF
def zAt (k:Int) (s2_0:Nat) (s2_1:Nat) (k2:Int) (s:yF):Wy zfz zcc zpg:=.i (decide (k2<Int.ofNat s2_1)) (.i (decide (0<=k2)&&decide (k2<Int.ofNat s2_1)) (.i (decide (0<=IntKind.i64.wrap (k2 - 1))&&decide (IntKind.i64.wrap (k2 - 1)<Int.ofNat s2_1)) (.i (!((s.getD (s2_0+k2.toNat) default).Table==(s.getD (s2_0+(IntKind.i64.wrap (k2 - 1)).toNat) default).Table&&((s.getD (s2_0+k2.toNat) default).Seq==(s.getD (s2_0+(IntKind.i64.wrap (k2 - 1)).toNat) default).Seq&&true))) (.i (decide (0<=k2)&&decide (k2<Int.ofNat s2_1)) (.i (decide (0<=k)&&decide (k<Int.ofNat s.length)) (.i (decide (k.toNat<s.length)) (.h ((),(IntKind.i64.wrap (k+1)),(s2_0,s2_1),(IntKind.i64.wrap (k2+1)),()) ((s.set k.toNat (s.getD (s2_0+k2.toNat) default)),())) .d) .d) .d) (.h ((),k,(s2_0,s2_1),(IntKind.i64.wrap (k2+1)),()) (s,()))) .d) .d) (.k (k,s))
def zmH (x:zfz) (y:zcc):=zAt x.2.1 x.2.2.1.1 x.2.2.1.2 x.2.2.2.1 y.1
def zz8 (n:Nat) (k:Int) (s2_0:Nat) (s2_1:Nat) (k2:Int) (s:yF):=zy (zmH) default n ((),k,(s2_0,s2_1),k2,()) (s,())
def zzD (r:zpg):LTree ty:=.done (.exit 2) [.own 244,.lit (.int .i64 r.1)] [.arr 49 r.2 false]
def zz7:LL ty zfz:=za (zdh 244) (za zj (za (zbnO 244) (za zj zk)))
def zz3:BL ty zcc:=zdj 49 false (z6)
def zAq (k:Int) (s:yF):Wy zjm zcc zpp:=.i (decide (k<Int.ofNat s.length)) (.i (decide (0<=k)&&decide (k<Int.ofNat s.length)) (.i (decide (0<=IntKind.i64.wrap (k - 1))&&decide (IntKind.i64.wrap (k - 1)<Int.ofNat s.length)) (.i ((s.getD k.toNat default).Table==(s.getD (IntKind.i64.wrap (k - 1)).toNat default).Table&&((s.getD k.toNat default).Seq==(s.getD (IntKind.i64.wrap (k - 1)).toNat default).Seq&&true)) (.i (decide (0<=k)&&decide (k<=Int.ofNat s.length)&&decide (Int.ofNat s.length<=Int.ofNat s.length)) (.bn (zz8 (k.toNat +k.toNat +((Int.ofNat s.length).toNat - k.toNat)+Int.toNat 1+s.length+1) k k.toNat ((Int.ofNat s.length).toNat - k.toNat) 1 s) λr0=>.i (decide (0<=r0.1)&&decide (r0.1<=Int.ofNat r0.2.length)&&decide (Int.ofNat r0.2.length<=Int.ofNat r0.2.length)) (.i (decide (r0.1.toNat +((Int.ofNat r0.2.length).toNat - r0.1.toNat)<=r0.2.length)) (.i (decide ((0:Int)<=(0:Int))&&decide (0<=r0.1)&&decide (r0.1<=Int.ofNat (List.take r0.1.toNat r0.2++List.replicate ((Int.ofNat r0.2.length).toNat - r0.1.toNat) (RowID.mk 0 0)++List.drop (r0.1.toNat +((Int.ofNat r0.2.length).toNat - r0.1.toNat)) r0.2).length)) (.k (.inl (r0.1.toNat - Int.toNat 0,List.take r0.1.toNat r0.2++List.replicate ((Int.ofNat r0.2.length).toNat - r0.1.toNat) (RowID.mk 0 0)++List.drop (r0.1.toNat +((Int.ofNat r0.2.length).toNat - r0.1.toNat)) r0.2))) .d) .d) .d) .d) (.h ((),(IntKind.i64.wrap (k+1)),()) (s,()))) .d) .d) (.k (.inr s))
def zmJ (x:zjm) (y:zcc):=zAq x.2.1 y.1
def zzZ (n:Nat) (k:Int) (s:yF):=zy (zmJ) (.inl default) n ((),k,()) (s,())
def zzA (r:zpp):LTree ty:=.ite (isL r) (.done .ret [.sub 244 0 ((getL r).1)] [.arr 49 ((getL r).2) false]) (.done (.exit 0) [.own 244] [.arr 49 (getR r) false])
def zAc:LL ty zjm:=za (zdh 244) (za zj zk)
def zzd (x:zfz) (y:zcc):Nat:=(Int.toNat x.2.1+x.2.2.1.1+x.2.2.1.2+Int.toNat x.2.2.2.1+y.1.length+1)
def zha:=zbY base 61 [] [] [(4,(kpL [0,3])),(9,(kpL [0,3,4,5]))] [(4,1,(kpL [0])),(4,0,(kpL [2])),(9,3,(kpL [0,3]))] [(9,spW zz7 zz3 (zmH) default zzD zzd),(4,spW zAc zz3 (zmJ) (.inl default) zzA λx y=>(Int.toNat x.2.1+y.1.length+1))] []
theorem zzE:zA zha (lp (body f234) 1):=zp (id:=9) (hl:=rfl)
theorem zzl:zA zha (lp (body f234) 0):=zp (id:=4) (hl:=rfl)
def zA9 (s:yF):Wy0 (yF):=.i (decide (Int.ofNat s.length<2)) (.k s) (.bn (zzZ (Int.toNat 1+s.length+1) 1 s) λr2=>.i (isL r2) (.k (List.take (getL r2).1 (getL r2).2)) (.k (getR r2)))
def ziT (s:yF):=(zA9 s).fin default
def zzr (r:yF):ARes ty:=⟨[.own 49 r],[none]⟩
def zBe:AL base zcc:=zc (zka 49) zo
def zlC:=zh zBe λx=>((ziT x.1).1,zzr (ziT x.1).2)
theorem zxw:SdP 234 zlC:=
 sT (cx':=zha) (zi trivial) call234 func234 (lOK (aC zzl (aC zzE aN))) (sg:=⟨[.own 49],[false]⟩)
def zil (x:yF):Bool×yF:=zu7 (λa b=>zm2 a b) x
def zla:Ab.Spec ty:=zh (cx:=base) (zc (zka 49) (zc (ze (vFn 233 (zbT))) zo)) λx=>((zil x.1).1,⟨[],[some ⟨49,(zil x.1).2⟩]⟩)
theorem zyt (c:Unit) (x y:RowID) (h:(zm2 x y).1=true):zm0 ((AV.agg (base.enc 49 x)::AV.agg (base.enc 49 y)::(zbT:VL base (Unit)).enc c).map Arg.pure)=some (true,⟨[.pure (.lit (.int .i64 (zm2 x y).2))],[]⟩):=by
 rw [<- h]; kernel_rfl
theorem zwP:SdP 232 zla:=by
 letI:DecidableEq (ty 49):=inferInstanceAs (DecidableEq RowID)
 exact zbgk (T:=49) zfi rfl Go.Proofs.Tryz.sortRow Tryz.isAgg49 (by unfold zu; exact Tryz.sizeOf49) call232 zqo (zbT) (λc=>λa b=>zm2 a b) zyt
def zZz:=zbY base 10 [(212,zhc),(232,zla),(233,zm0),(234,zlC)] [(232,[true,false]),(234,[true])] [] [] [] []
def zZ3 (l:yF):Wy0 (yF):=.bn (zfY l) λr2=>.bn (zil r2) λr1=>.bn (ziT r1) λr0=>.k r0
def zrl (l:yF):=(zZ3 l).fin default
def zWg (r:yF):ARes ty:=⟨[.own 49 r],[]⟩
def z1g:AL base (yF×Unit):=zc (ze (vSl 49)) zo
def zoF:=zh z1g λx=>((zrl x.1).1,zWg (zrl x.1).2)
theorem zvv:SdP 204 zoF:=
 sT (cx':=zZz) (zi ⟨zl6,zwP,zqo,zxw,trivial⟩) call204 func204 (lOK aN) (sg:=⟨[.own 49],[]⟩)
abbrev zcB:=yF×yF×Unit×yF×Int×Int×Unit
abbrev zf1:=Int⊕(yF×yF)
def zkE (s1:yF) (s2:yF) (t11:yF) (t12:Int) (t13:Int):Wy zcB Unit zf1:=.i (decide (t13<t12)) (.i (decide (0<=t13)&&decide (t13<Int.ofNat t11.length)) (.i (decide (t13≥Int.ofNat s2.length)) (.k (.inl 1)) (.i (decide (0<=t13)&&decide (t13<Int.ofNat s2.length)) (.bn (zm2 (t11.getD t13.toNat default) (s2.getD t13.toNat default)) λr0=>.i (r0 != 0) (.k (.inl (r0))) (.h (s1,s2,(),t11,t12,(IntKind.i64.wrap (t13+1)),()) ())) .d)) .d) (.k (.inr (s1,s2)))
def zeP (x:zcB) (y:Unit):=zkE x.1 x.2.1 x.2.2.2.1 x.2.2.2.2.1 x.2.2.2.2.2.1
def zkP (n:Nat) (s1:yF) (s2:yF) (t11:yF) (t12:Int) (t13:Int):=zy (zeP) (.inl default) n (s1,s2,(),t11,t12,t13,()) ()
def zkp (r:zf1):LTree ty:=.ite (isL r) (.done .ret [.lit (.int .i64 (getL r))] []) (.done (.exit 0) [.sl 49 (getR r).1,.sl 49 (getR r).2] [])
def zkG:LL ty zcB:=za (lSl 49) (za (lSl 49) (za (lFn 233 (zk)) (za (lSl 49) (za zj (za zj zk)))))
def zkv (x:zcB) (y:Unit):Nat:=(x.1.length+x.2.1.length+x.2.2.2.1.length+Int.toNat x.2.2.2.2.1+Int.toNat x.2.2.2.2.2.1+1)
def zeN:=zbY base 39 [(233,zm0)] [] [(2,(kpL [0,1,2,11,12,13]))] [(2,1,(kpL [0,1])),(2,0,(kpL [6]))] [(2,spW zkG zbcZ (zeP) (.inl default) zkp zkv)] []
theorem zko:zA zeN (lp (body f236) 0):=zp (id:=2) (hl:=rfl)
def zk5 (s1:yF) (s2:yF):Wy0 (Int):=.bn (zkP (s1.length+s2.length+s1.length+(Int.ofNat s1.length).toNat +Int.toNat 0+1) s1 s2 s1 (Int.ofNat s1.length) 0) λr2=>.i (isL r2) (.k (getL r2)) (.i (decide (Int.ofNat (getR r2).1.length<Int.ofNat (getR r2).2.length)) (.k (-1:Int)) (.k 0))
def zdb (s1:yF) (s2:yF):=(zk5 s1 s2).fin default
def zk6:AL base (yF×yF×Unit×Unit):=zc (ze (vSl 49)) (zc (ze (vSl 49)) (zc (ze (vFn 233 zbT)) zo))
def zeF:=zh zk6 λx=>((zdb x.1 x.2.1).1,zTh (zdb x.1 x.2.1).2)
theorem zj4:SdP 236 zeF:=
 sT (cx':=zeN) (zi ⟨zqo,trivial⟩) call236 func236 (lOK (aC zko aN))
def zUh:=zbl base 8 [(233,zm0),(236,zeF)]
def zW6 (a:yF) (b:yF):Wy0 (Int):=.bn (zdb a b) λr0=>.k r0
def zkL (a:yF) (b:yF):=(zW6 a b).fin default
def ztx:=zh zCN λx=>((zkL x.1 x.2.1).1,zTh (zkL x.1 x.2.1).2)
theorem zBZ:SdP 206 ztx:=
 sT (cx':=zUh) (zi ⟨zqo,zj4,trivial⟩) call206 func206 (lOK aN)
abbrev zeq:=Unit×Unit×Int×(Nat×Nat)×Int×Unit
abbrev zb9:=yB×Unit
abbrev zlp:=Int×yB
abbrev zgs:=Unit×Unit×Int×Unit
abbrev zlW:=(Nat×yB)⊕yB
def zuW (k:Int) (s2_0:Nat) (s2_1:Nat) (k2:Int) (s:yB):Wy zeq zb9 zlp:=.i (decide (k2<Int.ofNat s2_1)) (.i (decide (0<=k2)&&decide (k2<Int.ofNat s2_1)) (.i (decide (0<=IntKind.i64.wrap (k2 - 1))&&decide (IntKind.i64.wrap (k2 - 1)<Int.ofNat s2_1)) (.bn (zyr (s.getD (s2_0+k2.toNat) default) (s.getD (s2_0+(IntKind.i64.wrap (k2 - 1)).toNat) default)) λr0=>.i (!r0) (.i (decide (0<=k2)&&decide (k2<Int.ofNat s2_1)) (.i (decide (0<=k)&&decide (k<Int.ofNat s.length)) (.i (decide (k.toNat<s.length)) (.h ((),(),(IntKind.i64.wrap (k+1)),(s2_0,s2_1),(IntKind.i64.wrap (k2+1)),()) ((s.set k.toNat (s.getD (s2_0+k2.toNat) default)),())) .d) .d) .d) (.h ((),(),k,(s2_0,s2_1),(IntKind.i64.wrap (k2+1)),()) (s,()))) .d) .d) (.k (k,s))
def zkb (x:zeq) (y:zb9):=zuW x.2.2.1 x.2.2.2.1.1 x.2.2.2.1.2 x.2.2.2.2.1 y.1
def zvD (n:Nat) (k:Int) (s2_0:Nat) (s2_1:Nat) (k2:Int) (s:yB):=zy (zkb) default n ((),(),k,(s2_0,s2_1),k2,()) (s,())
def zuE (r:zlp):LTree ty:=.done (.exit 2) [.own 264,.lit (.int .i64 r.1)] [.arr 43 r.2 false]
def zvf:LL ty zeq:=za (zdh 264) (za (lFn 208 (zk)) (za zj (za (zbnO 264) (za zj zk))))
def zvp:BL ty zb9:=zdj 43 false (z6)
def zvi (k:Int) (s:yB):Wy zgs zb9 zlW:=.i (decide (k<Int.ofNat s.length)) (.i (decide (0<=k)&&decide (k<Int.ofNat s.length)) (.i (decide (0<=IntKind.i64.wrap (k - 1))&&decide (IntKind.i64.wrap (k - 1)<Int.ofNat s.length)) (.bn (zyr (s.getD k.toNat default) (s.getD (IntKind.i64.wrap (k - 1)).toNat default)) λr3=>.i (r3) (.i (decide (0<=k)&&decide (k<=Int.ofNat s.length)&&decide (Int.ofNat s.length<=Int.ofNat s.length)) (.bn (zvD (k.toNat +k.toNat +((Int.ofNat s.length).toNat - k.toNat)+Int.toNat 1+s.length+1) k k.toNat ((Int.ofNat s.length).toNat - k.toNat) 1 s) λr2=>.i (decide (0<=r2.1)&&decide (r2.1<=Int.ofNat r2.2.length)&&decide (Int.ofNat r2.2.length<=Int.ofNat r2.2.length)) (.i (decide (r2.1.toNat +((Int.ofNat r2.2.length).toNat - r2.1.toNat)<=r2.2.length)) (.i (decide ((0:Int)<=(0:Int))&&decide (0<=r2.1)&&decide (r2.1<=Int.ofNat (List.take r2.1.toNat r2.2++List.replicate ((Int.ofNat r2.2.length).toNat - r2.1.toNat) []++List.drop (r2.1.toNat +((Int.ofNat r2.2.length).toNat - r2.1.toNat)) r2.2).length)) (.k (.inl (r2.1.toNat - Int.toNat 0,List.take r2.1.toNat r2.2++List.replicate ((Int.ofNat r2.2.length).toNat - r2.1.toNat) []++List.drop (r2.1.toNat +((Int.ofNat r2.2.length).toNat - r2.1.toNat)) r2.2))) .d) .d) .d) .d) (.h ((),(),(IntKind.i64.wrap (k+1)),()) (s,()))) .d) .d) (.k (.inr s))
def zj2 (x:zgs) (y:zb9):=zvi x.2.2.1 y.1
def zu9 (n:Nat) (k:Int) (s:yB):=zy (zj2) (.inl default) n ((),(),k,()) (s,())
def zul (r:zlW):LTree ty:=.ite (isL r) (.done .ret [.sub 264 0 ((getL r).1)] [.arr 43 ((getL r).2) false]) (.done (.exit 0) [.own 264] [.arr 43 (getR r) false])
def zvz:LL ty zgs:=za (zdh 264) (za (lFn 208 (zk)) (za zj zk))
def zuh (x:zeq) (y:zb9):Nat:=(Int.toNat x.2.2.1+x.2.2.2.1.1+x.2.2.2.1.2+Int.toNat x.2.2.2.2.1+y.1.length+1)
def zfd:=zbY base 66 [(208,zwL)] [] [(4,(kpL [0,1,5])),(9,(kpL [0,1,5,6,7]))] [(4,1,(kpL [0])),(4,0,(kpL [4])),(9,3,(kpL [0,5]))] [(9,spW zvf zvp (zkb) default zuE zuh),(4,spW zvz zvp (zj2) (.inl default) zul λx y=>(Int.toNat x.2.2.1+y.1.length+1))] []
theorem zut:zA zfd (lp (body f207) 1):=zp (id:=9) (hl:=rfl)
theorem zuG:zA zfd (lp (body f207) 0):=zp (id:=4) (hl:=rfl)
def zvQ (s:yB):Wy0 (yB):=.i (decide (Int.ofNat s.length<2)) (.k s) (.bn (zu9 (Int.toNat 1+s.length+1) 1 s) λr6=>.i (isL r6) (.k (List.take (getL r6).1 (getL r6).2)) (.k (getR r6)))
def zf6 (s:yB):=(zvQ s).fin default
def ztW (r:yB):ARes ty:=⟨[.own 43 r],[none]⟩
def zvR:AL base (yB×Unit×Unit):=zc (zka 43) (zc (ze (vFn 208 zbT)) zo)
def ziZ:=zh zvR λx=>((zf6 x.1).1,ztW (zf6 x.1).2)
theorem zsP:SdP 207 ziZ:=
 sT (cx':=zfd) (zi ⟨zD3,trivial⟩) call207 func207 (lOK (aC zuG (aC zut aN))) (sg:=⟨[.own 43],[false]⟩)
def zhh (x:yB):Bool×yB:=zu7 (λa b=>zkL a b) x
def zkl:Ab.Spec ty:=zh (cx:=base) (zc (zka 43) (zc (ze (vFn 206 (zbT))) zo)) λx=>((zhh x.1).1,⟨[],[some ⟨43,(zhh x.1).2⟩]⟩)
theorem zwN (c:Unit) (x y:(yF)) (h:(zkL x y).1=true):ztx (((.sl 49 x:AV ty)::(.sl 49 y:AV ty)::(zbT:VL base (Unit)).enc c).map Arg.pure)=some (true,⟨[.pure (.lit (.int .i64 (zkL x y).2))],[]⟩):=by
 rw [<- h]; kernel_rfl
theorem zvt:SdP 205 zkl:=by
 letI:DecidableEq (ty 43):=inferInstanceAs (DecidableEq (yF))
 exact zbgh (T:=43) zfi rfl Go.Proofs.Tryz.sortSet (λx:(yF)=>(.sl 49 x:AV ty)) (λ_=>rfl) call205 zBZ (zbT) (λc=>λa b=>zkL a b) zwN
abbrev zyE:=Unit×yB×Int×Int×Unit
abbrev zrt:=yB×Unit
abbrev zyJ:=yB
def z5F (t6:yB) (t7:Int) (t8:Int) (out_:yB):Wy zyE zrt zyJ:=.i (decide (t8<t7)) (.i (decide (0<=t8)&&decide (t8<Int.ofNat t6.length)) (.bn (zrl (t6.getD t8.toNat default)) λr0=>.i (decide ((out_.length+[r0].length)*24<=zG)) (.h ((),t6,t7,(IntKind.i64.wrap (t8+1)),()) ((out_++[r0]),())) .d) .d) (.k out_)
def zOQ (x:zyE) (y:zrt):=z5F x.2.1 x.2.2.1 x.2.2.2.1 y.1
def z6i (n:Nat) (t6:yB) (t7:Int) (t8:Int) (out_:yB):=zy (zOQ) default n ((),t6,t7,t8,()) (out_,())
def z3t (r:zyJ):LTree ty:=.done (.exit 0) [.own 88] [.arr 43 r false]
def z5Q:LL ty zyE:=za (zdh 88) (za (lSl 43) (za zj (za zj zk)))
def z6K:BL ty zrt:=zdj 43 false (z6)
def z4z (x:zyE) (y:zrt):Nat:=(x.2.1.length+Int.toNat x.2.2.1+Int.toNat x.2.2.2.1+y.1.length+1)
def zPd:=zbY base 22 [(204,zoF),(205,zkl),(206,ztx),(207,ziZ),(208,zwL)] [(205,[true,false]),(207,[true,false])] [(3,[(3,.own 43),(6,.keep),(7,.keep),(8,.keep)])] [(3,1,(kpL [3]))] [(3,spW z5Q z6K (zOQ) default z3t z4z)] []
theorem z4h:zA zPd (lp (body f170) 0):=zp (id:=3) (hl:=rfl)
def z86 (l:yB):Wy0 zyJ:=.bn (z6i (l.length+(Int.ofNat l.length).toNat +Int.toNat 0+0+1) l (Int.ofNat l.length) 0 []) λr4=>.bn (zhh r4) λr3=>.bn (zf6 r3) λr2=>.k r2
def zEj (l:yB):=(z86 l).fin default
def z35 (r:zyJ):ARes ty:=⟨[.own 43 r],[]⟩
def z9M:AL base zrt:=zc (ze (vSl 43)) zo
def zBX:=zh z9M λx=>((zEj x.1).1,z35 (zEj x.1).2)
theorem zIg:SdP 170 zBX:=
 sT (cx':=zPd) (zi ⟨zvv,zvt,zBZ,zsP,zD3,trivial⟩) call170 func170 (lOK (aC z4h aN)) (sg:=⟨[.own 43],[]⟩)
abbrev zgp:=yF×Unit×Int×Int×Unit
def zBw (s:yF) (t7:Int) (t8:Int) (v:RowID):Wy zgp (RowID×Unit) (Int⊕Unit):=.i (decide (t8<t7)) (.i (decide (0<=t8)&&decide (t8<Int.ofNat s.length)) (.i (v.Table==(s.getD t8.toNat default).Table&&(v.Seq==(s.getD t8.toNat default).Seq&&true)) (.k (.inl t8)) (.h (s,(),t7,(IntKind.i64.wrap (t8+1)),()) (v,()))) .d) (.k (.inr ()))
def zoa (x:zgp) (y:RowID×Unit):=zBw x.1 x.2.2.1 x.2.2.2.1 y.1
def zBF (n:Nat) (s:yF) (t7:Int) (t8:Int) (v:RowID):=zy (zoa) (.inl default) n (s,(),t7,t8,()) (v,())
def zBH:LL ty zgp:=za (lSl 49) (za (zdR 76 0) (za zj (za zj zk)))
def zB2:BL ty (RowID×Unit):=zff (zeK (λx=>(⟨x.1,x.2.1⟩:RowID)) (λx=>(x.Table,x.Seq,())) (λ_=>rfl) (za (zI .i64) (za (zI .i64) zk))) false (z6)
def zA6 (x:zgp) (y:RowID×Unit):Nat:=(x.1.length+Int.toNat x.2.2.1+Int.toNat x.2.2.2.1+1)
def zoc:=zbY base 19 [] [] [(2,(kpL [0,3,7,8]))] [(2,1,[]),(2,0,(kpL [4]))] [(2,spW zBH zB2 (zoa) (.inl default) zs0 zA6)] []
theorem zBf:zA zoc (lp (body f261) 0):=zp (id:=2) (hl:=rfl)
def zCJ (s:yF) (v:RowID):Wy0 (Int):=.bn (zBF (s.length+(Int.ofNat s.length).toNat +Int.toNat 0+1) s (Int.ofNat s.length) 0 v) λr0=>.i (isL r0) (.k (getL r0)) (.k (-1:Int))
def zj5 (s:yF) (v:RowID):=(zCJ s v).fin default
def zCq:AL base (yF×RowID×Unit):=zc (ze (vSl 49)) (zc (ze (zcl 49)) zo)
def zmZ:=zh zCq λx=>((zj5 x.1 x.2.1).1,zTh (zj5 x.1 x.2.1).2)
theorem zzN:SdP 261 zmZ:=
 sT (cx':=zoc) (zi trivial) call261 func261 (lOK (aC zBf aN))
def zzk:=zbl base 9 [(261,zmZ)]
def zAh (s:yF) (v:RowID):Wy0 (Bool):=.bn (zj5 s v) λr0=>.k (decide (r0≥0))
def zh8 (s:yF) (v:RowID):=(zAh s v).fin default
def zk9:=zh zCq λx=>((zh8 x.1 x.2.1).1,zYA (zh8 x.1 x.2.1).2)
theorem zxo:SdP 239 zk9:=
 sT (cx':=zzk) (zi ⟨zzN,trivial⟩) call239 func239 (lOK aN)
def z1k:=zbl base 7 [(239,zk9)]
def z4C (id:RowID) (p1:yF):Wy0 (Bool):=.bn (zh8 p1 id) λr0=>.k r0
def zAB (id:RowID) (p1:yF):=(z4C id p1).fin default
def z3F:AL base (RowID×(yF×Unit)×Unit):=zc (ze (zcl 49)) (zc (ze (zvh (zdA (vSl 49) zbT))) zo)
def zp2:=zh z3F λx=>((zAB x.1 x.2.1.1).1,zYA (zAB x.1 x.2.1.1).2)
theorem zxa:SdP 238 zp2:=
 sT (cx':=z1k) (zi ⟨zxo,trivial⟩) call238 func238 (lOK aN)
abbrev ze1:=yF×((yF×Unit)×Unit)×Int×Int×Unit
def zyC (s:yF) (f:yF) (t7:Int) (t8:Int):Wy ze1 Unit (Int⊕Unit):=.i (decide (t8<t7)) (.i (decide (0<=t8)&&decide (t8<Int.ofNat s.length)) (.bn (zAB (s.getD t8.toNat default) f) λr0=>.i (r0) (.k (.inl t8)) (.h (s,((f,()),()),t7,(IntKind.i64.wrap (t8+1)),()) ())) .d) (.k (.inr ()))
def zlR (x:ze1) (y:Unit):=zyC x.1 x.2.1.1.1 x.2.2.1 x.2.2.2.1
def zyF (n:Nat) (s:yF) (f:yF) (t7:Int) (t8:Int):=zy (zlR) (.inl default) n (s,((f,()),()),t7,t8,()) ()
def zyf:LL ty ze1:=za (lSl 49) (za (lFn 238 (za (znH (za (lSl 49) zk) 0) zk)) (za zj (za zj zk)))
def zxq (x:ze1) (y:Unit):Nat:=(x.1.length+x.2.1.1.1.length+Int.toNat x.2.2.1+Int.toNat x.2.2.2.1+1)
def zlv:=zbY base 19 [(238,zp2)] [] [(2,(kpL [0,1,7,8]))] [(2,1,[]),(2,0,(kpL [4]))] [(2,spW zyf zbcZ (zlR) (.inl default) zs0 zxq)] []
theorem zxA:zA zlv (lp (body f260) 0):=zp (id:=2) (hl:=rfl)
def zzF (s:yF) (f:yF):Wy0 (Int):=.bn (zyF (s.length+f.length+(Int.ofNat s.length).toNat +Int.toNat 0+1) s f (Int.ofNat s.length) 0) λr2=>.i (isL r2) (.k (getL r2)) (.k (-1:Int))
def zhy (s:yF) (f:yF):=(zzF s f).fin default
def zze:AL base (yF×((yF×Unit)×Unit)×Unit):=zc (ze (vSl 49)) (zc (ze (vFn 238 (zdA (zvh (zdA (vSl 49) zbT)) zbT))) zo)
def zkF:=zh zze λx=>((zhy x.1 x.2.1.1.1).1,zTh (zhy x.1 x.2.1.1.1).2)
theorem zvO:SdP 260 zkF:=
 sT (cx':=zlv) (zi ⟨zxa,trivial⟩) call260 func260 (lOK (aC zxA aN))
abbrev zeU:=Unit×((yF×Unit)×Unit)×Int×Int×Unit
abbrev zeS:=yF×Unit
abbrev znf:=Int×yF
def zxE (del:yF) (i:Int) (j:Int) (s:yF):Wy zeU zeS znf:=.i (decide (j<Int.ofNat s.length)) (.i (decide (0<=j)&&decide (j<Int.ofNat s.length)) (.bn (zAB (s.getD j.toNat default) del) λr0=>.i (!r0) (.i (decide (0<=i)&&decide (i<Int.ofNat s.length)) (.i (decide (i.toNat<s.length)) (.h ((),((del,()),()),(IntKind.i64.wrap (i+1)),(IntKind.i64.wrap (j+1)),()) ((s.set i.toNat (s.getD j.toNat default)),())) .d) .d) (.h ((),((del,()),()),i,(IntKind.i64.wrap (j+1)),()) (s,()))) .d) (.k (i,s))
def zlf (x:zeU) (y:zeS):=zxE x.2.1.1.1 x.2.2.1 x.2.2.2.1 y.1
def zxp (n:Nat) (del:yF) (i:Int) (j:Int) (s:yF):=zy (zlf) default n ((),((del,()),()),i,j,()) (s,())
def zwj (r:znf):LTree ty:=.done (.exit 0) [.own 168,.lit (.int .i64 r.1)] [.arr 49 r.2 false]
def zxr:LL ty zeU:=za (zdh 168) (za (lFn 238 (za (znH (za (lSl 49) zk) 0) zk)) (za zj (za zj zk)))
def zxG:BL ty zeS:=zdj 49 false (z6)
def zwr (x:zeU) (y:zeS):Nat:=(x.2.1.1.1.length+Int.toNat x.2.2.1+Int.toNat x.2.2.2.1+y.1.length+1)
def zlc:=zbY base 42 [(238,zp2),(260,zkF)] [] [(5,(kpL [0,1,5,6]))] [(5,1,(kpL [0,5]))] [(5,spW zxr zxG (zlf) default zwj zwr)] []
theorem zwU:zA zlc (lp (body f237) 0):=zp (id:=5) (hl:=rfl)
def zyA (s:yF) (del:yF):Wy0 (yF):=.bn (zhy s del) λr3=>.i (r3==(-1:Int)) (.k s) (.bn (zxp (del.length+r3.toNat +(IntKind.i64.wrap (r3+1)).toNat +s.length+1) del r3 (IntKind.i64.wrap (r3+1)) s) λr2=>.i (decide (0<=r2.1)&&decide (r2.1<=Int.ofNat r2.2.length)&&decide (Int.ofNat r2.2.length<=Int.ofNat r2.2.length)) (.i (decide (r2.1.toNat +((Int.ofNat r2.2.length).toNat - r2.1.toNat)<=r2.2.length)) (.i (decide ((0:Int)<=(0:Int))&&decide (0<=r2.1)&&decide (r2.1<=Int.ofNat (List.take r2.1.toNat r2.2++List.replicate ((Int.ofNat r2.2.length).toNat - r2.1.toNat) (RowID.mk 0 0)++List.drop (r2.1.toNat +((Int.ofNat r2.2.length).toNat - r2.1.toNat)) r2.2).length)) (.k (List.take (r2.1.toNat - Int.toNat 0) (List.take r2.1.toNat r2.2++List.replicate ((Int.ofNat r2.2.length).toNat - r2.1.toNat) (RowID.mk 0 0)++List.drop (r2.1.toNat +((Int.ofNat r2.2.length).toNat - r2.1.toNat)) r2.2))) .d) .d) .d)
def zhg (s:yF) (del:yF):=(zyA s del).fin default
def zyq:AL base (yF×((yF×Unit)×Unit)×Unit):=zc (zka 49) (zc (ze (vFn 238 (zdA (zvh (zdA (vSl 49) zbT)) zbT))) zo)
def zkm:=zh zyq λx=>((zhg x.1 x.2.1.1.1).1,zzr (zhg x.1 x.2.1.1.1).2)
theorem zu3:SdP 237 zkm:=
 sT (cx':=zlc) (zi ⟨zxa,zvO,trivial⟩) call237 func237 (lOK (aC zwU aN)) (sg:=⟨[.own 49],[false]⟩)
def z9m:=zbY base 11 [(204,zoF),(237,zkm),(238,zp2)] [(237,[true,false])] [] [] [] []
def zbam (a:yF) (b:yF):Wy0 (yF):=.bn (zrl a) λr1=>.bn (zhg r1 b) λr0=>.k r0
def zQp (a:yF) (b:yF):=(zbam a b).fin default
def zMB:=zh zCN λx=>((zQp x.1 x.2.1).1,zWg (zQp x.1 x.2.1).2)
theorem z0w:SdP 210 zMB:=
 sT (cx':=z9m) (zi ⟨zvv,zu3,zxa,trivial⟩) call210 func210 (lOK aN) (sg:=⟨[.own 49],[]⟩)
def z6v:=zbl base 10 [(210,zMB)]
def z82 (a:yF) (b:yF):Wy0 (Bool):=.bn (zQp a b) λr0=>.k (Int.ofNat r0.length==0)
def zLG (a:yF) (b:yF):=(z82 a b).fin default
def zLk:=zh zCN λx=>((zLG x.1 x.2.1).1,zYA (zLG x.1 x.2.1).2)
theorem zYI:SdP 172 zLk:=
 sT (cx':=z6v) (zi ⟨z0w,trivial⟩) call172 func172 (lOK aN)
def zWo:=zbl base 17 [(172,zLk)]
def zYt (k:Int) (p1:Int) (p2:yB) (p3:yF):Wy0 (Bool):=.i (k != p1) (.i (decide (0<=k)&&decide (k<Int.ofNat p2.length)) (.bn (zLG (p2.getD k.toNat default) p3) λr0=>.k r0) .d) (.k false)
def zDd (k:Int) (p1:Int) (p2:yB) (p3:yF):=(zYt k p1 p2 p3).fin default
def zZA:AL base (Int×(Int×Unit)×(yB×Unit)×(yF×Unit)×Unit):=zc (ze zf3) (zc (ze (zvh (zdA zf3 zbT))) (zc (ze (zvh (zdA (vSl 43) zbT))) (zc (ze (zvh (zdA (vSl 49) zbT))) zo)))
def znC:=zh zZA λx=>((zDd x.1 x.2.1.1 x.2.2.1.1 x.2.2.2.1.1).1,zYA (zDd x.1 x.2.1.1 x.2.2.1.1 x.2.2.2.1.1).2)
theorem zsZ:SdP 171 znC:=
 sT (cx':=zWo) (zi ⟨zYI,trivial⟩) call171 func171 (lOK aN)
abbrev zv9:=Unit×Int×Int×Unit
abbrev zwe:=List Int×Unit
def z4x (t8:Int) (t9:Int) (out_:List Int):Wy zv9 zwe (List Int):=.i (decide (t9<t8)) (.i (decide (0<=t9)&&decide (t9<Int.ofNat out_.length)) (.i (decide (t9.toNat<out_.length)) (.h ((),t8,(IntKind.i64.wrap (t9+1)),()) ((out_.set t9.toNat t9),())) .d) .d) (.k out_)
def zMu (x:zv9) (y:zwe):=z4x x.2.1 x.2.2.1 y.1
def z4k (n:Nat) (t8:Int) (t9:Int) (out_:List Int):=zy (zMu) default n ((),t8,t9,()) (out_,())
def z2p (r:List Int):LTree ty:=.done (.exit 0) [.own 72] [.arr 3 r false]
def z3x:LL ty zv9:=za (zdh 72) (za zj (za zj zk))
def z3l:BL ty zwe:=zdj 3 false (z6)
def zZL (x:zv9) (y:zwe):Nat:=(Int.toNat x.2.1+Int.toNat x.2.2.1+y.1.length+1)
def zMI:=zbY base 18 [] [] [(3,(kpL [3,8,9]))] [(3,1,(kpL [3]))] [(3,spW z3x z3l (zMu) default z2p zZL)] []
theorem z0L:zA zMI (lp (body f174) 0):=zp (id:=3) (hl:=rfl)
def z6w (n_:Int):Wy0 (List Int):=.i (decide (0<=n_)&&decide (n_<=n_)&&decide (n_*Int.ofNat 8<=Int.ofNat zG)&&decide (n_<=Int.ofNat zG)) (.bn (z4k ((Int.ofNat (List.replicate n_.toNat (0:Int)).length).toNat +Int.toNat 0+(List.replicate n_.toNat (0:Int)).length+1) (Int.ofNat (List.replicate n_.toNat (0:Int)).length) 0 (List.replicate n_.toNat (0:Int))) λr0=>.k r0) .d
def zJo (n_:Int):=(z6w n_).fin default
def zZP (r:List Int):ARes ty:=⟨[.own 3 r],[]⟩
def zIa:=zh z4G λx=>((zJo x.1).1,zZP (zJo x.1).2)
theorem zWE:SdP 174 zIa:=
 sT (cx':=zMI) (zi trivial) call174 func174 (lOK (aC z0L aN)) (sg:=⟨[.own 3],[]⟩)
abbrev zkh:=List Int×((Int×Unit)×(yB×Unit)×(yF×Unit)×Unit)×Int×Int×Unit
def zJe (s:List Int) (f_0:Int) (f_1:yB) (f_2:yF) (t7:Int) (t8:Int):Wy zkh Unit (Int⊕Unit):=.i (decide (t8<t7)) (.i (decide (0<=t8)&&decide (t8<Int.ofNat s.length)) (.bn (zDd (s.getD t8.toNat default) f_0 f_1 f_2) λr0=>.i (r0) (.k (.inl t8)) (.h (s,((f_0,()),(f_1,()),(f_2,()),()),t7,(IntKind.i64.wrap (t8+1)),()) ())) .d) (.k (.inr ()))
def zwS (x:zkh) (y:Unit):=zJe x.1 x.2.1.1.1 x.2.1.2.1.1 x.2.1.2.2.1.1 x.2.2.1 x.2.2.2.1
def zIT (n:Nat) (s:List Int) (f_0:Int) (f_1:yB) (f_2:yF) (t7:Int) (t8:Int):=zy (zwS) (.inl default) n (s,((f_0,()),(f_1,()),(f_2,()),()),t7,t8,()) ()
def zIM:LL ty zkh:=za (lSl 3) (za (lFn 171 (za (znH (za zj zk) 0) (za (znH (za (lSl 43) zk) 0) (za (znH (za (lSl 49) zk) 0) zk)))) (za zj (za zj zk)))
def zHz (x:zkh) (y:Unit):Nat:=(x.1.length+Int.toNat x.2.1.1.1+x.2.1.2.1.1.length+x.2.1.2.2.1.1.length+Int.toNat x.2.2.1+Int.toNat x.2.2.2.1+1)
def zwR:=zbY base 19 [(171,znC)] [] [(2,(kpL [0,1,7,8]))] [(2,1,[]),(2,0,(kpL [4]))] [(2,spW zIM zbcZ (zwS) (.inl default) zs0 zHz)] []
theorem zHE:zA zwR (lp (body f211) 0):=zp (id:=2) (hl:=rfl)
def zKP (s:List Int) (f_0:Int) (f_1:yB) (f_2:yF):Wy0 (Int):=.bn (zIT (s.length+f_0.toNat +f_1.length+f_2.length+(Int.ofNat s.length).toNat +Int.toNat 0+1) s f_0 f_1 f_2 (Int.ofNat s.length) 0) λr2=>.i (isL r2) (.k (getL r2)) (.k (-1:Int))
def zqk (s:List Int) (f_0:Int) (f_1:yB) (f_2:yF):=(zKP s f_0 f_1 f_2).fin default
def zK4:AL base (List Int×((Int×Unit)×(yB×Unit)×(yF×Unit)×Unit)×Unit):=zc (ze (vSl 3)) (zc (ze (vFn 171 (zdA (zvh (zdA zf3 zbT)) (zdA (zvh (zdA (vSl 43) zbT)) (zdA (zvh (zdA (vSl 49) zbT)) zbT))))) zo)
def zuw:=zh zK4 λx=>((zqk x.1 x.2.1.1.1 x.2.1.2.1.1 x.2.1.2.2.1.1).1,zTh (zqk x.1 x.2.1.1.1 x.2.1.2.1.1 x.2.1.2.2.1.1).2)
theorem zFN:SdP 211 zuw:=
 sT (cx':=zwR) (zi ⟨zsZ,trivial⟩) call211 func211 (lOK (aC zHE aN))
def zFQ:=zbl base 9 [(171,znC),(211,zuw)]
def zGu (s:List Int) (f_0:Int) (f_1:yB) (f_2:yF):Wy0 (Bool):=.bn (zqk s f_0 f_1 f_2) λr0=>.k (decide (r0≥0))
def znc (s:List Int) (f_0:Int) (f_1:yB) (f_2:yF):=(zGu s f_0 f_1 f_2).fin default
def zqv:=zh zK4 λx=>((znc x.1 x.2.1.1.1 x.2.1.2.1.1 x.2.1.2.2.1.1).1,zYA (znc x.1 x.2.1.1.1 x.2.1.2.1.1 x.2.1.2.2.1.1).2)
theorem zDw:SdP 173 zqv:=
 sT (cx':=zFQ) (zi ⟨zsZ,zFN,trivial⟩) call173 func173 (lOK aN)
abbrev zwf:=Unit×Unit×Unit×Int×Int×Unit
abbrev zv6:=(Unit×Unit)×yB×yB×Unit
abbrev zvX:=yB
def z3f (t11:Int) (t12:Int) (out_:yB) (t10:yB):Wy zwf zv6 zvX:=.i (decide (t12<t11)) (.i (decide (0<=t12)&&decide (t12<Int.ofNat t10.length)) (.bn (zJo (Int.ofNat t10.length)) λr1=>.bn (znc r1 t12 t10 (t10.getD t12.toNat default)) λr0=>.i (!r0) (.i (decide ((out_.length+[t10.getD t12.toNat default].length)*24<=zG)) (.h ((),(),(),t11,(IntKind.i64.wrap (t12+1)),()) (((),()),(out_++[t10.getD t12.toNat default]),t10,())) .d) (.h ((),(),(),t11,(IntKind.i64.wrap (t12+1)),()) (((),()),out_,t10,()))) .d) (.k out_)
def zMR (x:zwf) (y:zv6):=z3f x.2.2.2.1 x.2.2.2.2.1 y.2.1 y.2.2.1
def z3i (n:Nat) (t11:Int) (t12:Int) (out_:yB) (t10:yB):=zy (zMR) default n ((),(),(),t11,t12,()) (((),()),out_,t10,())
def z2q (r:zvX):LTree ty:=.done (.exit 0) [.own 120] [.arr 43 r false]
def z32:LL ty zwf:=za (zdR 120 0) (za (zdh 121) (za (zdh 122) (za zj (za zj zk))))
def z3y:BL ty zv6:=zff (za (zdh 122) zk) false (zdj 43 false (zdj 43 false (z6)))
def z1Y (x:zwf) (y:zv6):Nat:=(Int.toNat x.2.2.2.1+Int.toNat x.2.2.2.2.1+y.2.1.length+y.2.2.1.length+1)
def zMy:=zbY base 30 [(170,zBX),(171,znC),(173,zqv),(174,zIa)] [] [(4,[(3,.keep),(4,.own 43),(10,.keep),(11,.keep),(12,.keep)])] [(4,1,(kpL [4]))] [(4,spW z32 z3y (zMR) default z2q z1Y)] []
theorem z2t:zA zMy (lp (body f143) 0):=zp (id:=4) (hl:=rfl)
def z7i (l:yB):Wy0 zvX:=.bn (zEj l) λr5=>.bn (z3i ((Int.ofNat r5.length).toNat +Int.toNat 0+0+r5.length+1) (Int.ofNat r5.length) 0 [] r5) λr4=>.k r4
def zwg (l:yB):=(z7i l).fin default
def z1I (r:zvX):ARes ty:=⟨[.own 43 r],[]⟩
def z5J:AL base (yB×Unit):=zc (ze (vSl 43)) zo
def zH3:=zh z5J λx=>((zwg x.1).1,z1I (zwg x.1).2)
theorem zXs:SdP 143 zH3:=
 sT (cx':=zMy) (zi ⟨zIg,zsZ,zDw,zWE,trivial⟩) call143 func143 (lOK (aC z2t aN)) (sg:=⟨[.own 43],[]⟩)
def z7z:=zbl base 10 [(204,zoF),(212,zhc)]
def z9V (a:yF) (b:yF):Wy0 (yF):=.bn (zfY a) λr1=>.i (decide ((r1.length+b.length)*16<=zG)) (.bn (zrl (r1++b)) λr0=>.k r0) .d
def zPN (a:yF) (b:yF):=(z9V a b).fin default
def zMx:=zh zCN λx=>((zPN x.1 x.2.1).1,zWg (zPN x.1 x.2.1).2)
theorem z2c:SdP 175 zMx:=
 sT (cx':=z7z) (zi ⟨zvv,zl6,trivial⟩) call175 func175 (lOK aN) (sg:=⟨[.own 49],[]⟩)
abbrev zvW:=yB×Unit×yF×yB×Int×Int×yB×Int×Int×Unit
abbrev zg8:=yB×Unit
abbrev zMT:=yB×yB×Int×Int×yB
abbrev zv1:=yB×Unit×yB×Int×Int×Unit
abbrev zvZ:=yB
def z4K (b:yB) (x_:yF) (t10:yB) (t11:Int) (t12:Int) (t16:yB) (t17:Int) (t18:Int) (out_:yB):Wy zvW zg8 zMT:=.i (decide (t18<t17)) (.i (decide (0<=t18)&&decide (t18<Int.ofNat t16.length)) (.bn (zPN x_ (t16.getD t18.toNat default)) λr2=>.i (decide ((out_.length+[r2].length)*24<=zG)) (.h (b,(),x_,t10,t11,t12,t16,t17,(IntKind.i64.wrap (t18+1)),()) ((out_++[r2]),())) .d) .d) (.k (b,t10,t11,t12,out_))
def zMt (x:zvW) (y:zg8):=z4K x.1 x.2.2.1 x.2.2.2.1 x.2.2.2.2.1 x.2.2.2.2.2.1 x.2.2.2.2.2.2.1 x.2.2.2.2.2.2.2.1 x.2.2.2.2.2.2.2.2.1 y.1
def z3g (n:Nat) (b:yB) (x_:yF) (t10:yB) (t11:Int) (t12:Int) (t16:yB) (t17:Int) (t18:Int) (out_:yB):=zy (zMt) default n (b,(),x_,t10,t11,t12,t16,t17,t18,()) (out_,())
def z09 (r:zMT):LTree ty:=.done (.exit 2) [.sl 43 r.1,.own 128,.sl 43 r.2.1,.lit (.int .i64 r.2.2.1),.lit (.int .i64 r.2.2.2.1)] [.arr 43 r.2.2.2.2 false]
def z36:LL ty zvW:=za (lSl 43) (za (zdh 128) (za (lSl 49) (za (lSl 43) (za zj (za zj (za (lSl 43) (za zj (za zj zk))))))))
def z3n:BL ty zg8:=zdj 43 false (z6)
def z4r (b:yB) (t10:yB) (t11:Int) (t12:Int) (out_:yB):Wy zv1 zg8 zvZ:=.i (decide (t12<t11)) (.i (decide (0<=t12)&&decide (t12<Int.ofNat t10.length)) (.bn (z3g (b.length+List.length (t10.getD t12.toNat default)+t10.length+t11.toNat +t12.toNat +b.length+(Int.ofNat b.length).toNat +Int.toNat 0+out_.length+1) b (t10.getD t12.toNat default) t10 t11 t12 b (Int.ofNat b.length) 0 out_) λr4=>.h ((r4.1),(),(r4.2.1),(r4.2.2.1),(IntKind.i64.wrap (r4.2.2.2.1+1)),()) ((r4.2.2.2.2),())) .d) (.k out_)
def zMP (x:zv1) (y:zg8):=z4r x.1 x.2.2.1 x.2.2.2.1 x.2.2.2.2.1 y.1
def z4i (n:Nat) (b:yB) (t10:yB) (t11:Int) (t12:Int) (out_:yB):=zy (zMP) default n (b,(),t10,t11,t12,()) (out_,())
def z1H (r:zvZ):LTree ty:=.done (.exit 0) [.own 128] [.arr 43 r false]
def z3P:LL ty zv1:=za (lSl 43) (za (zdh 128) (za (lSl 43) (za zj (za zj zk))))
def z1r (x:zvW) (y:zg8):Nat:=(x.1.length+x.2.2.1.length+x.2.2.2.1.length+Int.toNat x.2.2.2.2.1+Int.toNat x.2.2.2.2.2.1+x.2.2.2.2.2.2.1.length+Int.toNat x.2.2.2.2.2.2.2.1+Int.toNat x.2.2.2.2.2.2.2.2.1+y.1.length+1)
def zZZ (x:zv1) (y:zg8):Nat:=(x.1.length+x.2.2.1.length+Int.toNat x.2.2.2.1+Int.toNat x.2.2.2.2.1+y.1.length+1)
def zDa:=zbY base 32 [(170,zBX),(175,zMx)] [] [(3,[(1,.keep),(5,.own 43),(10,.keep),(11,.keep),(12,.keep)]),(6,[(1,.keep),(5,.own 43),(7,.keep),(10,.keep),(11,.keep),(12,.keep),(16,.keep),(17,.keep),(18,.keep)])] [(3,1,(kpL [5])),(6,3,(kpL [1,5,10,11,12]))] [(6,spW z36 z3n (zMt) default z09 z1r),(3,spW z3P z3n (zMP) default z1H zZZ)] []
theorem zZ6:zA zDa (lp (body f144) 1):=zp (id:=6) (hl:=rfl)
theorem zZ9:zA zDa (lp (body f144) 0):=zp (id:=3) (hl:=rfl)
def z52 (a:yB) (b:yB):Wy0 zvZ:=.bn (z4i (b.length+a.length+(Int.ofNat a.length).toNat +Int.toNat 0+0+1) b a (Int.ofNat a.length) 0 []) λr7=>.bn (zEj r7) λr6=>.k r6
def zCG (a:yB) (b:yB):=(z52 a b).fin default
def z1b (r:zvZ):ARes ty:=⟨[.own 43 r],[]⟩
def z5I:AL base (yB×yB×Unit):=zc (ze (vSl 43)) (zc (ze (vSl 43)) zo)
def zH9:=zh z5I λx=>((zCG x.1 x.2.1).1,z1b (zCG x.1 x.2.1).2)
theorem zXf:SdP 144 zH9:=
 sT (cx':=zDa) (zi ⟨zIg,z2c,trivial⟩) call144 func144 (lOK (aC zZ9 (aC zZ6 aN))) (sg:=⟨[.own 43],[]⟩)
abbrev zmt:=Unit×Unit×yC×Int×Int×yD×Int×Int×Unit
abbrev zmu:=yB×yB×Unit
abbrev zCS:=yC×Int×Int×yB×yB
abbrev zms:=Unit×yC×Int×Int×Unit
abbrev zmw:=yB×Unit
abbrev zsX:=yB
def zNf (zR:yC->Bool×yB) (t10:yC) (t11:Int) (t12:Int) (t19:yD) (t20:Int) (t21:Int) (all:yB) (sets:yB):Wy zmt zmu zCS:=.i (decide (t21<t20)) (.i (decide (0<=t21)&&decide (t21<Int.ofNat t19.length)) (.i ((t19.getD t21.toNat default).At.Kind==2) (.i (decide ((0:Int)<=(0:Int))&&decide (0<Int.ofNat (t19.getD t21.toNat default).At.Ag.length)) (.bn (zR ((t19.getD t21.toNat default).At.Ag.getD (Int.toNat 0) default)) λr12=>.bn (zCG sets r12) λr11=>.bn (zwg r11) λr10=>.h ((),(),t10,t11,t12,t19,t20,(IntKind.i64.wrap (t21+1)),()) (all,(r10),())) .d) (.bn (zCG sets [[(t19.getD t21.toNat default).At.Row]]) λr14=>.bn (zwg r14) λr13=>.h ((),(),t10,t11,t12,t19,t20,(IntKind.i64.wrap (t21+1)),()) (all,(r13),()))) .d) (.k (t10,t11,t12,all,sets))
def zAD (zR:yC->Bool×yB) (x:zmt) (y:zmu):=zNf zR x.2.2.1 x.2.2.2.1 x.2.2.2.2.1 x.2.2.2.2.2.1 x.2.2.2.2.2.2.1 x.2.2.2.2.2.2.2.1 y.1 y.2.1
def zNP (zR:yC->Bool×yB) (n:Nat) (t10:yC) (t11:Int) (t12:Int) (t19:yD) (t20:Int) (t21:Int) (all:yB) (sets:yB):=zy (zAD zR) default n ((),(),t10,t11,t12,t19,t20,t21,()) (all,sets,())
def zLX (r:zCS):LTree ty:=.done (.exit 2) [.own 204,.own 205,.sl 28 r.1,.lit (.int .i64 r.2.1),.lit (.int .i64 r.2.2.1)] [.arr 43 r.2.2.2.1 false,.arr 43 r.2.2.2.2 false]
def zNn:LL ty zmt:=za (zdh 204) (za (zdh 205) (za (lSl 28) (za zj (za zj (za (lSl 69) (za zj (za zj zk)))))))
def zM2:BL ty zmu:=zdj 43 false (zdj 43 false (z6))
def zNd (zR:yC->Bool×yB) (t10:yC) (t11:Int) (t12:Int) (all:yB):Wy zms zmw zsX:=.i (decide (t12<t11)) (.i (decide (0<=t12)&&decide (t12<Int.ofNat t10.length)) (.bn (zNP zR (t10.length+t11.toNat +t12.toNat +(t10.getD t12.toNat default).Fs.length+(Int.ofNat (t10.getD t12.toNat default).Fs.length).toNat +Int.toNat 0+all.length+1+1000) t10 t11 t12 (t10.getD t12.toNat default).Fs (Int.ofNat (t10.getD t12.toNat default).Fs.length) 0 all [[]]) λr20=>.i (decide ((r20.2.2.2.1.length+r20.2.2.2.2.length)*24<=zG)) (.h ((),(r20.1),(r20.2.1),(IntKind.i64.wrap (r20.2.2.1+1)),()) ((r20.2.2.2.1++r20.2.2.2.2),())) .d) .d) (.k all)
def zAX (zR:yC->Bool×yB) (x:zms) (y:zmw):=zNd zR x.2.1 x.2.2.1 x.2.2.2.1 y.1
def zNo (zR:yC->Bool×yB) (n:Nat) (t10:yC) (t11:Int) (t12:Int) (all:yB):=zy (zAX zR) default n ((),t10,t11,t12,()) (all,())
def zLJ (r:zsX):LTree ty:=.done (.exit 0) [.own 204] [.arr 43 r false]
def zNX:LL ty zms:=za (zdh 204) (za (lSl 28) (za zj (za zj zk)))
def zM6:BL ty zmw:=zdj 43 false (z6)
def zMg (x:zmt) (y:zmu):Nat:=(x.2.2.1.length+Int.toNat x.2.2.2.1+Int.toNat x.2.2.2.2.1+x.2.2.2.2.2.1.length+Int.toNat x.2.2.2.2.2.2.1+Int.toNat x.2.2.2.2.2.2.2.1+y.1.length+y.2.1.length+1000)
def zLz (x:zms) (y:zmw):Nat:=(x.2.1.length+Int.toNat x.2.2.1+Int.toNat x.2.2.2.1+y.1.length+1000)
def zqh (zR:yC->Bool×yB):=zbY base 51 [(74,(zj0 zR)),(143,zH3),(144,zH9)] [] [(3,[(3,.own 43),(10,.keep),(11,.keep),(12,.keep)]),(7,(kpL [3,6,10,11,12,19,20,21]))] [(3,1,(kpL [3])),(7,3,(kpL [3,6,10,11,12]))] [(7,spW zNn zM2 (zAD zR) default zLX zMg),(3,spW zNX zM6 (zAX zR) default zLJ zLz)] []
theorem zLs (zR:yC->Bool×yB):zA (zqh zR) (lp (body f74) 1):=zp (id:=7) (hl:=rfl)
theorem zLR (zR:yC->Bool×yB):zA (zqh zR) (lp (body f74) 0):=zp (id:=3) (hl:=rfl)
def zOV (zR:yC->Bool×yB) (a:yC):Wy0 zsX:=.bn (zNo zR (a.length+(Int.ofNat a.length).toNat +Int.toNat 0+0+1000) a (Int.ofNat a.length) 0 []) λr23=>.bn (zwg r23) λr22=>.k r22
def zDL (zR:yC->Bool×yB) (a:yC):=(zOV zR a).fin default
theorem zIW (zR:yC->Bool×yB) (zP6:SdP 74 (zj0 zR)):SdP 74 (zj0 (zDL zR)):=
 sT (cx':=(zqh zR)) (zi ⟨zP6,zXs,zXf,trivial⟩) call74 func74 (lOK (aC (zLR zR) (aC (zLs zR) aN))) (sg:=⟨[.own 43],[]⟩)
def zX5:Nat->(yC->Bool×yB)
 | 0=>λ_=>(false,default)
 | n+1=>zDL (zX5 n)
def zD8 (n:Nat):yC->Bool×yB:=zX5 n
theorem zR1:∀ n,SdP 74 (zj0 (zD8 n))
 | 0=>z8 call74 (λ_=>rfl)
 | n+1=>by
  have ih:=zR1 n;exact zIW _ (ih)
def zGU:yC->Bool×yB:=zD8 1000
def zAF:Ab.Spec ty:=zj0 zGU
theorem zLO:SdP 74 zAF:=(zR1 1000)
def zQP:=zbl base 17 [(20,zch),(73,zAW),(74,zAF)]
def zTk (a:yC):Wy0 (yB×Int):=.bn (zca a) λr2=>.i (!r2) (.k ([],1)) (.bn (zG5 a) λr1=>.i (!r1) (.k ([],13)) (.bn (zGU a) λr0=>.i (decide (Int.ofNat r0.length>512)) (.k ([],6)) (.k (r0,0))))
def zF5 (a:yC):=(zTk a).fin default
def zQl (r:yB×Int):ARes ty:=⟨[.own 43 r.1,.pure (.lit (.int .i64 r.2))],[]⟩
def zAU:=zh z2g λx=>((zF5 x.1).1,zQl (zF5 x.1).2)
theorem zMa:SdP 24 zAU:=
 sT (cx':=zQP) (zi ⟨zco,zMm,zLO,trivial⟩) call24 func24 (lOK aN) (sg:=⟨[.own 43,.pure],[]⟩)
def zbcr:=zbl base 8 []
def z0P (x_:At):Wy0 (yC):=.k [TO.mk 1 [FO.mk (At.mk x_.Kind x_.Row x_.Ag x_.Func x_.Items x_.Op x_.Bd) 1]]
def znv (x_:At):=(z0P x_).fin default
def zol:=zh zDM λx=>((znv x.1).1,zSt (znv x.1).2)
theorem zrW:SdP 102 zol:=
 sT (cx':=zbcr) (zi trivial) call102 func102 (lOK aN) (sg:=⟨[.own 28],[]⟩)
def zbeo:=zbl base 14 [(102,zol)]
def z5s (id:RowID):Wy0 (yC):=.i (decide (id.Table<1)) (.k []) (.i (decide (id.Seq<1)) (.k []) (.k ((znv (At.mk 0 id [] 0 [] 0 (Value.mk 0 0 (ByteArray.mk #[])))).2)))
def zE7 (id:RowID):=(z5s id).fin default
def zJl:=zh zbai λx=>((zE7 x.1).1,zSt (zE7 x.1).2)
theorem zR6:SdP 98 zJl:=
 sT (cx':=zbeo) (zi ⟨zrW,trivial⟩) call98 func98 (lOK aN) (sg:=⟨[.own 28],[]⟩)
def z3r:=zbl base 6 [(98,zJl)]
def z5K (seq:Int):Wy0 (yC):=.bn (zE7 (RowID.mk 1 seq)) λr0=>.k r0
def zUk (seq:Int):=(z5K seq).fin default
def zH4:=zh z4G λx=>((zUk x.1).1,zSt (zUk x.1).2)
theorem zWa:SdP 44 zH4:=
 sT (cx':=z3r) (zi ⟨zR6,trivial⟩) call44 func44 (lOK aN) (sg:=⟨[.own 28],[]⟩)
def z9R:=zbl base 9 []
def zMj (n_:Int):Wy0 (yC):=.i (decide (n_<1)) (.k []) (.k [TO.mk (if 1152921504606846976<n_ then 1152921504606846976 else n_) []])
def zvq (n_:Int):=(zMj n_).fin default
def zEG:=zh z4G λx=>((zvq x.1).1,zSt (zvq x.1).2)
theorem zMz:SdP 46 zEG:=
 sT (cx':=z9R) (zi trivial) call46 func46 (lOK aN) (sg:=⟨[.own 28],[]⟩)
end Go.Proofs.YtljlfiomikifjaaGreatDoor
/- What lies inside lists of terms and factors: fuel for loops. -/
namespace Go.Proofs.YtljlfiomikifjaaGreatDoor
open Go.Proofs.Tryz
def zLq:yD->Nat
 | []=>0
 | f::r=>f.Exp.toNat +f.At.Ag.length+f.At.Items.length+1+zLq r
def zbV:yC->Nat
 | []=>0
 | t::r=>zLq t.Fs+1+zbV r
end Go.Proofs.YtljlfiomikifjaaGreatDoor
namespace Go.Proofs.YtljlfiomikifjaaGreatDoor
open Go Go.Ab
open Go.Proofs.Tryz
def zjW (F:yD->yD->Bool×Int):Ab.Spec ty:=zh z3C λx=>((F x.1 x.2.1).1,zTh (F x.1 x.2.1).2)
def zWi:AL base (yE×yE×Unit):=zc (ze (vSl 100)) (zc (ze (vSl 100)) zo)
def zlU (F:yE->yE->Bool×Int):Ab.Spec ty:=zh zWi λx=>((F x.1 x.2.1).1,zTh (F x.1 x.2.1).2)
def z7H:=zbl base 11 []
def zUz (a:Int) (b:Int):Wy0 (Int):=.i (decide (a<b)) (.k (-1:Int)) (.i (decide (a>b)) (.k 1) (.k 0))
def zcW (a:Int) (b:Int):=(zUz a b).fin default
def zjq:=zh zYx λx=>((zcW x.1 x.2.1).1,zTh (zcW x.1 x.2.1).2)
theorem zkB:SdP 91 zjq:=
 sT (cx':=z7H) (zi trivial) call91 func91 (lOK aN)
abbrev zye:=yC×yC×Int×Unit
abbrev zPv:=Int⊕(yC×yC)
def z1C (zbr:yD->yD->Bool×Int) (a:yC) (b:yC) (i:Int):Wy zye Unit zPv:=.i (decide (i<Int.ofNat a.length)) (.i (decide (i<Int.ofNat b.length)) (.i (decide (0<=i)&&decide (i<Int.ofNat a.length)) (.i (decide (0<=i)&&decide (i<Int.ofNat b.length)) (.bn (zbr (a.getD i.toNat default).Fs (b.getD i.toNat default).Fs) λr1=>.i (r1 != 0) (.k (.inl (r1))) (.i (decide (0<=i)&&decide (i<Int.ofNat a.length)) (.i (decide (0<=i)&&decide (i<Int.ofNat b.length)) (.bn (zcW (a.getD i.toNat default).Cf (b.getD i.toNat default).Cf) λr0=>.i (r0 != 0) (.k (.inl (r0))) (.h (a,b,(IntKind.i64.wrap (i+1)),()) ())) .d) .d)) .d) .d) (.k (.inr (a,b)))) (.k (.inr (a,b)))
def zLi (zbr:yD->yD->Bool×Int) (x:zye) (y:Unit):=z1C zbr x.1 x.2.1 x.2.2.1
def z1j (zbr:yD->yD->Bool×Int) (n:Nat) (a:yC) (b:yC) (i:Int):=zy (zLi zbr) (.inl default) n (a,b,i,()) ()
def zZh (r:zPv):LTree ty:=.ite (isL r) (.done .ret [.lit (.int .i64 (getL r))] []) (.done (.exit 0) [.sl 28 (getR r).1,.sl 28 (getR r).2] [])
def z1w:LL ty zye:=za (lSl 28) (za (lSl 28) (za zj zk))
def zZy (x:zye) (y:Unit):Nat:=(x.1.length+x.2.1.length+Int.toNat x.2.2.1+1)
def zLe (zbr:yD->yD->Bool×Int):=zbY base 53 [(34,(zjW zbr)),(91,zjq)] [] [(2,(kpL [0,1,5]))] [(2,1,(kpL [0,1])),(2,0,(kpL [4]))] [(2,spW z1w zbcZ (zLi zbr) (.inl default) zZh zZy)] []
theorem zZf (zbr:yD->yD->Bool×Int):zA (zLe zbr) (lp (body f89) 0):=zp (id:=2) (hl:=rfl)
def z4I (zbr:yD->yD->Bool×Int) (a:yC) (b:yC):Wy0 (Int):=.bn (z1j zbr (a.length+b.length+Int.toNat 0+1) a b 0) λr5=>.i (isL r5) (.k (getL r5)) (.bn (zcW (Int.ofNat (getR r5).1.length) (Int.ofNat (getR r5).2.length)) λr4=>.k r4)
def zAE (zbr:yD->yD->Bool×Int) (a:yC) (b:yC):=(z4I zbr a b).fin default
theorem zT0 (zbr:yD->yD->Bool×Int) (zOY:SdP 34 (zjW zbr)):SdP 89 (zes (zAE zbr)):=
 sT (cx':=(zLe zbr)) (zi ⟨zOY,zkB,trivial⟩) call89 func89 (lOK (aC (zZf zbr) aN))
def zbcu:=zbl base 4 []
def z2a (less:Bool):Wy0 (Int):=.i (less) (.k (-1:Int)) (.k 1)
def zCy (less:Bool):=(z2a less).fin default
def zbfs:AL base (Bool×Unit):=zc (ze zbov) zo
def zRI:=zh zbfs λx=>((zCy x.1).1,zTh (zCy x.1).2)
theorem z68:SdP 157 zRI:=
 sT (cx':=zbcu) (zi trivial) call157 func157 (lOK aN)
def z57:=zbl base 38 [(157,zRI)]
def zRU (a:Value) (b:Value):Wy0 (Int):=.i (a.Kind != b.Kind) (.bn (zCy (decide (a.Kind<b.Kind))) λr0=>.k r0) (.i (a.Int != b.Int) (.bn (zCy (decide (a.Int<b.Int))) λr1=>.k r1) (.i (!a.Text.toList==b.Text.toList) (.bn (zCy (Op.bytesLess a.Text.toList b.Text.toList)) λr2=>.k r2) (.k 0)))
def zoS (a:Value) (b:Value):=(zRU a b).fin default
def zB3:=zh z9z λx=>((zoS x.1 x.2.1).1,zTh (zoS x.1 x.2.1).2)
theorem zId:SdP 107 zB3:=
 sT (cx':=z57) (zi ⟨z68,trivial⟩) call107 func107 (lOK aN)
def zYS:=zbl base 19 [(91,zjq)]
def zKJ (a:RowID) (b:RowID):Wy0 (Int):=.bn (zcW a.Table b.Table) λr1=>.i (r1 != 0) (.k r1) (.bn (zcW a.Seq b.Seq) λr0=>.k r0)
def zm6 (a:RowID) (b:RowID):=(zKJ a b).fin default
def zw0:=zh z6a λx=>((zm6 x.1 x.2.1).1,zTh (zm6 x.1 x.2.1).2)
theorem zDY:SdP 105 zw0:=
 sT (cx':=zYS) (zi ⟨zkB,trivial⟩) call105 func105 (lOK aN)
abbrev zpK:=Unit×Unit×Int×Unit
abbrev zpY:=At×At×Unit
abbrev zG7:=Int⊕(At×At)
def zvg (zW:yC->yC->Bool×Int) (zbF:yE->yE->Bool×Int) (i:Int) (a:At) (b:At):Wy zpK zpY zG7:=.i (decide (i<Int.ofNat a.Ag.length)) (.i (decide (i<Int.ofNat b.Ag.length)) (.i (decide (0<=i)&&decide (i<Int.ofNat a.Ag.length)) (.i (decide (0<=i)&&decide (i<Int.ofNat b.Ag.length)) (.bn (zW (a.Ag.getD i.toNat default) (b.Ag.getD i.toNat default)) λr0=>.i (r0 != 0) (.k (.inl (r0))) (.h ((),(),(IntKind.i64.wrap (i+1)),()) (a,b,()))) .d) .d) (.k (.inr (a,b)))) (.k (.inr (a,b)))
def zD1 (zW:yC->yC->Bool×Int) (zbF:yE->yE->Bool×Int) (x:zpK) (y:zpY):=zvg zW zbF x.2.2.1 y.1 y.2.1
def zvo (zW:yC->yC->Bool×Int) (zbF:yE->yE->Bool×Int) (n:Nat) (i:Int) (a:At) (b:At):=zy (zD1 zW zbF) (.inl default) n ((),(),i,()) (a,b,())
def zQu (r:zG7):LTree ty:=.ite (isL r) (.done .ret [.lit (.int .i64 (getL r))] []) (.done (.exit 0) [.ptr 384 0,.ptr 385 0] [.box (base.enc 67 (getR r).1) false,.box (base.enc 67 (getR r).2) false])
def zTC:LL ty zpK:=za (zdR 384 0) (za (zdR 385 0) (za zj zk))
def zTu:BL ty zpY:=zff (zeK (λx=>(⟨x.1,⟨x.2.1,x.2.2.1⟩,x.2.2.2.1,x.2.2.2.2.1,x.2.2.2.2.2.1,x.2.2.2.2.2.2.1,⟨x.2.2.2.2.2.2.2.1,x.2.2.2.2.2.2.2.2.1,x.2.2.2.2.2.2.2.2.2.1⟩⟩:At)) (λx=>(x.Kind,x.Row.Table,x.Row.Seq,x.Ag,x.Func,x.Items,x.Op,x.Bd.Kind,x.Bd.Int,x.Bd.Text,())) (λ_=>rfl) (za (zI .i64) (za (zI .i64) (za (zI .i64) (za (lSl 23) (za (zI .i64) (za (lSl 100) (za (zI .i64) (za (zI .i64) (za (zI .i64) (za znV zk))))))))))) false (zff (zeK (λx=>(⟨x.1,⟨x.2.1,x.2.2.1⟩,x.2.2.2.1,x.2.2.2.2.1,x.2.2.2.2.2.1,x.2.2.2.2.2.2.1,⟨x.2.2.2.2.2.2.2.1,x.2.2.2.2.2.2.2.2.1,x.2.2.2.2.2.2.2.2.2.1⟩⟩:At)) (λx=>(x.Kind,x.Row.Table,x.Row.Seq,x.Ag,x.Func,x.Items,x.Op,x.Bd.Kind,x.Bd.Int,x.Bd.Text,())) (λ_=>rfl) (za (zI .i64) (za (zI .i64) (za (zI .i64) (za (lSl 23) (za (zI .i64) (za (lSl 100) (za (zI .i64) (za (zI .i64) (za (zI .i64) (za znV zk))))))))))) false (z6))
def zQM (x:zpK) (y:zpY):Nat:=(Int.toNat x.2.2.1+y.1.Ag.length+y.1.Items.length+y.2.1.Ag.length+y.2.1.Items.length+1)
def zD4 (zW:yC->yC->Bool×Int) (zbF:yE->yE->Bool×Int):=zbY base 96 [(89,(zes zW)),(91,zjq),(105,zw0),(106,(zlU zbF)),(107,zB3)] [] [(8,(kpL [2,3,7]))] [(8,1,(kpL [2,3])),(8,0,(kpL [4]))] [(8,spW zTC zTu (zD1 zW zbF) (.inl default) zQu zQM)] []
theorem zQX (zW:yC->yC->Bool×Int) (zbF:yE->yE->Bool×Int):zA (zD4 zW zbF) (lp (body f53) 0):=zp (id:=8) (hl:=rfl)
def zFz (zW:yC->yC->Bool×Int) (zbF:yE->yE->Bool×Int) (a:At) (b:At):Wy0 (Int):=.bn (zcW a.Kind b.Kind) λr9=>.i (r9 != 0) (.k r9) (.bn (zm6 a.Row b.Row) λr8=>.i (r8 != 0) (.k r8) (.bn (zvo zW zbF (Int.toNat 0+a.Ag.length+a.Items.length+b.Ag.length+b.Items.length+1) 0 (At.mk a.Kind a.Row a.Ag a.Func a.Items a.Op a.Bd) (At.mk b.Kind b.Row b.Ag b.Func b.Items b.Op b.Bd)) λr7=>.i (isL r7) (.k (getL r7)) (.bn (zcW (Int.ofNat (getR r7).1.Ag.length) (Int.ofNat (getR r7).2.Ag.length)) λr6=>.i (r6 != 0) (.k r6) (.bn (zcW (getR r7).1.Func (getR r7).2.Func) λr5=>.i (r5 != 0) (.k r5) (.bn (zbF (getR r7).1.Items (getR r7).2.Items) λr4=>.i (r4 != 0) (.k r4) (.bn (zcW (getR r7).1.Op (getR r7).2.Op) λr3=>.i (r3 != 0) (.k r3) (.bn (zoS (getR r7).1.Bd (getR r7).2.Bd) λr2=>.k r2)))))))
def zmG (zW:yC->yC->Bool×Int) (zbF:yE->yE->Bool×Int) (a:At) (b:At):=(zFz zW zbF a b).fin default
theorem zNB (zW:yC->yC->Bool×Int) (zbF:yE->yE->Bool×Int) (zDz:SdP 89 (zes zW)) (zTv:SdP 106 (zlU zbF)):SdP 53 (zht (zmG zW zbF)):=
 sT (cx':=(zD4 zW zbF)) (zi ⟨zDz,zkB,zDY,zTv,zId,trivial⟩) call53 func53 (lOK (aC (zQX zW zbF) aN))
abbrev zmB:=yD×yD×Int×Unit
abbrev zC6:=Int⊕(yD×yD)
def zAG (zbL:At->At->Bool×Int) (a:yD) (b:yD) (i:Int):Wy zmB Unit zC6:=.i (decide (i<Int.ofNat a.length)) (.i (decide (i<Int.ofNat b.length)) (.i (decide (0<=i)&&decide (i<Int.ofNat a.length)) (.i (decide (0<=i)&&decide (i<Int.ofNat b.length)) (.bn (zbL (At.mk (a.getD i.toNat default).At.Kind (a.getD i.toNat default).At.Row (a.getD i.toNat default).At.Ag (a.getD i.toNat default).At.Func (a.getD i.toNat default).At.Items (a.getD i.toNat default).At.Op (a.getD i.toNat default).At.Bd) (At.mk (b.getD i.toNat default).At.Kind (b.getD i.toNat default).At.Row (b.getD i.toNat default).At.Ag (b.getD i.toNat default).At.Func (b.getD i.toNat default).At.Items (b.getD i.toNat default).At.Op (b.getD i.toNat default).At.Bd)) λr1=>.i (r1 != 0) (.k (.inl (r1))) (.i (decide (0<=i)&&decide (i<Int.ofNat a.length)) (.i (decide (0<=i)&&decide (i<Int.ofNat b.length)) (.bn (zcW (a.getD i.toNat default).Exp (b.getD i.toNat default).Exp) λr0=>.i (r0 != 0) (.k (.inl (r0))) (.h (a,b,(IntKind.i64.wrap (i+1)),()) ())) .d) .d)) .d) .d) (.k (.inr (a,b)))) (.k (.inr (a,b)))
def zkU (zbL:At->At->Bool×Int) (x:zmB) (y:Unit):=zAG zbL x.1 x.2.1 x.2.2.1
def zAS (zbL:At->At->Bool×Int) (n:Nat) (a:yD) (b:yD) (i:Int):=zy (zkU zbL) (.inl default) n (a,b,i,()) ()
def zL4 (r:zC6):LTree ty:=.ite (isL r) (.done .ret [.lit (.int .i64 (getL r))] []) (.done (.exit 0) [.sl 69 (getR r).1,.sl 69 (getR r).2] [])
def zM3:LL ty zmB:=za (lSl 69) (za (lSl 69) (za zj zk))
def zLp (x:zmB) (y:Unit):Nat:=(x.1.length+x.2.1.length+Int.toNat x.2.2.1+1)
def zAA (zbL:At->At->Bool×Int):=zbY base 53 [(53,(zht zbL)),(91,zjq)] [] [(2,(kpL [0,1,5]))] [(2,1,(kpL [0,1])),(2,0,(kpL [4]))] [(2,spW zM3 zbcZ (zkU zbL) (.inl default) zL4 zLp)] []
theorem zLw (zbL:At->At->Bool×Int):zA (zAA zbL) (lp (body f34) 0):=zp (id:=2) (hl:=rfl)
def zB7 (zbL:At->At->Bool×Int) (a:yD) (b:yD):Wy0 (Int):=.bn (zAS zbL (a.length+b.length+Int.toNat 0+1) a b 0) λr5=>.i (isL r5) (.k (getL r5)) (.bn (zcW (Int.ofNat (getR r5).1.length) (Int.ofNat (getR r5).2.length)) λr4=>.k r4)
def zjU (zbL:At->At->Bool×Int) (a:yD) (b:yD):=(zB7 zbL a b).fin default
theorem zJa (zbL:At->At->Bool×Int) (zTY:SdP 53 (zht zbL)):SdP 34 (zjW (zjU zbL)):=
 sT (cx':=(zAA zbL)) (zi ⟨zTY,zkB,trivial⟩) call34 func34 (lOK (aC (zLw zbL) aN))
abbrev zoz:=yE×yE×Int×Unit
abbrev zFg:=Int⊕(yE×yE)
def zQ9 (zW:yC->yC->Bool×Int) (a:yE) (b:yE) (i:Int):Wy zoz Unit zFg:=.i (decide (i<Int.ofNat a.length)) (.i (decide (i<Int.ofNat b.length)) (.i (decide (0<=i)&&decide (i<Int.ofNat a.length)) (.i (decide (0<=i)&&decide (i<Int.ofNat b.length)) (.bn (zoS (a.getD i.toNat default).Value (b.getD i.toNat default).Value) λr1=>.i (r1 != 0) (.k (.inl (r1))) (.i (decide (0<=i)&&decide (i<Int.ofNat a.length)) (.i (decide (0<=i)&&decide (i<Int.ofNat b.length)) (.bn (zW (a.getD i.toNat default).Ann (b.getD i.toNat default).Ann) λr0=>.i (r0 != 0) (.k (.inl (r0))) (.h (a,b,(IntKind.i64.wrap (i+1)),()) ())) .d) .d)) .d) .d) (.k (.inr (a,b)))) (.k (.inr (a,b)))
def zCP (zW:yC->yC->Bool×Int) (x:zoz) (y:Unit):=zQ9 zW x.1 x.2.1 x.2.2.1
def zQH (zW:yC->yC->Bool×Int) (n:Nat) (a:yE) (b:yE) (i:Int):=zy (zCP zW) (.inl default) n (a,b,i,()) ()
def zPn (r:zFg):LTree ty:=.ite (isL r) (.done .ret [.lit (.int .i64 (getL r))] []) (.done (.exit 0) [.sl 100 (getR r).1,.sl 100 (getR r).2] [])
def zRf:LL ty zoz:=za (lSl 100) (za (lSl 100) (za zj zk))
def zQg (x:zoz) (y:Unit):Nat:=(x.1.length+x.2.1.length+Int.toNat x.2.2.1+1)
def zC4 (zW:yC->yC->Bool×Int):=zbY base 53 [(89,(zes zW)),(91,zjq),(107,zB3)] [] [(2,(kpL [0,1,5]))] [(2,1,(kpL [0,1])),(2,0,(kpL [4]))] [(2,spW zRf zbcZ (zCP zW) (.inl default) zPn zQg)] []
theorem zPA (zW:yC->yC->Bool×Int):zA (zC4 zW) (lp (body f106) 0):=zp (id:=2) (hl:=rfl)
def zSU (zW:yC->yC->Bool×Int) (a:yE) (b:yE):Wy0 (Int):=.bn (zQH zW (a.length+b.length+Int.toNat 0+1) a b 0) λr5=>.i (isL r5) (.k (getL r5)) (.bn (zcW (Int.ofNat (getR r5).1.length) (Int.ofNat (getR r5).2.length)) λr4=>.k r4)
def zqj (zW:yC->yC->Bool×Int) (a:yE) (b:yE):=(zSU zW a b).fin default
theorem zLS (zW:yC->yC->Bool×Int) (zDz:SdP 89 (zes zW)):SdP 106 (zlU (zqj zW)):=
 sT (cx':=(zC4 zW)) (zi ⟨zDz,zkB,zId,trivial⟩) call106 func106 (lOK (aC (zPA zW) aN))
def zlk:Nat->(yC->yC->Bool×Int)×(yD->yD->Bool×Int)×(At->At->Bool×Int)×(yE->yE->Bool×Int)
 | 0=>(λ_ _=>(false,default),λ_ _=>(false,default),λ_ _=>(false,default),λ_ _=>(false,default))
 | n+1=>(zAE ((zlk n).2.1),zjU ((zlk n).2.2.1),zmG ((zlk n).1) ((zlk n).2.2.2),zqj ((zlk n).1))
def zoG (n:Nat):yC->yC->Bool×Int:=(zlk n).1
def zjR (n:Nat):yD->yD->Bool×Int:=(zlk n).2.1
def zmI (n:Nat):At->At->Bool×Int:=(zlk n).2.2.1
def zln (n:Nat):yE->yE->Bool×Int:=(zlk n).2.2.2
theorem z2e (n:Nat):zoG (n+1)=zAE (zjR n):=rfl
theorem zN0 (n:Nat):zjR (n+1)=zjU (zmI n):=rfl
theorem zTl (n:Nat):zmI (n+1)=zmG (zoG n) (zln n):=rfl
theorem zQ7 (n:Nat):zln (n+1)=zqj (zoG n):=rfl
theorem zxf:∀ n,SdP 89 (zes (zoG n))/\SdP 34 (zjW (zjR n))/\SdP 53 (zht (zmI n))/\SdP 106 (zlU (zln n))
 | 0=>⟨z8 call89 (λ_=>rfl),z8 call34 (λ_=>rfl),z8 call53 (λ_=>rfl),z8 call106 (λ_=>rfl)⟩
 | n+1=>by
  have ih:=zxf n;exact ⟨zT0 _ (ih.2.1),zJa _ (ih.2.2.1),zNB _ _ (ih.1) (ih.2.2.2),zLS _ (ih.1)⟩
def zLr:yC->yC->Bool×Int:=zoG 1000
def zKs:Ab.Spec ty:=zes zLr
theorem zYP:SdP 89 zKs:=(zxf 1000).1
def zls:yD->yD->Bool×Int:=zjR 1000
def zpG:Ab.Spec ty:=zjW zls
theorem zzw:SdP 34 zpG:=(zxf 1000).2.1
def zju:At->At->Bool×Int:=zmI 1000
def znn:Ab.Spec ty:=zht zju
theorem zsU:SdP 53 znn:=(zxf 1000).2.2.1
def zt8:yE->yE->Bool×Int:=zln 1000
def ztg:Ab.Spec ty:=zlU zt8
theorem zBU:SdP 106 ztg:=(zxf 1000).2.2.2
abbrev zif:=yC×Int×Int×Int×Unit×Int×Int×Unit
abbrev zOy:=yC×Int×Int×Int×Int×At
abbrev zO4:=yC×Int×Int×Int×Int
abbrev zyb:=yC×Int×Int×Int×Unit
abbrev zOd:=yC×Int×Int
abbrev zyB:=yC×Int×Int×Unit
def zmE (zD:yC->Bool×Int) (a:yC) (most:Int) (i:Int) (k:Int) (n_:Int) (j:Int) (x_:At):Wy zif (At×Unit) zOy:=.i (decide (j<Int.ofNat x_.Ag.length)) (.i (decide (0<=j)&&decide (j<Int.ofNat x_.Ag.length)) (.bn (zD (x_.Ag.getD j.toNat default)) λr0=>.h (a,most,i,k,(),(if IntKind.i64.wrap (1+r0)>n_ then IntKind.i64.wrap (1+r0) else n_),(IntKind.i64.wrap (j+1)),()) (x_,())) .d) (.k (a,most,i,k,n_,x_))
def zz9 (zD:yC->Bool×Int) (x:zif) (y:At×Unit):=zmE zD x.1 x.2.1 x.2.2.1 x.2.2.2.1 x.2.2.2.2.2.1 x.2.2.2.2.2.2.1 y.1
def zz6 (zD:yC->Bool×Int) (n:Nat) (a:yC) (most:Int) (i:Int) (k:Int) (n_:Int) (j:Int) (x_:At):=zy (zz9 zD) default n (a,most,i,k,(),n_,j,()) (x_,())
def zVI (r:zOy):LTree ty:=.done (.exit 4) [.sl 28 r.1,.lit (.int .i64 r.2.1),.lit (.int .i64 r.2.2.1),.lit (.int .i64 r.2.2.2.1),.ptr 300 0,.lit (.int .i64 r.2.2.2.2.1)] [.box (base.enc 67 r.2.2.2.2.2) false]
def zYw:LL ty zif:=za (lSl 28) (za zj (za zj (za zj (za (zdR 300 0) (za zj (za zj zk))))))
def zZu:BL ty (At×Unit):=zff (zeK (λx=>(⟨x.1,⟨x.2.1,x.2.2.1⟩,x.2.2.2.1,x.2.2.2.2.1,x.2.2.2.2.2.1,x.2.2.2.2.2.2.1,⟨x.2.2.2.2.2.2.2.1,x.2.2.2.2.2.2.2.2.1,x.2.2.2.2.2.2.2.2.2.1⟩⟩:At)) (λx=>(x.Kind,x.Row.Table,x.Row.Seq,x.Ag,x.Func,x.Items,x.Op,x.Bd.Kind,x.Bd.Int,x.Bd.Text,())) (λ_=>rfl) (za (zI .i64) (za (zI .i64) (za (zI .i64) (za (lSl 23) (za (zI .i64) (za (lSl 100) (za (zI .i64) (za (zI .i64) (za (zI .i64) (za znV zk))))))))))) false (z6)
def zmU (zD:yC->Bool×Int) (a:yC) (most:Int) (i:Int) (k:Int) (n_:Int) (j:Int) (x_:At):Wy zif (At×Unit) zO4:=.i (decide (j<Int.ofNat x_.Items.length)) (.i (decide (0<=j)&&decide (j<Int.ofNat x_.Items.length)) (.bn (zD (x_.Items.getD j.toNat default).Ann) λr2=>.h (a,most,i,k,(),(if IntKind.i64.wrap (1+r2)>n_ then IntKind.i64.wrap (1+r2) else n_),(IntKind.i64.wrap (j+1)),()) (x_,())) .d) (.k (a,most,i,k,n_))
def zz5 (zD:yC->Bool×Int) (x:zif) (y:At×Unit):=zmU zD x.1 x.2.1 x.2.2.1 x.2.2.2.1 x.2.2.2.2.2.1 x.2.2.2.2.2.2.1 y.1
def zHY (zD:yC->Bool×Int) (n:Nat) (a:yC) (most:Int) (i:Int) (k:Int) (n_:Int) (j:Int) (x_:At):=zy (zz5 zD) default n (a,most,i,k,(),n_,j,()) (x_,())
def zWI (r:zO4):LTree ty:=.done (.exit 6) [.sl 28 r.1,.lit (.int .i64 r.2.1),.lit (.int .i64 r.2.2.1),.lit (.int .i64 r.2.2.2.1),.lit (.int .i64 r.2.2.2.2)] []
def zn9 (zD:yC->Bool×Int) (a:yC) (most:Int) (i:Int) (k:Int):Wy zyb Unit zOd:=.i (decide (0<=i)&&decide (i<Int.ofNat a.length)) (.i (decide (k<Int.ofNat (a.getD i.toNat default).Fs.length)) (.i (decide (0<=i)&&decide (i<Int.ofNat a.length)) (.i (decide (0<=k)&&decide (k<Int.ofNat (a.getD i.toNat default).Fs.length)) (.i (((a.getD i.toNat default).Fs.getD k.toNat default).At.Kind==0) (.h (a,most,i,(IntKind.i64.wrap (k+1)),()) ()) (.bn (zz6 zD ((a.length+most.toNat +i.toNat +k.toNat +Int.toNat 1+Int.toNat 0+((a.getD i.toNat default).Fs.getD k.toNat default).At.Ag.length+((a.getD i.toNat default).Fs.getD k.toNat default).At.Items.length+1)+zbV a) a most i k 1 0 (At.mk ((a.getD i.toNat default).Fs.getD k.toNat default).At.Kind ((a.getD i.toNat default).Fs.getD k.toNat default).At.Row ((a.getD i.toNat default).Fs.getD k.toNat default).At.Ag ((a.getD i.toNat default).Fs.getD k.toNat default).At.Func ((a.getD i.toNat default).Fs.getD k.toNat default).At.Items ((a.getD i.toNat default).Fs.getD k.toNat default).At.Op ((a.getD i.toNat default).Fs.getD k.toNat default).At.Bd)) λr5=>.bn (zHY zD ((r5.1.length+r5.2.1.toNat +r5.2.2.1.toNat +r5.2.2.2.1.toNat +r5.2.2.2.2.1.toNat +Int.toNat 0+r5.2.2.2.2.2.Ag.length+r5.2.2.2.2.2.Items.length+1)+zbV r5.1) r5.1 r5.2.1 r5.2.2.1 r5.2.2.2.1 r5.2.2.2.2.1 0 (At.mk r5.2.2.2.2.2.Kind r5.2.2.2.2.2.Row r5.2.2.2.2.2.Ag r5.2.2.2.2.2.Func r5.2.2.2.2.2.Items r5.2.2.2.2.2.Op r5.2.2.2.2.2.Bd)) λr4=>.h ((r4.1),(if r4.2.2.2.2>r4.2.1 then r4.2.2.2.2 else r4.2.1),(r4.2.2.1),(IntKind.i64.wrap (r4.2.2.2.1+1)),()) ())) .d) .d) (.k (a,most,i))) .d
def zBr (zD:yC->Bool×Int) (x:zyb) (y:Unit):=zn9 zD x.1 x.2.1 x.2.2.1 x.2.2.2.1
def zK0 (zD:yC->Bool×Int) (n:Nat) (a:yC) (most:Int) (i:Int) (k:Int):=zy (zBr zD) default n (a,most,i,k,()) ()
def zY6 (r:zOd):LTree ty:=.done (.exit 2) [.sl 28 r.1,.lit (.int .i64 r.2.1),.lit (.int .i64 r.2.2)] []
def z1a:LL ty zyb:=za (lSl 28) (za zj (za zj (za zj zk)))
def znW (zD:yC->Bool×Int) (a:yC) (most:Int) (i:Int):Wy zyB Unit (Int):=.i (decide (i<Int.ofNat a.length)) (.bn (zK0 zD ((a.length+most.toNat +i.toNat +Int.toNat 0+1)+zbV a) a most i 0) λr8=>.h ((r8.1),(r8.2.1),(IntKind.i64.wrap (r8.2.2+1)),()) ()) (.k most)
def zBu (zD:yC->Bool×Int) (x:zyB) (y:Unit):=znW zD x.1 x.2.1 x.2.2.1
def zKn (zD:yC->Bool×Int) (n:Nat) (a:yC) (most:Int) (i:Int):=zy (zBu zD) default n (a,most,i,()) ()
def zZ7:LL ty zyB:=za (lSl 28) (za zj (za zj zk))
def zWO (x:zif) (y:At×Unit):Nat:=((x.1.length+Int.toNat x.2.1+Int.toNat x.2.2.1+Int.toNat x.2.2.2.1+Int.toNat x.2.2.2.2.2.1+Int.toNat x.2.2.2.2.2.2.1+y.1.Ag.length+y.1.Items.length+1)+zbV x.1)
def zZv (x:zyb) (y:Unit):Nat:=((x.1.length+Int.toNat x.2.1+Int.toNat x.2.2.1+Int.toNat x.2.2.2.1+1)+zbV x.1)
def zZE (x:zyB) (y:Unit):Nat:=((x.1.length+Int.toNat x.2.1+Int.toNat x.2.2.1+1)+zbV x.1)
def znG (zD:yC->Bool×Int):=zbY base 75 [(108,(zpi zD))] [] [(3,(kpL [0,3,4])),(6,(kpL [0,3,4,5])),(12,(kpL [0,3,4,5,6,7,8])),(16,(kpL [0,3,4,5,6,7,9]))] [(3,1,(kpL [3])),(6,3,(kpL [0,3,4])),(12,5,(kpL [0,3,4,5,6,7])),(16,7,(kpL [0,3,4,5,7]))] [(12,spW zYw zZu (zz9 zD) default zVI zWO),(16,spW zYw zZu (zz5 zD) default zWI zWO),(6,spW z1a zbcZ (zBr zD) default zY6 zZv),(3,spW zZ7 zbcZ (zBu zD) default zUy zZE)] []
theorem zWt (zD:yC->Bool×Int):zA (znG zD) (lp (body f108) 2):=zp (id:=12) (hl:=rfl)
theorem zVM (zD:yC->Bool×Int):zA (znG zD) (lp (body f108) 3):=zp (id:=16) (hl:=rfl)
theorem zYH (zD:yC->Bool×Int):zA (znG zD) (lp (body f108) 1):=zp (id:=6) (hl:=rfl)
theorem zYM (zD:yC->Bool×Int):zA (znG zD) (lp (body f108) 0):=zp (id:=3) (hl:=rfl)
def zME (zD:yC->Bool×Int) (a:yC):Wy0 (Int):=.bn (zKn zD ((a.length+Int.toNat 0+Int.toNat 0+1)+zbV a) a 0 0) λr10=>.k r10
def zAI (zD:yC->Bool×Int) (a:yC):=(zME zD a).fin default
theorem zUs (zD:yC->Bool×Int) (z3I:SdP 108 (zpi zD)):SdP 108 (zpi (zAI zD)):=
 sT (cx':=(znG zD)) (zi ⟨z3I,trivial⟩) call108 func108 (lOK (aC (zYM zD) (aC (zYH zD) (aC (zWt zD) (aC (zVM zD) aN)))))
def z1E:Nat->(yC->Bool×Int)
 | 0=>λ_=>(false,default)
 | n+1=>zAI (z1E n)
def zll (n:Nat):yC->Bool×Int:=z1E n
theorem z0n (n:Nat):zll (n+1)=zAI (zll n):=rfl
theorem zUL:∀ n,SdP 108 (zpi (zll n))
 | 0=>z8 call108 (λ_=>rfl)
 | n+1=>by
  have ih:=zUL n;exact zUs _ (ih)
def zMp:yC->Bool×Int:=zll 1000
def zKb:Ab.Spec ty:=zpi zMp
theorem zY1:SdP 108 zKb:=(zUL 1000)
end Go.Proofs.YtljlfiomikifjaaGreatDoor
end
