/- Texts of this claim, joined (the program, its functions in plain words, and what they compute). -/
import Derived.Test.YtljlfiomikifjaaGreatDoorGC4
set_option autoImplicit false
set_option linter.unusedVariables false
set_option linter.unusedSectionVars false
set_option linter.unusedSimpArgs false
set_option maxRecDepth 1000000
set_option maxHeartbeats 0
noncomputable section
namespace Go.Proofs.YtljlfiomikifjaaGreatDoor
open Go Go.Ab
open Go.Proofs.Tryz
abbrev zcu:=yF×yF×Unit×yF×Int×Int×Unit
abbrev zfR:=Int⊕(yF×yF)
def zkx (s1:yF) (s2:yF) (t11:yF) (t12:Int) (t13:Int):Wy zcu (Unit) zfR:=.i (decide (t13<t12)) (.i (decide (0≤t13)&&decide (t13<Int.ofNat t11.length)) (.i (decide (t13≥Int.ofNat s2.length)) (.k (.inl 1)) (.i (decide (0≤t13)&&decide (t13<Int.ofNat s2.length)) (.bn (zmE (t11.getD t13.toNat default) (s2.getD t13.toNat default)) fun r0=>.i (r0 != 0) (.k (.inl (r0))) (.h (s1,s2,(),t11,t12,(IntKind.i64.wrap (t13+1)),()) ())) .d)) .d) (.k (.inr (s1,s2)))
def zeF (x:zcu) (y:Unit):=zkx x.1 x.2.1 x.2.2.2.1 x.2.2.2.2.1 x.2.2.2.2.2.1
def zkk (n:Nat) (s1:yF) (s2:yF) (t11:yF) (t12:Int) (t13:Int):=zH (zeF) (.inl default) n (s1,s2,(),t11,t12,t13,()) ()
def zke (r:zfR):LTree ty:=.ite (isL r) (.done .ret [.lit (.int .i64 (getL r))] []) (.done (.exit 0) [.sl 49 (getR r).1,.sl 49 (getR r).2] [])
def zkp:LL ty zcu:=za (lSl 49) (za (lSl 49) (za (lFn 233 (zn)) (za (lSl 49) (za zj (za zj zn)))))
def zkf (x:zcu) (y:Unit):Nat:=(x.1.length+x.2.1.length+x.2.2.2.1.length+Int.toNat x.2.2.2.2.1+Int.toNat x.2.2.2.2.2.1+1)
def zeH:=zb5 base 39 [(233,zmA)] [] [(2,(kpL [0,1,2,11,12,13]))] [(2,1,(kpL [0,1])),(2,0,(kpL [6]))] [(2,spW zkp z7V (zeF) (.inl default) zke zkf)] []
theorem zkd:zM zeH (lp (body f236) 0):=zw (id:=2) (hl:=rfl)
def zkP (s1:yF) (s2:yF):Wy0 (Int):=.bn (zkk (s1.length+s2.length+s1.length+(Int.ofNat s1.length).toNat +Int.toNat 0+1) s1 s2 s1 (Int.ofNat s1.length) 0) fun r2=>.i (isL r2) (.k (getL r2)) (.i (decide (Int.ofNat (getR r2).1.length<Int.ofNat (getR r2).2.length)) (.k (-1:Int)) (.k 0))
def zda (s1:yF) (s2:yF):=(zkP s1 s2).fin default
def zkQ:AL base (yF×yF×Unit×Unit):=zd (ze (vSl 49)) (zd (ze (vSl 49)) (zd (ze (vFn 233 zbW)) zr))
def zez:=zh zkQ fun x=>((zda x.1 x.2.1).1,zPQ (zda x.1 x.2.1).2)
theorem zjH:SdP 236 zez:=
 sT (cx':=zeH) (zi ⟨zpD,trivial⟩) call236 func236 (lOK (aC zkd aN))
def zQ3:=zbq base 8 [(233,zmA),(236,zez)]
def zSU (a:yF) (b:yF):Wy0 (Int):=.bn (zda a b) fun r0=>.k r0
def zkr (a:yF) (b:yF):=(zSU a b).fin default
def zsr:=zh zAP fun x=>((zkr x.1 x.2.1).1,zPQ (zkr x.1 x.2.1).2)
theorem zzW:SdP 206 zsr:=
 sT (cx':=zQ3) (zi ⟨zpD,zjH,trivial⟩) call206 func206 (lOK aN)
abbrev zei:=Unit×Unit×Int×(Nat×Nat)×Int×Unit
abbrev zb4:=yB×Unit
abbrev zlD:=Int×yB
abbrev zgd:=Unit×Unit×Int×Unit
abbrev zld:=(Nat×yB)⊕yB
def zum (k:Int) (s2_0:Nat) (s2_1:Nat) (k2:Int) (s:yB):Wy zei zb4 zlD:=.i (decide (k2<Int.ofNat s2_1)) (.i (decide (0≤k2)&&decide (k2<Int.ofNat s2_1)) (.i (decide (0≤IntKind.i64.wrap (k2 - 1))&&decide (IntKind.i64.wrap (k2 - 1)<Int.ofNat s2_1)) (.bn (zwW (s.getD (s2_0+k2.toNat) default) (s.getD (s2_0+(IntKind.i64.wrap (k2 - 1)).toNat) default)) fun r0=>.i (!r0) (.i (decide (0≤k2)&&decide (k2<Int.ofNat s2_1)) (.i (decide (0≤k)&&decide (k<Int.ofNat s.length)) (.i (decide (k.toNat<s.length)) (.h ((),(),(IntKind.i64.wrap (k+1)),(s2_0,s2_1),(IntKind.i64.wrap (k2+1)),()) ((s.set k.toNat (s.getD (s2_0+k2.toNat) default)),())) .d) .d) .d) (.h ((),(),k,(s2_0,s2_1),(IntKind.i64.wrap (k2+1)),()) (s,()))) .d) .d) (.k (k,s))
def zjF (x:zei) (y:zb4):=zum x.2.2.1 x.2.2.2.1.1 x.2.2.2.1.2 x.2.2.2.2.1 y.1
def zun (n:Nat) (k:Int) (s2_0:Nat) (s2_1:Nat) (k2:Int) (s:yB):=zH (zjF) default n ((),(),k,(s2_0,s2_1),k2,()) (s,())
def ztR (r:zlD):LTree ty:=.done (.exit 2) [.own 264,.lit (.int .i64 r.1)] [.arr 43 r.2 false]
def zt9:LL ty zei:=za (zd3 264) (za (lFn 208 (zn)) (za zj (za (zbhT 264) (za zj zn))))
def zuA:BL ty zb4:=zed 43 false (zbl)
def zuz (k:Int) (s:yB):Wy zgd zb4 zld:=.i (decide (k<Int.ofNat s.length)) (.i (decide (0≤k)&&decide (k<Int.ofNat s.length)) (.i (decide (0≤IntKind.i64.wrap (k - 1))&&decide (IntKind.i64.wrap (k - 1)<Int.ofNat s.length)) (.bn (zwW (s.getD k.toNat default) (s.getD (IntKind.i64.wrap (k - 1)).toNat default)) fun r3=>.i (r3) (.i (decide (0≤k)&&decide (k≤Int.ofNat s.length)&&decide (Int.ofNat s.length≤Int.ofNat s.length)) (.bn (zun (k.toNat +k.toNat +((Int.ofNat s.length).toNat - k.toNat)+Int.toNat 1+s.length+1) k k.toNat ((Int.ofNat s.length).toNat - k.toNat) 1 s) fun r2=>.i (decide (0≤r2.1)&&decide (r2.1≤Int.ofNat r2.2.length)&&decide (Int.ofNat r2.2.length≤Int.ofNat r2.2.length)) (.i (decide (r2.1.toNat +((Int.ofNat r2.2.length).toNat - r2.1.toNat)≤r2.2.length)) (.i (decide ((0:Int)≤(0:Int))&&decide (0≤r2.1)&&decide (r2.1≤Int.ofNat (List.take r2.1.toNat r2.2++List.replicate ((Int.ofNat r2.2.length).toNat - r2.1.toNat) []++List.drop (r2.1.toNat +((Int.ofNat r2.2.length).toNat - r2.1.toNat)) r2.2).length)) (.k (.inl (r2.1.toNat - Int.toNat 0,List.take r2.1.toNat r2.2++List.replicate ((Int.ofNat r2.2.length).toNat - r2.1.toNat) []++List.drop (r2.1.toNat +((Int.ofNat r2.2.length).toNat - r2.1.toNat)) r2.2))) .d) .d) .d) .d) (.h ((),(),(IntKind.i64.wrap (k+1)),()) (s,()))) .d) .d) (.k (.inr s))
def zjP (x:zgd) (y:zb4):=zuz x.2.2.1 y.1
def zuq (n:Nat) (k:Int) (s:yB):=zH (zjP) (.inl default) n ((),(),k,()) (s,())
def zti (r:zld):LTree ty:=.ite (isL r) (.done .ret [.sub 264 0 ((getL r).1)] [.arr 43 ((getL r).2) false]) (.done (.exit 0) [.own 264] [.arr 43 (getR r) false])
def zuu:LL ty zgd:=za (zd3 264) (za (lFn 208 (zn)) (za zj zn))
def ztH (x:zei) (y:zb4):Nat:=(Int.toNat x.2.2.1+x.2.2.2.1.1+x.2.2.2.1.2+Int.toNat x.2.2.2.2.1+y.1.length+1)
def ze4:=zb5 base 66 [(208,zvF)] [] [(4,(kpL [0,1,5])),(9,(kpL [0,1,5,6,7]))] [(4,1,(kpL [0])),(4,0,(kpL [4])),(9,3,(kpL [0,5]))] [(9,spW zt9 zuA (zjF) default ztR ztH),(4,spW zuu zuA (zjP) (.inl default) zti fun x y=>(Int.toNat x.2.2.1+y.1.length+1))] []
theorem ztI:zM ze4 (lp (body f207) 1):=zw (id:=9) (hl:=rfl)
theorem ztj:zM ze4 (lp (body f207) 0):=zw (id:=4) (hl:=rfl)
def zuP (s:yB):Wy0 (yB):=.i (decide (Int.ofNat s.length<2)) (.k s) (.bn (zuq (Int.toNat 1+s.length+1) 1 s) fun r6=>.i (isL r6) (.k (List.take (getL r6).1 (getL r6).2)) (.k (getR r6)))
def zfU (s:yB):=(zuP s).fin default
def ztk (r:yB):ARes ty:=⟨[.own 43 r],[none]⟩
def zuO:AL base (yB×Unit×Unit):=zd (zlZ 43) (zd (ze (vFn 208 zbW)) zr)
def zi3:=zh zuO fun x=>((zfU x.1).1,ztk (zfU x.1).2)
theorem zr6:SdP 207 zi3:=
 sT (cx':=ze4) (zi ⟨zCt,trivial⟩) call207 func207 (lOK (aC ztj (aC ztI aN))) (sg:=⟨[.own 43],[false]⟩)
def zg1 (x:yB):Bool×yB:=zz7 (fun a b=>zkr a b) x
def zj9:Ab.Spec ty:=zh (cx:=base) (zd (zlZ 43) (zd (ze (vFn 206 (zbW))) zr)) fun x=>((zg1 x.1).1,⟨[],[some ⟨43,(zg1 x.1).2⟩]⟩)
theorem zvX (c:Unit) (x y:(yF)) (h:(zkr x y).1=true):zsr (((.sl 49 x:AV ty)::(.sl 49 y:AV ty)::(zbW:VL base (Unit)).enc c).map Arg.pure)=some (true,⟨[.pure (.lit (.int .i64 (zkr x y).2))],[]⟩):=by
 rw [← h]; kernel_rfl
theorem zuc:SdP 205 zj9:=by
 letI:DecidableEq (ty 43):=inferInstanceAs (DecidableEq (yF))
 exact zbax (T:=43) zgL rfl Go.Proofs.Tryz.sortSet (fun x:(yF)=>(.sl 49 x:AV ty)) (fun _=>rfl) call205 zzW (zbW) (fun c=>fun a b=>zkr a b) zvX
abbrev zxm:=Unit×yB×Int×Int×Unit
abbrev zrb:=yB×Unit
abbrev zxa:=yB
def z2U (t6:yB) (t7:Int) (t8:Int) (out_:yB):Wy zxm zrb zxa:=.i (decide (t8<t7)) (.i (decide (0≤t8)&&decide (t8<Int.ofNat t6.length)) (.bn (zrh (t6.getD t8.toNat default)) fun r0=>.i (decide ((out_.length+[r0].length)*24≤zK)) (.h ((),t6,t7,(IntKind.i64.wrap (t8+1)),()) ((out_++[r0]),())) .d) .d) (.k out_)
def zM5 (x:zxm) (y:zrb):=z2U x.2.1 x.2.2.1 x.2.2.2.1 y.1
def z2J (n:Nat) (t6:yB) (t7:Int) (t8:Int) (out_:yB):=zH (zM5) default n ((),t6,t7,t8,()) (out_,())
def z0p (r:zxa):LTree ty:=.done (.exit 0) [.own 88] [.arr 43 r false]
def z1L:LL ty zxm:=za (zd3 88) (za (lSl 43) (za zj (za zj zn)))
def z1Y:BL ty zrb:=zed 43 false (zbl)
def zZT (x:zxm) (y:zrb):Nat:=(x.2.1.length+Int.toNat x.2.2.1+Int.toNat x.2.2.2.1+y.1.length+1)
def zLq:=zb5 base 22 [(204,zn4),(205,zj9),(206,zsr),(207,zi3),(208,zvF)] [(205,[true,false]),(207,[true,false])] [(3,[(3,.own 43),(6,.keep),(7,.keep),(8,.keep)])] [(3,1,(kpL [3]))] [(3,spW z1L z1Y (zM5) default z0p zZT)] []
theorem zZ5:zM zLq (lp (body f170) 0):=zw (id:=3) (hl:=rfl)
def z3A (l:yB):Wy0 zxa:=.bn (z2J (l.length+(Int.ofNat l.length).toNat +Int.toNat 0+0+1) l (Int.ofNat l.length) 0 []) fun r4=>.bn (zg1 r4) fun r3=>.bn (zfU r3) fun r2=>.k r2
def zCw (l:yB):=(z3A l).fin default
def zZq (r:zxa):ARes ty:=⟨[.own 43 r],[]⟩
def z4E:AL base zrb:=zd (ze (vSl 43)) zr
def zzZ:=zh z4E fun x=>((zCw x.1).1,zZq (zCw x.1).2)
theorem zFo:SdP 170 zzZ:=
 sT (cx':=zLq) (zi ⟨zup,zuc,zzW,zr6,zCt,trivial⟩) call170 func170 (lOK (aC zZ5 aN)) (sg:=⟨[.own 43],[]⟩)
abbrev zgf:=yF×Unit×Int×Int×Unit
def zAg (s:yF) (t7:Int) (t8:Int) (v:RowID):Wy zgf (RowID×Unit) (Int⊕Unit):=.i (decide (t8<t7)) (.i (decide (0≤t8)&&decide (t8<Int.ofNat s.length)) (.i (v.Table==(s.getD t8.toNat default).Table&&(v.Seq==(s.getD t8.toNat default).Seq&&true)) (.k (.inl t8)) (.h (s,(),t7,(IntKind.i64.wrap (t8+1)),()) (v,()))) .d) (.k (.inr ()))
def znc (x:zgf) (y:RowID×Unit):=zAg x.1 x.2.2.1 x.2.2.2.1 y.1
def zAh (n:Nat) (s:yF) (t7:Int) (t8:Int) (v:RowID):=zH (znc) (.inl default) n (s,(),t7,t8,()) (v,())
def zAz:LL ty zgf:=za (lSl 49) (za (zft 76 0) (za zj (za zj zn)))
def zz4:BL ty (RowID×Unit):=zjh (zhh (fun x=>(⟨x.1,x.2.1⟩:RowID)) (fun x=>(x.Table,x.Seq,())) (fun _=>rfl) (za (zR .i64) (za (zR .i64) zn))) false (zbl)
def zzs (x:zgf) (y:RowID×Unit):Nat:=(x.1.length+Int.toNat x.2.2.1+Int.toNat x.2.2.2.1+1)
def znA:=zb5 base 19 [] [] [(2,(kpL [0,3,7,8]))] [(2,1,[]),(2,0,(kpL [4]))] [(2,spW zAz zz4 (znc) (.inl default) zsk zzs)] []
theorem zzu:zM znA (lp (body f261) 0):=zw (id:=2) (hl:=rfl)
def zAX (s:yF) (v:RowID):Wy0 (Int):=.bn (zAh (s.length+(Int.ofNat s.length).toNat +Int.toNat 0+1) s (Int.ofNat s.length) 0 v) fun r0=>.i (isL r0) (.k (getL r0)) (.k (-1:Int))
def zjE (s:yF) (v:RowID):=(zAX s v).fin default
def zAL:AL base (yF×RowID×Unit):=zd (ze (vSl 49)) (zd (ze (zcG 49)) zr)
def zmn:=zh zAL fun x=>((zjE x.1 x.2.1).1,zPQ (zjE x.1 x.2.1).2)
theorem zxN:SdP 261 zmn:=
 sT (cx':=znA) (zi trivial) call261 func261 (lOK (aC zzu aN))
def zx7:=zbq base 9 [(261,zmn)]
def zyH (s:yF) (v:RowID):Wy0 (Bool):=.bn (zjE s v) fun r0=>.k (decide (r0≥0))
def zhH (s:yF) (v:RowID):=(zyH s v).fin default
def zkX:=zh zAL fun x=>((zhH x.1 x.2.1).1,zVj (zhH x.1 x.2.1).2)
theorem zv3:SdP 239 zkX:=
 sT (cx':=zx7) (zi ⟨zxN,trivial⟩) call239 func239 (lOK aN)
def zWE:=zbq base 7 [(239,zkX)]
def zZH (id:RowID) (p1:yF):Wy0 (Bool):=.bn (zhH p1 id) fun r0=>.k r0
def zze (id:RowID) (p1:yF):=(zZH id p1).fin default
def zZG:AL base (RowID×(yF×Unit)×Unit):=zd (ze (zcG 49)) (zd (ze (zue (zdA (vSl 49) zbW))) zr)
def zpy:=zh zZG fun x=>((zze x.1 x.2.1.1).1,zVj (zze x.1 x.2.1.1).2)
theorem zvs:SdP 238 zpy:=
 sT (cx':=zWE) (zi ⟨zv3,trivial⟩) call238 func238 (lOK aN)
abbrev zeQ:=yF×((yF×Unit)×Unit)×Int×Int×Unit
def zwL (s:yF) (f:yF) (t7:Int) (t8:Int):Wy zeQ (Unit) (Int⊕Unit):=.i (decide (t8<t7)) (.i (decide (0≤t8)&&decide (t8<Int.ofNat s.length)) (.bn (zze (s.getD t8.toNat default) f) fun r0=>.i (r0) (.k (.inl t8)) (.h (s,((f,()),()),t7,(IntKind.i64.wrap (t8+1)),()) ())) .d) (.k (.inr ()))
def zlm (x:zeQ) (y:Unit):=zwL x.1 x.2.1.1.1 x.2.2.1 x.2.2.2.1
def zw7 (n:Nat) (s:yF) (f:yF) (t7:Int) (t8:Int):=zH (zlm) (.inl default) n (s,((f,()),()),t7,t8,()) ()
def zxv:LL ty zeQ:=za (lSl 49) (za (lFn 238 (za (znx (za (lSl 49) zn) 0) zn)) (za zj (za zj zn)))
def zwh (x:zeQ) (y:Unit):Nat:=(x.1.length+x.2.1.1.1.length+Int.toNat x.2.2.1+Int.toNat x.2.2.2.1+1)
def zlx:=zb5 base 19 [(238,zpy)] [] [(2,(kpL [0,1,7,8]))] [(2,1,[]),(2,0,(kpL [4]))] [(2,spW zxv z7V (zlm) (.inl default) zsk zwh)] []
theorem zv9:zM zlx (lp (body f260) 0):=zw (id:=2) (hl:=rfl)
def zx6 (s:yF) (f:yF):Wy0 (Int):=.bn (zw7 (s.length+f.length+(Int.ofNat s.length).toNat +Int.toNat 0+1) s f (Int.ofNat s.length) 0) fun r2=>.i (isL r2) (.k (getL r2)) (.k (-1:Int))
def zhm (s:yF) (f:yF):=(zx6 s f).fin default
def zxS:AL base (yF×((yF×Unit)×Unit)×Unit):=zd (ze (vSl 49)) (zd (ze (vFn 238 (zdA (zue (zdA (vSl 49) zbW)) zbW))) zr)
def zku:=zh zxS fun x=>((zhm x.1 x.2.1.1.1).1,zPQ (zhm x.1 x.2.1.1.1).2)
theorem zuR:SdP 260 zku:=
 sT (cx':=zlx) (zi ⟨zvs,trivial⟩) call260 func260 (lOK (aC zv9 aN))
abbrev zeJ:=Unit×((yF×Unit)×Unit)×Int×Int×Unit
abbrev zeK:=yF×Unit
abbrev zmP:=Int×yF
def zwd (del:yF) (i:Int) (j:Int) (s:yF):Wy zeJ zeK zmP:=.i (decide (j<Int.ofNat s.length)) (.i (decide (0≤j)&&decide (j<Int.ofNat s.length)) (.bn (zze (s.getD j.toNat default) del) fun r0=>.i (!r0) (.i (decide (0≤i)&&decide (i<Int.ofNat s.length)) (.i (decide (i.toNat<s.length)) (.h ((),((del,()),()),(IntKind.i64.wrap (i+1)),(IntKind.i64.wrap (j+1)),()) ((s.set i.toNat (s.getD j.toNat default)),())) .d) .d) (.h ((),((del,()),()),i,(IntKind.i64.wrap (j+1)),()) (s,()))) .d) (.k (i,s))
def zkW (x:zeJ) (y:zeK):=zwd x.2.1.1.1 x.2.2.1 x.2.2.2.1 y.1
def zwe (n:Nat) (del:yF) (i:Int) (j:Int) (s:yF):=zH (zkW) default n ((),((del,()),()),i,j,()) (s,())
def zvj (r:zmP):LTree ty:=.done (.exit 0) [.own 168,.lit (.int .i64 r.1)] [.arr 49 r.2 false]
def zwc:LL ty zeJ:=za (zd3 168) (za (lFn 238 (za (znx (za (lSl 49) zn) 0) zn)) (za zj (za zj zn)))
def zwi:BL ty zeK:=zed 49 false (zbl)
def zvY (x:zeJ) (y:zeK):Nat:=(x.2.1.1.1.length+Int.toNat x.2.2.1+Int.toNat x.2.2.2.1+y.1.length+1)
def zkT:=zb5 base 42 [(238,zpy),(260,zku)] [] [(5,(kpL [0,1,5,6]))] [(5,1,(kpL [0,5]))] [(5,spW zwc zwi (zkW) default zvj zvY)] []
theorem zvT:zM zkT (lp (body f237) 0):=zw (id:=5) (hl:=rfl)
def zxw (s:yF) (del:yF):Wy0 (yF):=.bn (zhm s del) fun r3=>.i (r3==(-1:Int)) (.k s) (.bn (zwe (del.length+r3.toNat +(IntKind.i64.wrap (r3+1)).toNat +s.length+1) del r3 (IntKind.i64.wrap (r3+1)) s) fun r2=>.i (decide (0≤r2.1)&&decide (r2.1≤Int.ofNat r2.2.length)&&decide (Int.ofNat r2.2.length≤Int.ofNat r2.2.length)) (.i (decide (r2.1.toNat +((Int.ofNat r2.2.length).toNat - r2.1.toNat)≤r2.2.length)) (.i (decide ((0:Int)≤(0:Int))&&decide (0≤r2.1)&&decide (r2.1≤Int.ofNat (List.take r2.1.toNat r2.2++List.replicate ((Int.ofNat r2.2.length).toNat - r2.1.toNat) (RowID.mk 0 0)++List.drop (r2.1.toNat +((Int.ofNat r2.2.length).toNat - r2.1.toNat)) r2.2).length)) (.k (List.take (r2.1.toNat - Int.toNat 0) (List.take r2.1.toNat r2.2++List.replicate ((Int.ofNat r2.2.length).toNat - r2.1.toNat) (RowID.mk 0 0)++List.drop (r2.1.toNat +((Int.ofNat r2.2.length).toNat - r2.1.toNat)) r2.2))) .d) .d) .d)
def zg0 (s:yF) (del:yF):=(zxw s del).fin default
def zwS:AL base (yF×((yF×Unit)×Unit)×Unit):=zd (zlZ 49) (zd (ze (vFn 238 (zdA (zue (zdA (vSl 49) zbW)) zbW))) zr)
def zj7:=zh zwS fun x=>((zg0 x.1 x.2.1.1.1).1,zxU (zg0 x.1 x.2.1.1.1).2)
theorem zui:SdP 237 zj7:=
 sT (cx':=zkT) (zi ⟨zvs,zuR,trivial⟩) call237 func237 (lOK (aC zvT aN)) (sg:=⟨[.own 49],[false]⟩)
def z4Q:=zb5 base 11 [(204,zn4),(237,zj7),(238,zpy)] [(237,[true,false])] [] [] [] []
def z6t (a:yF) (b:yF):Wy0 (yF):=.bn (zrh a) fun r1=>.bn (zg0 r1 b) fun r0=>.k r0
def zMZ (a:yF) (b:yF):=(z6t a b).fin default
def zJG:=zh zAP fun x=>((zMZ x.1 x.2.1).1,zT5 (zMZ x.1 x.2.1).2)
theorem zXL:SdP 210 zJG:=
 sT (cx':=z4Q) (zi ⟨zup,zui,zvs,trivial⟩) call210 func210 (lOK aN) (sg:=⟨[.own 49],[]⟩)
def z2d:=zbq base 10 [(210,zJG)]
def z3S (a:yF) (b:yF):Wy0 (Bool):=.bn (zMZ a b) fun r0=>.k (Int.ofNat r0.length==0)
def zIZ (a:yF) (b:yF):=(z3S a b).fin default
def zHP:=zh zAP fun x=>((zIZ x.1 x.2.1).1,zVj (zIZ x.1 x.2.1).2)
theorem zWb:SdP 172 zHP:=
 sT (cx':=z2d) (zi ⟨zXL,trivial⟩) call172 func172 (lOK aN)
def zSq:=zbq base 17 [(172,zHP)]
def zVu (k:Int) (p1:Int) (p2:yB) (p3:yF):Wy0 (Bool):=.i (k != p1) (.i (decide (0≤k)&&decide (k<Int.ofNat p2.length)) (.bn (zIZ (p2.getD k.toNat default) p3) fun r0=>.k r0) .d) (.k false)
def zBz (k:Int) (p1:Int) (p2:yB) (p3:yF):=(zVu k p1 p2 p3).fin default
def zVv:AL base (Int×(Int×Unit)×(yB×Unit)×(yF×Unit)×Unit):=zd (ze zhl) (zd (ze (zue (zdA zhl zbW))) (zd (ze (zue (zdA (vSl 43) zbW))) (zd (ze (zue (zdA (vSl 49) zbW))) zr)))
def zm1:=zh zVv fun x=>((zBz x.1 x.2.1.1 x.2.2.1.1 x.2.2.2.1.1).1,zVj (zBz x.1 x.2.1.1 x.2.2.1.1 x.2.2.2.1.1).2)
theorem zsI:SdP 171 zm1:=
 sT (cx':=zSq) (zi ⟨zWb,trivial⟩) call171 func171 (lOK aN)
abbrev zu9:=Unit×Int×Int×Unit
abbrev zuX:=List Int×Unit
def z0C (t8:Int) (t9:Int) (out_:List Int):Wy zu9 zuX (List Int):=.i (decide (t9<t8)) (.i (decide (0≤t9)&&decide (t9<Int.ofNat out_.length)) (.i (decide (t9.toNat<out_.length)) (.h ((),t8,(IntKind.i64.wrap (t9+1)),()) ((out_.set t9.toNat t9),())) .d) .d) (.k out_)
def zJr (x:zu9) (y:zuX):=z0C x.2.1 x.2.2.1 y.1
def zZ6 (n:Nat) (t8:Int) (t9:Int) (out_:List Int):=zH (zJr) default n ((),t8,t9,()) (out_,())
def zXu (r:List Int):LTree ty:=.done (.exit 0) [.own 72] [.arr 3 r false]
def zZz:LL ty zu9:=za (zd3 72) (za zj (za zj zn))
def zZD:BL ty zuX:=zed 3 false (zbl)
def zWy (x:zu9) (y:zuX):Nat:=(Int.toNat x.2.1+Int.toNat x.2.2.1+y.1.length+1)
def zJA:=zb5 base 18 [] [] [(3,(kpL [3,8,9]))] [(3,1,(kpL [3]))] [(3,spW zZz zZD (zJr) default zXu zWy)] []
theorem zXj:zM zJA (lp (body f174) 0):=zw (id:=3) (hl:=rfl)
def z2j (n_:Int):Wy0 (List Int):=.i (decide (0≤n_)&&decide (n_≤n_)&&decide (n_*Int.ofNat 8≤Int.ofNat zK)&&decide (n_≤Int.ofNat zK)) (.bn (zZ6 ((Int.ofNat (List.replicate n_.toNat (0:Int)).length).toNat +Int.toNat 0+(List.replicate n_.toNat (0:Int)).length+1) (Int.ofNat (List.replicate n_.toNat (0:Int)).length) 0 (List.replicate n_.toNat (0:Int))) fun r0=>.k r0) .d
def zGx (n_:Int):=(z2j n_).fin default
def zWQ (r:List Int):ARes ty:=⟨[.own 3 r],[]⟩
def zFz:=zh zZE fun x=>((zGx x.1).1,zWQ (zGx x.1).2)
theorem zUm:SdP 174 zFz:=
 sT (cx':=zJA) (zi trivial) call174 func174 (lOK (aC zXj aN)) (sg:=⟨[.own 3],[]⟩)
abbrev zj4:=List Int×((Int×Unit)×(yB×Unit)×(yF×Unit)×Unit)×Int×Int×Unit
def zGd (s:List Int) (f_0:Int) (f_1:yB) (f_2:yF) (t7:Int) (t8:Int):Wy zj4 (Unit) (Int⊕Unit):=.i (decide (t8<t7)) (.i (decide (0≤t8)&&decide (t8<Int.ofNat s.length)) (.bn (zBz (s.getD t8.toNat default) f_0 f_1 f_2) fun r0=>.i (r0) (.k (.inl t8)) (.h (s,((f_0,()),(f_1,()),(f_2,()),()),t7,(IntKind.i64.wrap (t8+1)),()) ())) .d) (.k (.inr ()))
def zvt (x:zj4) (y:Unit):=zGd x.1 x.2.1.1.1 x.2.1.2.1.1 x.2.1.2.2.1.1 x.2.2.1 x.2.2.2.1
def zGH (n:Nat) (s:List Int) (f_0:Int) (f_1:yB) (f_2:yF) (t7:Int) (t8:Int):=zH (zvt) (.inl default) n (s,((f_0,()),(f_1,()),(f_2,()),()),t7,t8,()) ()
def zGb:LL ty zj4:=za (lSl 3) (za (lFn 171 (za (znx (za zj zn) 0) (za (znx (za (lSl 43) zn) 0) (za (znx (za (lSl 49) zn) 0) zn)))) (za zj (za zj zn)))
def zFi (x:zj4) (y:Unit):Nat:=(x.1.length+Int.toNat x.2.1.1.1+x.2.1.2.1.1.length+x.2.1.2.2.1.1.length+Int.toNat x.2.2.1+Int.toNat x.2.2.2.1+1)
def zvE:=zb5 base 19 [(171,zm1)] [] [(2,(kpL [0,1,7,8]))] [(2,1,[]),(2,0,(kpL [4]))] [(2,spW zGb z7V (zvt) (.inl default) zsk zFi)] []
theorem zFl:zM zvE (lp (body f211) 0):=zw (id:=2) (hl:=rfl)
def zHs (s:List Int) (f_0:Int) (f_1:yB) (f_2:yF):Wy0 (Int):=.bn (zGH (s.length+f_0.toNat +f_1.length+f_2.length+(Int.ofNat s.length).toNat +Int.toNat 0+1) s f_0 f_1 f_2 (Int.ofNat s.length) 0) fun r2=>.i (isL r2) (.k (getL r2)) (.k (-1:Int))
def zpJ (s:List Int) (f_0:Int) (f_1:yB) (f_2:yF):=(zHs s f_0 f_1 f_2).fin default
def zHw:AL base (List Int×((Int×Unit)×(yB×Unit)×(yF×Unit)×Unit)×Unit):=zd (ze (vSl 3)) (zd (ze (vFn 171 (zdA (zue (zdA zhl zbW)) (zdA (zue (zdA (vSl 43) zbW)) (zdA (zue (zdA (vSl 49) zbW)) zbW))))) zr)
def ztE:=zh zHw fun x=>((zpJ x.1 x.2.1.1.1 x.2.1.2.1.1 x.2.1.2.2.1.1).1,zPQ (zpJ x.1 x.2.1.1.1 x.2.1.2.1.1 x.2.1.2.2.1.1).2)
theorem zDL:SdP 211 ztE:=
 sT (cx':=zvE) (zi ⟨zsI,trivial⟩) call211 func211 (lOK (aC zFl aN))
def zDG:=zbq base 9 [(171,zm1),(211,ztE)]
def zEz (s:List Int) (f_0:Int) (f_1:yB) (f_2:yF):Wy0 (Bool):=.bn (zpJ s f_0 f_1 f_2) fun r0=>.k (decide (r0≥0))
def zmL (s:List Int) (f_0:Int) (f_1:yB) (f_2:yF):=(zEz s f_0 f_1 f_2).fin default
def zpU:=zh zHw fun x=>((zmL x.1 x.2.1.1.1 x.2.1.2.1.1 x.2.1.2.2.1.1).1,zVj (zmL x.1 x.2.1.1.1 x.2.1.2.1.1 x.2.1.2.2.1.1).2)
theorem zBO:SdP 173 zpU:=
 sT (cx':=zDG) (zi ⟨zsI,zDL,trivial⟩) call173 func173 (lOK aN)
abbrev zuV:=Unit×Unit×Unit×Int×Int×Unit
abbrev zvb:=(Unit×Unit)×yB×yB×Unit
abbrev zu2:=yB
def z0m (t11:Int) (t12:Int) (out_:yB) (t10:yB):Wy zuV zvb zu2:=.i (decide (t12<t11)) (.i (decide (0≤t12)&&decide (t12<Int.ofNat t10.length)) (.bn (zGx (Int.ofNat t10.length)) fun r1=>.bn (zmL r1 t12 t10 (t10.getD t12.toNat default)) fun r0=>.i (!r0) (.i (decide ((out_.length+[t10.getD t12.toNat default].length)*24≤zK)) (.h ((),(),(),t11,(IntKind.i64.wrap (t12+1)),()) (((),()),(out_++[t10.getD t12.toNat default]),t10,())) .d) (.h ((),(),(),t11,(IntKind.i64.wrap (t12+1)),()) (((),()),out_,t10,()))) .d) (.k out_)
def zJs (x:zuV) (y:zvb):=z0m x.2.2.2.1 x.2.2.2.2.1 y.2.1 y.2.2.1
def zZB (n:Nat) (t11:Int) (t12:Int) (out_:yB) (t10:yB):=zH (zJs) default n ((),(),(),t11,t12,()) (((),()),out_,t10,())
def zWR (r:zu2):LTree ty:=.done (.exit 0) [.own 120] [.arr 43 r false]
def z0J:LL ty zuV:=za (zft 120 0) (za (zd3 121) (za (zd3 122) (za zj (za zj zn))))
def zZM:BL ty zvb:=zjh (za (zd3 122) zn) false (zed 43 false (zed 43 false (zbl)))
def zXv (x:zuV) (y:zvb):Nat:=(Int.toNat x.2.2.2.1+Int.toNat x.2.2.2.2.1+y.2.1.length+y.2.2.1.length+1)
def zJO:=zb5 base 30 [(170,zzZ),(171,zm1),(173,zpU),(174,zFz)] [] [(4,[(3,.keep),(4,.own 43),(10,.keep),(11,.keep),(12,.keep)])] [(4,1,(kpL [4]))] [(4,spW z0J zZM (zJs) default zWR zXv)] []
theorem zYv:zM zJO (lp (body f143) 0):=zw (id:=4) (hl:=rfl)
def z2M (l:yB):Wy0 zu2:=.bn (zCw l) fun r5=>.bn (zZB ((Int.ofNat r5.length).toNat +Int.toNat 0+0+r5.length+1) (Int.ofNat r5.length) 0 [] r5) fun r4=>.k r4
def zvm (l:yB):=(z2M l).fin default
def zWn (r:zu2):ARes ty:=⟨[.own 43 r],[]⟩
def z13:AL base (yB×Unit):=zd (ze (vSl 43)) zr
def zFx:=zh z13 fun x=>((zvm x.1).1,zWn (zvm x.1).2)
theorem zSH:SdP 143 zFx:=
 sT (cx':=zJO) (zi ⟨zFo,zsI,zBO,zUm,trivial⟩) call143 func143 (lOK (aC zYv aN)) (sg:=⟨[.own 43],[]⟩)
def z3h:=zbq base 10 [(204,zn4),(212,zg2)]
def z44 (a:yF) (b:yF):Wy0 (yF):=.bn (zfO a) fun r1=>.i (decide ((r1.length+b.length)*16≤zK)) (.bn (zrh (r1++b)) fun r0=>.k r0) .d
def zMu (a:yF) (b:yF):=(z44 a b).fin default
def zJE:=zh zAP fun x=>((zMu x.1 x.2.1).1,zT5 (zMu x.1 x.2.1).2)
theorem zXw:SdP 175 zJE:=
 sT (cx':=z3h) (zi ⟨zup,zlK,trivial⟩) call175 func175 (lOK aN) (sg:=⟨[.own 49],[]⟩)
abbrev zuU:=yB×Unit×yF×yB×Int×Int×yB×Int×Int×Unit
abbrev zgW:=yB×Unit
abbrev zJy:=yB×yB×Int×Int×yB
abbrev zuZ:=yB×Unit×yB×Int×Int×Unit
abbrev zuY:=yB
def z0D (b:yB) (x_:yF) (t10:yB) (t11:Int) (t12:Int) (t16:yB) (t17:Int) (t18:Int) (out_:yB):Wy zuU zgW zJy:=.i (decide (t18<t17)) (.i (decide (0≤t18)&&decide (t18<Int.ofNat t16.length)) (.bn (zMu x_ (t16.getD t18.toNat default)) fun r2=>.i (decide ((out_.length+[r2].length)*24≤zK)) (.h (b,(),x_,t10,t11,t12,t16,t17,(IntKind.i64.wrap (t18+1)),()) ((out_++[r2]),())) .d) .d) (.k (b,t10,t11,t12,out_))
def zJJ (x:zuU) (y:zgW):=z0D x.1 x.2.2.1 x.2.2.2.1 x.2.2.2.2.1 x.2.2.2.2.2.1 x.2.2.2.2.2.2.1 x.2.2.2.2.2.2.2.1 x.2.2.2.2.2.2.2.2.1 y.1
def zZP (n:Nat) (b:yB) (x_:yF) (t10:yB) (t11:Int) (t12:Int) (t16:yB) (t17:Int) (t18:Int) (out_:yB):=zH (zJJ) default n (b,(),x_,t10,t11,t12,t16,t17,t18,()) (out_,())
def zXQ (r:zJy):LTree ty:=.done (.exit 2) [.sl 43 r.1,.own 128,.sl 43 r.2.1,.lit (.int .i64 r.2.2.1),.lit (.int .i64 r.2.2.2.1)] [.arr 43 r.2.2.2.2 false]
def z0w:LL ty zuU:=za (lSl 43) (za (zd3 128) (za (lSl 49) (za (lSl 43) (za zj (za zj (za (lSl 43) (za zj (za zj zn))))))))
def z0j:BL ty zgW:=zed 43 false (zbl)
def z0F (b:yB) (t10:yB) (t11:Int) (t12:Int) (out_:yB):Wy zuZ zgW zuY:=.i (decide (t12<t11)) (.i (decide (0≤t12)&&decide (t12<Int.ofNat t10.length)) (.bn (zZP (b.length+List.length (t10.getD t12.toNat default)+t10.length+t11.toNat +t12.toNat +b.length+(Int.ofNat b.length).toNat +Int.toNat 0+out_.length+1) b (t10.getD t12.toNat default) t10 t11 t12 b (Int.ofNat b.length) 0 out_) fun r4=>.h ((r4.1),(),(r4.2.1),(r4.2.2.1),(IntKind.i64.wrap (r4.2.2.2.1+1)),()) ((r4.2.2.2.2),())) .d) (.k out_)
def zJN (x:zuZ) (y:zgW):=z0F x.1 x.2.2.1 x.2.2.2.1 x.2.2.2.2.1 y.1
def zZW (n:Nat) (b:yB) (t10:yB) (t11:Int) (t12:Int) (out_:yB):=zH (zJN) default n (b,(),t10,t11,t12,()) (out_,())
def zYd (r:zuY):LTree ty:=.done (.exit 0) [.own 128] [.arr 43 r false]
def zZr:LL ty zuZ:=za (lSl 43) (za (zd3 128) (za (lSl 43) (za zj (za zj zn))))
def zXD (x:zuU) (y:zgW):Nat:=(x.1.length+x.2.2.1.length+x.2.2.2.1.length+Int.toNat x.2.2.2.2.1+Int.toNat x.2.2.2.2.2.1+x.2.2.2.2.2.2.1.length+Int.toNat x.2.2.2.2.2.2.2.1+Int.toNat x.2.2.2.2.2.2.2.2.1+y.1.length+1)
def zY0 (x:zuZ) (y:zgW):Nat:=(x.1.length+x.2.2.1.length+Int.toNat x.2.2.2.1+Int.toNat x.2.2.2.2.1+y.1.length+1)
def zB0:=zb5 base 32 [(170,zzZ),(175,zJE)] [] [(3,[(1,.keep),(5,.own 43),(10,.keep),(11,.keep),(12,.keep)]),(6,[(1,.keep),(5,.own 43),(7,.keep),(10,.keep),(11,.keep),(12,.keep),(16,.keep),(17,.keep),(18,.keep)])] [(3,1,(kpL [5])),(6,3,(kpL [1,5,10,11,12]))] [(6,spW z0w z0j (zJJ) default zXQ zXD),(3,spW zZr z0j (zJN) default zYd zY0)] []
theorem zYf:zM zB0 (lp (body f144) 1):=zw (id:=6) (hl:=rfl)
theorem zXY:zM zB0 (lp (body f144) 0):=zw (id:=3) (hl:=rfl)
def z1V (a:yB) (b:yB):Wy0 zuY:=.bn (zZW (b.length+a.length+(Int.ofNat a.length).toNat +Int.toNat 0+0+1) b a (Int.ofNat a.length) 0 []) fun r7=>.bn (zCw r7) fun r6=>.k r6
def zAV (a:yB) (b:yB):=(z1V a b).fin default
def zWr (r:zuY):ARes ty:=⟨[.own 43 r],[]⟩
def z1Z:AL base (yB×yB×Unit):=zd (ze (vSl 43)) (zd (ze (vSl 43)) zr)
def zFu:=zh z1Z fun x=>((zAV x.1 x.2.1).1,zWr (zAV x.1 x.2.1).2)
theorem zSE:SdP 144 zFu:=
 sT (cx':=zB0) (zi ⟨zFo,zXw,trivial⟩) call144 func144 (lOK (aC zXY (aC zYf aN))) (sg:=⟨[.own 43],[]⟩)
abbrev zmb:=Unit×Unit×yC×Int×Int×yD×Int×Int×Unit
abbrev zl5:=yB×yB×Unit
abbrev zBn:=yC×Int×Int×yB×yB
abbrev zl1:=Unit×yC×Int×Int×Unit
abbrev zl4:=yB×Unit
abbrev zsU:=yB
def zKg (zO:yC→Bool×yB) (t10:yC) (t11:Int) (t12:Int) (t19:yD) (t20:Int) (t21:Int) (all:yB) (sets:yB):Wy zmb zl5 zBn:=.i (decide (t21<t20)) (.i (decide (0≤t21)&&decide (t21<Int.ofNat t19.length)) (.i ((t19.getD t21.toNat default).At.Kind==2) (.i (decide ((0:Int)≤(0:Int))&&decide (0<Int.ofNat (t19.getD t21.toNat default).At.Ag.length)) (.bn (zO ((t19.getD t21.toNat default).At.Ag.getD (Int.toNat 0) default)) fun r12=>.bn (zAV sets r12) fun r11=>.bn (zvm r11) fun r10=>.h ((),(),t10,t11,t12,t19,t20,(IntKind.i64.wrap (t21+1)),()) (all,(r10),())) .d) (.bn (zAV sets [[(t19.getD t21.toNat default).At.Row]]) fun r14=>.bn (zvm r14) fun r13=>.h ((),(),t10,t11,t12,t19,t20,(IntKind.i64.wrap (t21+1)),()) (all,(r13),()))) .d) (.k (t10,t11,t12,all,sets))
def zzf (zO:yC→Bool×yB) (x:zmb) (y:zl5):=zKg zO x.2.2.1 x.2.2.2.1 x.2.2.2.2.1 x.2.2.2.2.2.1 x.2.2.2.2.2.2.1 x.2.2.2.2.2.2.2.1 y.1 y.2.1
def zKH (zO:yC→Bool×yB) (n:Nat) (t10:yC) (t11:Int) (t12:Int) (t19:yD) (t20:Int) (t21:Int) (all:yB) (sets:yB):=zH (zzf zO) default n ((),(),t10,t11,t12,t19,t20,t21,()) (all,sets,())
def zJc (r:zBn):LTree ty:=.done (.exit 2) [.own 204,.own 205,.sl 28 r.1,.lit (.int .i64 r.2.1),.lit (.int .i64 r.2.2.1)] [.arr 43 r.2.2.2.1 false,.arr 43 r.2.2.2.2 false]
def zKS:LL ty zmb:=za (zd3 204) (za (zd3 205) (za (lSl 28) (za zj (za zj (za (lSl 69) (za zj (za zj zn)))))))
def zKN:BL ty zl5:=zed 43 false (zed 43 false (zbl))
def zKl (zO:yC→Bool×yB) (t10:yC) (t11:Int) (t12:Int) (all:yB):Wy zl1 zl4 zsU:=.i (decide (t12<t11)) (.i (decide (0≤t12)&&decide (t12<Int.ofNat t10.length)) (.bn (zKH zO (t10.length+t11.toNat +t12.toNat +(t10.getD t12.toNat default).Fs.length+(Int.ofNat (t10.getD t12.toNat default).Fs.length).toNat +Int.toNat 0+all.length+1+1000) t10 t11 t12 (t10.getD t12.toNat default).Fs (Int.ofNat (t10.getD t12.toNat default).Fs.length) 0 all [[]]) fun r20=>.i (decide ((r20.2.2.2.1.length+r20.2.2.2.2.length)*24≤zK)) (.h ((),(r20.1),(r20.2.1),(IntKind.i64.wrap (r20.2.2.1+1)),()) ((r20.2.2.2.1++r20.2.2.2.2),())) .d) .d) (.k all)
def zzb (zO:yC→Bool×yB) (x:zl1) (y:zl4):=zKl zO x.2.1 x.2.2.1 x.2.2.2.1 y.1
def zKQ (zO:yC→Bool×yB) (n:Nat) (t10:yC) (t11:Int) (t12:Int) (all:yB):=zH (zzb zO) default n ((),t10,t11,t12,()) (all,())
def zJg (r:zsU):LTree ty:=.done (.exit 0) [.own 204] [.arr 43 r false]
def zKo:LL ty zl1:=za (zd3 204) (za (lSl 28) (za zj (za zj zn)))
def zJQ:BL ty zl4:=zed 43 false (zbl)
def zIT (x:zmb) (y:zl5):Nat:=(x.2.2.1.length+Int.toNat x.2.2.2.1+Int.toNat x.2.2.2.2.1+x.2.2.2.2.2.1.length+Int.toNat x.2.2.2.2.2.2.1+Int.toNat x.2.2.2.2.2.2.2.1+y.1.length+y.2.1.length+1000)
def zIp (x:zl1) (y:zl4):Nat:=(x.2.1.length+Int.toNat x.2.2.1+Int.toNat x.2.2.2.1+y.1.length+1000)
def zpK (zO:yC→Bool×yB):=zb5 base 51 [(74,(zjQ zO)),(143,zFx),(144,zFu)] [] [(3,[(3,.own 43),(10,.keep),(11,.keep),(12,.keep)]),(7,(kpL [3,6,10,11,12,19,20,21]))] [(3,1,(kpL [3])),(7,3,(kpL [3,6,10,11,12]))] [(7,spW zKS zKN (zzf zO) default zJc zIT),(3,spW zKo zJQ (zzb zO) default zJg zIp)] []
theorem zJm (zO:yC→Bool×yB):zM (zpK zO) (lp (body f74) 1):=zw (id:=7) (hl:=rfl)
theorem zIP (zO:yC→Bool×yB):zM (zpK zO) (lp (body f74) 0):=zw (id:=3) (hl:=rfl)
def zLu (zO:yC→Bool×yB) (a:yC):Wy0 zsU:=.bn (zKQ zO (a.length+(Int.ofNat a.length).toNat +Int.toNat 0+0+1000) a (Int.ofNat a.length) 0 []) fun r23=>.bn (zvm r23) fun r22=>.k r22
def zCe (zO:yC→Bool×yB) (a:yC):=(zLu zO a).fin default
theorem zF9 (zO:yC→Bool×yB) (zLx:SdP 74 (zjQ zO)):SdP 74 (zjQ (zCe zO)):=
 sT (cx':=(zpK zO)) (zi ⟨zLx,zSH,zSE,trivial⟩) call74 func74 (lOK (aC (zIP zO) (aC (zJm zO) aN))) (sg:=⟨[.own 43],[]⟩)
def zU2:Nat→(yC→Bool×yB)
 | 0=>fun _=>(false,default)
 | n+1=>zCe (zU2 n)
def zCp (n:Nat):yC→Bool×yB:=zU2 n
theorem zOV:∀ n,SdP 74 (zjQ (zCp n))
 | 0=>z8 call74 (fun _=>rfl)
 | n+1=>by
  have ih:=zOV n;exact zF9 _ (ih)
def zEK:yC→Bool×yB:=zCp 1000
def zzc:Ab.Spec ty:=zjQ zEK
theorem zIr:SdP 74 zzc:=(zOV 1000)
def zNQ:=zbq base 17 [(20,zcb),(73,zzi),(74,zzc)]
def zPu (a:yC):Wy0 (yB×Int):=.bn (zbX a) fun r2=>.i (!r2) (.k ([],1)) (.bn (zE2 a) fun r1=>.i (!r1) (.k ([],13)) (.bn (zEK a) fun r0=>.i (decide (Int.ofNat r0.length>512)) (.k ([],6)) (.k (r0,0))))
def zEr (a:yC):=(zPu a).fin default
def zMS (r:yB×Int):ARes ty:=⟨[.own 43 r.1,.pure (.lit (.int .i64 r.2))],[]⟩
def zzg:=zh zXg fun x=>((zEr x.1).1,zMS (zEr x.1).2)
theorem zIQ:SdP 24 zzg:=
 sT (cx':=zNQ) (zi ⟨zci,zI2,zIr,trivial⟩) call24 func24 (lOK aN) (sg:=⟨[.own 43,.pure],[]⟩)
def z71:=zbq base 8 []
def zWP (x_:At):Wy0 (yC):=.k [TO.mk 1 [FO.mk (At.mk x_.Kind x_.Row x_.Ag x_.Func x_.Items x_.Op x_.Bd) 1]]
def zm8 (x_:At):=(zWP x_).fin default
def zEj:=zh zCb fun x=>((zm8 x.1).1,zPo (zm8 x.1).2)
theorem zLM:SdP 102 zEj:=
 sT (cx':=z71) (zi trivial) call102 func102 (lOK aN) (sg:=⟨[.own 28],[]⟩)
def z9r:=zbq base 14 [(102,zEj)]
def z09 (id:RowID):Wy0 (yC):=.i (decide (id.Table<1)) (.k []) (.i (decide (id.Seq<1)) (.k []) (.k ((zm8 (At.mk 0 id [] 0 [] 0 (Value.mk 0 0 (ByteArray.mk #[])))).2)))
def zDe (id:RowID):=(z09 id).fin default
def zR0:=zh z4Y fun x=>((zDe x.1).1,zPo (zDe x.1).2)
theorem z3t:SdP 98 zR0:=
 sT (cx':=z9r) (zi ⟨zLM,trivial⟩) call98 func98 (lOK aN) (sg:=⟨[.own 28],[]⟩)
def z0u:=zbq base 6 [(98,zR0)]
def z1G (seq:Int):Wy0 (yC):=.bn (zDe (RowID.mk 1 seq)) fun r0=>.k r0
def zR8 (seq:Int):=(z1G seq).fin default
def zFt:=zh zZE fun x=>((zR8 x.1).1,zPo (zR8 x.1).2)
theorem zSB:SdP 44 zFt:=
 sT (cx':=z0u) (zi ⟨z3t,trivial⟩) call44 func44 (lOK aN) (sg:=⟨[.own 28],[]⟩)
def z5u:=zbq base 9 []
def zUY (n_:Int):Wy0 (yC):=.i (decide (n_<1)) (.k []) (.k [TO.mk (if 1152921504606846976<n_ then 1152921504606846976 else n_) []])
def zB9 (n_:Int):=(zUY n_).fin default
def zMe:=zh zZE fun x=>((zB9 x.1).1,zPo (zB9 x.1).2)
theorem z0h:SdP 46 zMe:=
 sT (cx':=z5u) (zi trivial) call46 func46 (lOK aN) (sg:=⟨[.own 28],[]⟩)
end Go.Proofs.YtljlfiomikifjaaGreatDoor
/- What lies inside lists of terms and factors: fuel for loops. -/
namespace Go.Proofs.YtljlfiomikifjaaGreatDoor
open Go.Proofs.Tryz
def zIq:yD→Nat
 | []=>0
 | f::r=>f.Exp.toNat +f.At.Ag.length+f.At.Items.length+1+zIq r
def zb2:yC→Nat
 | []=>0
 | t::r=>zIq t.Fs+1+zb2 r
end Go.Proofs.YtljlfiomikifjaaGreatDoor
namespace Go.Proofs.YtljlfiomikifjaaGreatDoor
open Go Go.Ab
open Go.Proofs.Tryz
def zjN (F:yD→yD→Bool×Int):Ab.Spec ty:=zh zZ4 fun x=>((F x.1 x.2.1).1,zPQ (F x.1 x.2.1).2)
def zTz:AL base (yE×yE×Unit):=zd (ze (vSl 100)) (zd (ze (vSl 100)) zr)
def zla (F:yE→yE→Bool×Int):Ab.Spec ty:=zh zTz fun x=>((F x.1 x.2.1).1,zPQ (F x.1 x.2.1).2)
def z3x:=zbq base 11 []
def zR2 (a:Int) (b:Int):Wy0 (Int):=.i (decide (a<b)) (.k (-1:Int)) (.i (decide (a>b)) (.k 1) (.k 0))
def zcT (a:Int) (b:Int):=(zR2 a b).fin default
def zlF:=zh zVI fun x=>((zcT x.1 x.2.1).1,zPQ (zcT x.1 x.2.1).2)
theorem znj:SdP 91 zlF:=
 sT (cx':=z3x) (zi trivial) call91 func91 (lOK aN)
abbrev zxp:=yC×yC×Int×Unit
abbrev zL0:=Int⊕(yC×yC)
def zYD (zbm:yD→yD→Bool×Int) (a:yC) (b:yC) (i:Int):Wy zxp (Unit) zL0:=.i (decide (i<Int.ofNat a.length)) (.i (decide (i<Int.ofNat b.length)) (.i (decide (0≤i)&&decide (i<Int.ofNat a.length)) (.i (decide (0≤i)&&decide (i<Int.ofNat b.length)) (.bn (zbm (a.getD i.toNat default).Fs (b.getD i.toNat default).Fs) fun r1=>.i (r1 != 0) (.k (.inl (r1))) (.i (decide (0≤i)&&decide (i<Int.ofNat a.length)) (.i (decide (0≤i)&&decide (i<Int.ofNat b.length)) (.bn (zcT (a.getD i.toNat default).Cf (b.getD i.toNat default).Cf) fun r0=>.i (r0 != 0) (.k (.inl (r0))) (.h (a,b,(IntKind.i64.wrap (i+1)),()) ())) .d) .d)) .d) .d) (.k (.inr (a,b)))) (.k (.inr (a,b)))
def zHj (zbm:yD→yD→Bool×Int) (x:zxp) (y:Unit):=zYD zbm x.1 x.2.1 x.2.2.1
def zYa (zbm:yD→yD→Bool×Int) (n:Nat) (a:yC) (b:yC) (i:Int):=zH (zHj zbm) (.inl default) n (a,b,i,()) ()
def zVr (r:zL0):LTree ty:=.ite (isL r) (.done .ret [.lit (.int .i64 (getL r))] []) (.done (.exit 0) [.sl 28 (getR r).1,.sl 28 (getR r).2] [])
def zXF:LL ty zxp:=za (lSl 28) (za (lSl 28) (za zj zn))
def zV0 (x:zxp) (y:Unit):Nat:=(x.1.length+x.2.1.length+Int.toNat x.2.2.1+1)
def zIh (zbm:yD→yD→Bool×Int):=zb5 base 53 [(34,(zjN zbm)),(91,zlF)] [] [(2,(kpL [0,1,5]))] [(2,1,(kpL [0,1])),(2,0,(kpL [4]))] [(2,spW zXF z7V (zHj zbm) (.inl default) zVr zV0)] []
theorem zVM (zbm:yD→yD→Bool×Int):zM (zIh zbm) (lp (body f89) 0):=zw (id:=2) (hl:=rfl)
def zZU (zbm:yD→yD→Bool×Int) (a:yC) (b:yC):Wy0 (Int):=.bn (zYa zbm (a.length+b.length+Int.toNat 0+1) a b 0) fun r5=>.i (isL r5) (.k (getL r5)) (.bn (zcT (Int.ofNat (getR r5).1.length) (Int.ofNat (getR r5).2.length)) fun r4=>.k r4)
def zy0 (zbm:yD→yD→Bool×Int) (a:yC) (b:yC):=(zZU zbm a b).fin default
theorem zQV (zbm:yD→yD→Bool×Int) (zMy:SdP 34 (zjN zbm)):SdP 89 (zej (zy0 zbm)):=
 sT (cx':=(zIh zbm)) (zi ⟨zMy,znj,trivial⟩) call89 func89 (lOK (aC (zVM zbm) aN))
def z74:=zbq base 4 []
def zYY (less:Bool):Wy0 (Int):=.i (less) (.k (-1:Int)) (.k 1)
def zA3 (less:Bool):=(zYY less).fin default
def z8S:AL base (Bool×Unit):=zd (ze zbiu) zr
def zOB:=zh z8S fun x=>((zA3 x.1).1,zPQ (zA3 x.1).2)
theorem z2Q:SdP 157 zOB:=
 sT (cx':=z74) (zi trivial) call157 func157 (lOK aN)
def z2s:=zbq base 38 [(157,zOB)]
def zOm (a:Value) (b:Value):Wy0 (Int):=.i (a.Kind != b.Kind) (.bn (zA3 (decide (a.Kind<b.Kind))) fun r0=>.k r0) (.i (a.Int != b.Int) (.bn (zA3 (decide (a.Int<b.Int))) fun r1=>.k r1) (.i (!a.Text.toList==b.Text.toList) (.bn (zA3 (Op.bytesLess a.Text.toList b.Text.toList)) fun r2=>.k r2) (.k 0)))
def zom (a:Value) (b:Value):=(zOm a b).fin default
def zzS:=zh z28 fun x=>((zom x.1 x.2.1).1,zPQ (zom x.1 x.2.1).2)
theorem zFB:SdP 107 zzS:=
 sT (cx':=z2s) (zi ⟨z2Q,trivial⟩) call107 func107 (lOK aN)
def zV9:=zbq base 19 [(91,zlF)]
def zHT (a:RowID) (b:RowID):Wy0 (Int):=.bn (zcT a.Table b.Table) fun r1=>.i (r1 != 0) (.k r1) (.bn (zcT a.Seq b.Seq) fun r0=>.k r0)
def zmN (a:RowID) (b:RowID):=(zHT a b).fin default
def zv6:=zh z2a fun x=>((zmN x.1 x.2.1).1,zPQ (zmN x.1 x.2.1).2)
theorem zCd:SdP 105 zv6:=
 sT (cx':=zV9) (zi ⟨znj,trivial⟩) call105 func105 (lOK aN)
abbrev zpQ:=Unit×Unit×Int×Unit
abbrev zo6:=At×At×Unit
abbrev zEE:=Int⊕(At×At)
def zul (zW:yC→yC→Bool×Int) (zbz:yE→yE→Bool×Int) (i:Int) (a:At) (b:At):Wy zpQ zo6 zEE:=.i (decide (i<Int.ofNat a.Ag.length)) (.i (decide (i<Int.ofNat b.Ag.length)) (.i (decide (0≤i)&&decide (i<Int.ofNat a.Ag.length)) (.i (decide (0≤i)&&decide (i<Int.ofNat b.Ag.length)) (.bn (zW (a.Ag.getD i.toNat default) (b.Ag.getD i.toNat default)) fun r0=>.i (r0 != 0) (.k (.inl (r0))) (.h ((),(),(IntKind.i64.wrap (i+1)),()) (a,b,()))) .d) .d) (.k (.inr (a,b)))) (.k (.inr (a,b)))
def zCn (zW:yC→yC→Bool×Int) (zbz:yE→yE→Bool×Int) (x:zpQ) (y:zo6):=zul zW zbz x.2.2.1 y.1 y.2.1
def zuk (zW:yC→yC→Bool×Int) (zbz:yE→yE→Bool×Int) (n:Nat) (i:Int) (a:At) (b:At):=zH (zCn zW zbz) (.inl default) n ((),(),i,()) (a,b,())
def zNI (r:zEE):LTree ty:=.ite (isL r) (.done .ret [.lit (.int .i64 (getL r))] []) (.done (.exit 0) [.ptr 384 0,.ptr 385 0] [.box (base.enc 67 (getR r).1) false,.box (base.enc 67 (getR r).2) false])
def zPW:LL ty zpQ:=za (zft 384 0) (za (zft 385 0) (za zj zn))
def zPV:BL ty zo6:=zjh (zhh (fun x=>(⟨x.1,⟨x.2.1,x.2.2.1⟩,x.2.2.2.1,x.2.2.2.2.1,x.2.2.2.2.2.1,x.2.2.2.2.2.2.1,⟨x.2.2.2.2.2.2.2.1,x.2.2.2.2.2.2.2.2.1,x.2.2.2.2.2.2.2.2.2.1⟩⟩:At)) (fun x=>(x.Kind,x.Row.Table,x.Row.Seq,x.Ag,x.Func,x.Items,x.Op,x.Bd.Kind,x.Bd.Int,x.Bd.Text,())) (fun _=>rfl) (za (zR .i64) (za (zR .i64) (za (zR .i64) (za (lSl 23) (za (zR .i64) (za (lSl 100) (za (zR .i64) (za (zR .i64) (za (zR .i64) (za zrl zn))))))))))) false (zjh (zhh (fun x=>(⟨x.1,⟨x.2.1,x.2.2.1⟩,x.2.2.2.1,x.2.2.2.2.1,x.2.2.2.2.2.1,x.2.2.2.2.2.2.1,⟨x.2.2.2.2.2.2.2.1,x.2.2.2.2.2.2.2.2.1,x.2.2.2.2.2.2.2.2.2.1⟩⟩:At)) (fun x=>(x.Kind,x.Row.Table,x.Row.Seq,x.Ag,x.Func,x.Items,x.Op,x.Bd.Kind,x.Bd.Int,x.Bd.Text,())) (fun _=>rfl) (za (zR .i64) (za (zR .i64) (za (zR .i64) (za (lSl 23) (za (zR .i64) (za (lSl 100) (za (zR .i64) (za (zR .i64) (za (zR .i64) (za zrl zn))))))))))) false (zbl))
def zN3 (x:zpQ) (y:zo6):Nat:=(Int.toNat x.2.2.1+y.1.Ag.length+y.1.Items.length+y.2.1.Ag.length+y.2.1.Items.length+1)
def zB4 (zW:yC→yC→Bool×Int) (zbz:yE→yE→Bool×Int):=zb5 base 96 [(89,(zej zW)),(91,zlF),(105,zv6),(106,(zla zbz)),(107,zzS)] [] [(8,(kpL [2,3,7]))] [(8,1,(kpL [2,3])),(8,0,(kpL [4]))] [(8,spW zPW zPV (zCn zW zbz) (.inl default) zNI zN3)] []
theorem zNs (zW:yC→yC→Bool×Int) (zbz:yE→yE→Bool×Int):zM (zB4 zW zbz) (lp (body f53) 0):=zw (id:=8) (hl:=rfl)
def zDd (zW:yC→yC→Bool×Int) (zbz:yE→yE→Bool×Int) (a:At) (b:At):Wy0 (Int):=.bn (zcT a.Kind b.Kind) fun r9=>.i (r9 != 0) (.k r9) (.bn (zmN a.Row b.Row) fun r8=>.i (r8 != 0) (.k r8) (.bn (zuk zW zbz (Int.toNat 0+a.Ag.length+a.Items.length+b.Ag.length+b.Items.length+1) 0 (At.mk a.Kind a.Row a.Ag a.Func a.Items a.Op a.Bd) (At.mk b.Kind b.Row b.Ag b.Func b.Items b.Op b.Bd)) fun r7=>.i (isL r7) (.k (getL r7)) (.bn (zcT (Int.ofNat (getR r7).1.Ag.length) (Int.ofNat (getR r7).2.Ag.length)) fun r6=>.i (r6 != 0) (.k r6) (.bn (zcT (getR r7).1.Func (getR r7).2.Func) fun r5=>.i (r5 != 0) (.k r5) (.bn (zbz (getR r7).1.Items (getR r7).2.Items) fun r4=>.i (r4 != 0) (.k r4) (.bn (zcT (getR r7).1.Op (getR r7).2.Op) fun r3=>.i (r3 != 0) (.k r3) (.bn (zom (getR r7).1.Bd (getR r7).2.Bd) fun r2=>.k r2)))))))
def zmk (zW:yC→yC→Bool×Int) (zbz:yE→yE→Bool×Int) (a:At) (b:At):=(zDd zW zbz a b).fin default
theorem zJS (zW:yC→yC→Bool×Int) (zbz:yE→yE→Bool×Int) (zBJ:SdP 89 (zej zW)) (zPf:SdP 106 (zla zbz)):SdP 53 (zg9 (zmk zW zbz)):=
 sT (cx':=(zB4 zW zbz)) (zi ⟨zBJ,znj,zCd,zPf,zFB,trivial⟩) call53 func53 (lOK (aC (zNs zW zbz) aN))
abbrev zmc:=yD×yD×Int×Unit
abbrev zBg:=Int⊕(yD×yD)
def zy2 (zbE:At→At→Bool×Int) (a:yD) (b:yD) (i:Int):Wy zmc (Unit) zBg:=.i (decide (i<Int.ofNat a.length)) (.i (decide (i<Int.ofNat b.length)) (.i (decide (0≤i)&&decide (i<Int.ofNat a.length)) (.i (decide (0≤i)&&decide (i<Int.ofNat b.length)) (.bn (zbE (At.mk (a.getD i.toNat default).At.Kind (a.getD i.toNat default).At.Row (a.getD i.toNat default).At.Ag (a.getD i.toNat default).At.Func (a.getD i.toNat default).At.Items (a.getD i.toNat default).At.Op (a.getD i.toNat default).At.Bd) (At.mk (b.getD i.toNat default).At.Kind (b.getD i.toNat default).At.Row (b.getD i.toNat default).At.Ag (b.getD i.toNat default).At.Func (b.getD i.toNat default).At.Items (b.getD i.toNat default).At.Op (b.getD i.toNat default).At.Bd)) fun r1=>.i (r1 != 0) (.k (.inl (r1))) (.i (decide (0≤i)&&decide (i<Int.ofNat a.length)) (.i (decide (0≤i)&&decide (i<Int.ofNat b.length)) (.bn (zcT (a.getD i.toNat default).Exp (b.getD i.toNat default).Exp) fun r0=>.i (r0 != 0) (.k (.inl (r0))) (.h (a,b,(IntKind.i64.wrap (i+1)),()) ())) .d) .d)) .d) .d) (.k (.inr (a,b)))) (.k (.inr (a,b)))
def zkG (zbE:At→At→Bool×Int) (x:zmc) (y:Unit):=zy2 zbE x.1 x.2.1 x.2.2.1
def zzl (zbE:At→At→Bool×Int) (n:Nat) (a:yD) (b:yD) (i:Int):=zH (zkG zbE) (.inl default) n (a,b,i,()) ()
def zI4 (r:zBg):LTree ty:=.ite (isL r) (.done .ret [.lit (.int .i64 (getL r))] []) (.done (.exit 0) [.sl 69 (getR r).1,.sl 69 (getR r).2] [])
def zKD:LL ty zmc:=za (lSl 69) (za (lSl 69) (za zj zn))
def zJj (x:zmc) (y:Unit):Nat:=(x.1.length+x.2.1.length+Int.toNat x.2.2.1+1)
def zzd (zbE:At→At→Bool×Int):=zb5 base 53 [(53,(zg9 zbE)),(91,zlF)] [] [(2,(kpL [0,1,5]))] [(2,1,(kpL [0,1])),(2,0,(kpL [4]))] [(2,spW zKD z7V (zkG zbE) (.inl default) zI4 zJj)] []
theorem zI9 (zbE:At→At→Bool×Int):zM (zzd zbE) (lp (body f34) 0):=zw (id:=2) (hl:=rfl)
def zAF (zbE:At→At→Bool×Int) (a:yD) (b:yD):Wy0 (Int):=.bn (zzl zbE (a.length+b.length+Int.toNat 0+1) a b 0) fun r5=>.i (isL r5) (.k (getL r5)) (.bn (zcT (Int.ofNat (getR r5).1.length) (Int.ofNat (getR r5).2.length)) fun r4=>.k r4)
def zjK (zbE:At→At→Bool×Int) (a:yD) (b:yD):=(zAF zbE a b).fin default
theorem zF5 (zbE:At→At→Bool×Int) (zQU:SdP 53 (zg9 zbE)):SdP 34 (zjN (zjK zbE)):=
 sT (cx':=(zzd zbE)) (zi ⟨zQU,znj,trivial⟩) call34 func34 (lOK (aC (zI9 zbE) aN))
abbrev zn0:=yE×yE×Int×Unit
abbrev zDq:=Int⊕(yE×yE)
def zNv (zW:yC→yC→Bool×Int) (a:yE) (b:yE) (i:Int):Wy zn0 (Unit) zDq:=.i (decide (i<Int.ofNat a.length)) (.i (decide (i<Int.ofNat b.length)) (.i (decide (0≤i)&&decide (i<Int.ofNat a.length)) (.i (decide (0≤i)&&decide (i<Int.ofNat b.length)) (.bn (zom (a.getD i.toNat default).Value (b.getD i.toNat default).Value) fun r1=>.i (r1 != 0) (.k (.inl (r1))) (.i (decide (0≤i)&&decide (i<Int.ofNat a.length)) (.i (decide (0≤i)&&decide (i<Int.ofNat b.length)) (.bn (zW (a.getD i.toNat default).Ann (b.getD i.toNat default).Ann) fun r0=>.i (r0 != 0) (.k (.inl (r0))) (.h (a,b,(IntKind.i64.wrap (i+1)),()) ())) .d) .d)) .d) .d) (.k (.inr (a,b)))) (.k (.inr (a,b)))
def zBi (zW:yC→yC→Bool×Int) (x:zn0) (y:Unit):=zNv zW x.1 x.2.1 x.2.2.1
def zN8 (zW:yC→yC→Bool×Int) (n:Nat) (a:yE) (b:yE) (i:Int):=zH (zBi zW) (.inl default) n (a,b,i,()) ()
def zNj (r:zDq):LTree ty:=.ite (isL r) (.done .ret [.lit (.int .i64 (getL r))] []) (.done (.exit 0) [.sl 100 (getR r).1,.sl 100 (getR r).2] [])
def zNq:LL ty zn0:=za (lSl 100) (za (lSl 100) (za zj zn))
def zMf (x:zn0) (y:Unit):Nat:=(x.1.length+x.2.1.length+Int.toNat x.2.2.1+1)
def zBx (zW:yC→yC→Bool×Int):=zb5 base 53 [(89,(zej zW)),(91,zlF),(107,zzS)] [] [(2,(kpL [0,1,5]))] [(2,1,(kpL [0,1])),(2,0,(kpL [4]))] [(2,spW zNq z7V (zBi zW) (.inl default) zNj zMf)] []
theorem zMJ (zW:yC→yC→Bool×Int):zM (zBx zW) (lp (body f106) 0):=zw (id:=2) (hl:=rfl)
def zPZ (zW:yC→yC→Bool×Int) (a:yE) (b:yE):Wy0 (Int):=.bn (zN8 zW (a.length+b.length+Int.toNat 0+1) a b 0) fun r5=>.i (isL r5) (.k (getL r5)) (.bn (zcT (Int.ofNat (getR r5).1.length) (Int.ofNat (getR r5).2.length)) fun r4=>.k r4)
def zph (zW:yC→yC→Bool×Int) (a:yE) (b:yE):=(zPZ zW a b).fin default
theorem zIR (zW:yC→yC→Bool×Int) (zBJ:SdP 89 (zej zW)):SdP 106 (zla (zph zW)):=
 sT (cx':=(zBx zW)) (zi ⟨zBJ,znj,zFB,trivial⟩) call106 func106 (lOK (aC (zMJ zW) aN))
def zlh:Nat→(yC→yC→Bool×Int)×(yD→yD→Bool×Int)×(At→At→Bool×Int)×(yE→yE→Bool×Int)
 | 0=>(fun _ _=>(false,default),fun _ _=>(false,default),fun _ _=>(false,default),fun _ _=>(false,default))
 | n+1=>(zy0 ((zlh n).2.1),zjK ((zlh n).2.2.1),zmk ((zlh n).1) ((zlh n).2.2.2),zph ((zlh n).1))
def zod (n:Nat):yC→yC→Bool×Int:=(zlh n).1
def zjL (n:Nat):yD→yD→Bool×Int:=(zlh n).2.1
def zmw (n:Nat):At→At→Bool×Int:=(zlh n).2.2.1
def zk5 (n:Nat):yE→yE→Bool×Int:=(zlh n).2.2.2
theorem zXm (n:Nat):zod (n+1)=zy0 (zjL n):=rfl
theorem zKO (n:Nat):zjL (n+1)=zjK (zmw n):=rfl
theorem zPs (n:Nat):zmw (n+1)=zmk (zod n) (zk5 n):=rfl
theorem zN0 (n:Nat):zk5 (n+1)=zph (zod n):=rfl
theorem zvh:∀ n,SdP 89 (zej (zod n))∧SdP 34 (zjN (zjL n))∧SdP 53 (zg9 (zmw n))∧SdP 106 (zla (zk5 n))
 | 0=>⟨z8 call89 (fun _=>rfl),z8 call34 (fun _=>rfl),z8 call53 (fun _=>rfl),z8 call106 (fun _=>rfl)⟩
 | n+1=>by
  have ih:=zvh n;exact ⟨zQV _ (ih.2.1),zF5 _ (ih.2.2.1),zJS _ _ (ih.1) (ih.2.2.2),zIR _ (ih.1)⟩
def zIy:yC→yC→Bool×Int:=zod 1000
def zHh:Ab.Spec ty:=zej zIy
theorem zVL:SdP 89 zHh:=(zvh 1000).1
def zls:yD→yD→Bool×Int:=zjL 1000
def zo7:Ab.Spec ty:=zjN zls
theorem zxC:SdP 34 zo7:=(zvh 1000).2.1
def zlI:At→At→Bool×Int:=zmw 1000
def zuD:Ab.Spec ty:=zg9 zlI
theorem zBb:SdP 53 zuD:=(zvh 1000).2.2.1
def ztr:yE→yE→Bool×Int:=zk5 1000
def zBo:Ab.Spec ty:=zla ztr
theorem zM2:SdP 106 zBo:=(zvh 1000).2.2.2
abbrev zhM:=yC×Int×Int×Int×Unit×Int×Int×Unit
abbrev zMU:=yC×Int×Int×Int×Int×At
abbrev zNg:=yC×Int×Int×Int×Int
abbrev zwN:=yC×Int×Int×Int×Unit
abbrev zM1:=yC×Int×Int
abbrev zwT:=yC×Int×Int×Unit
def zmx (zB:yC→Bool×Int) (a:yC) (most:Int) (i:Int) (k:Int) (n_:Int) (j:Int) (x_:At):Wy zhM (At×Unit) zMU:=.i (decide (j<Int.ofNat x_.Ag.length)) (.i (decide (0≤j)&&decide (j<Int.ofNat x_.Ag.length)) (.bn (zB (x_.Ag.getD j.toNat default)) fun r0=>.h (a,most,i,k,(),(if IntKind.i64.wrap (1+r0)>n_ then IntKind.i64.wrap (1+r0) else n_),(IntKind.i64.wrap (j+1)),()) (x_,())) .d) (.k (a,most,i,k,n_,x_))
def zyC (zB:yC→Bool×Int) (x:zhM) (y:At×Unit):=zmx zB x.1 x.2.1 x.2.2.1 x.2.2.2.1 x.2.2.2.2.2.1 x.2.2.2.2.2.2.1 y.1
def zyQ (zB:yC→Bool×Int) (n:Nat) (a:yC) (most:Int) (i:Int) (k:Int) (n_:Int) (j:Int) (x_:At):=zH (zyC zB) default n (a,most,i,k,(),n_,j,()) (x_,())
def zTc (r:zMU):LTree ty:=.done (.exit 4) [.sl 28 r.1,.lit (.int .i64 r.2.1),.lit (.int .i64 r.2.2.1),.lit (.int .i64 r.2.2.2.1),.ptr 300 0,.lit (.int .i64 r.2.2.2.2.1)] [.box (base.enc 67 r.2.2.2.2.2) false]
def zWe:LL ty zhM:=za (lSl 28) (za zj (za zj (za zj (za (zft 300 0) (za zj (za zj zn))))))
def zV7:BL ty (At×Unit):=zjh (zhh (fun x=>(⟨x.1,⟨x.2.1,x.2.2.1⟩,x.2.2.2.1,x.2.2.2.2.1,x.2.2.2.2.2.1,x.2.2.2.2.2.2.1,⟨x.2.2.2.2.2.2.2.1,x.2.2.2.2.2.2.2.2.1,x.2.2.2.2.2.2.2.2.2.1⟩⟩:At)) (fun x=>(x.Kind,x.Row.Table,x.Row.Seq,x.Ag,x.Func,x.Items,x.Op,x.Bd.Kind,x.Bd.Int,x.Bd.Text,())) (fun _=>rfl) (za (zR .i64) (za (zR .i64) (za (zR .i64) (za (lSl 23) (za (zR .i64) (za (lSl 100) (za (zR .i64) (za (zR .i64) (za (zR .i64) (za zrl zn))))))))))) false (zbl)
def zmm (zB:yC→Bool×Int) (a:yC) (most:Int) (i:Int) (k:Int) (n_:Int) (j:Int) (x_:At):Wy zhM (At×Unit) zNg:=.i (decide (j<Int.ofNat x_.Items.length)) (.i (decide (0≤j)&&decide (j<Int.ofNat x_.Items.length)) (.bn (zB (x_.Items.getD j.toNat default).Ann) fun r2=>.h (a,most,i,k,(),(if IntKind.i64.wrap (1+r2)>n_ then IntKind.i64.wrap (1+r2) else n_),(IntKind.i64.wrap (j+1)),()) (x_,())) .d) (.k (a,most,i,k,n_))
def zyN (zB:yC→Bool×Int) (x:zhM) (y:At×Unit):=zmm zB x.1 x.2.1 x.2.2.1 x.2.2.2.1 x.2.2.2.2.2.1 x.2.2.2.2.2.2.1 y.1
def zFv (zB:yC→Bool×Int) (n:Nat) (a:yC) (most:Int) (i:Int) (k:Int) (n_:Int) (j:Int) (x_:At):=zH (zyN zB) default n (a,most,i,k,(),n_,j,()) (x_,())
def zTt (r:zNg):LTree ty:=.done (.exit 6) [.sl 28 r.1,.lit (.int .i64 r.2.1),.lit (.int .i64 r.2.2.1),.lit (.int .i64 r.2.2.2.1),.lit (.int .i64 r.2.2.2.2)] []
def zng (zB:yC→Bool×Int) (a:yC) (most:Int) (i:Int) (k:Int):Wy zwN (Unit) zM1:=.i (decide (0≤i)&&decide (i<Int.ofNat a.length)) (.i (decide (k<Int.ofNat (a.getD i.toNat default).Fs.length)) (.i (decide (0≤i)&&decide (i<Int.ofNat a.length)) (.i (decide (0≤k)&&decide (k<Int.ofNat (a.getD i.toNat default).Fs.length)) (.i (((a.getD i.toNat default).Fs.getD k.toNat default).At.Kind==0) (.h (a,most,i,(IntKind.i64.wrap (k+1)),()) ()) (.bn (zyQ zB ((a.length+most.toNat +i.toNat +k.toNat +Int.toNat 1+Int.toNat 0+((a.getD i.toNat default).Fs.getD k.toNat default).At.Ag.length+((a.getD i.toNat default).Fs.getD k.toNat default).At.Items.length+1)+zb2 a) a most i k 1 0 (At.mk ((a.getD i.toNat default).Fs.getD k.toNat default).At.Kind ((a.getD i.toNat default).Fs.getD k.toNat default).At.Row ((a.getD i.toNat default).Fs.getD k.toNat default).At.Ag ((a.getD i.toNat default).Fs.getD k.toNat default).At.Func ((a.getD i.toNat default).Fs.getD k.toNat default).At.Items ((a.getD i.toNat default).Fs.getD k.toNat default).At.Op ((a.getD i.toNat default).Fs.getD k.toNat default).At.Bd)) fun r5=>.bn (zFv zB ((r5.1.length+r5.2.1.toNat +r5.2.2.1.toNat +r5.2.2.2.1.toNat +r5.2.2.2.2.1.toNat +Int.toNat 0+r5.2.2.2.2.2.Ag.length+r5.2.2.2.2.2.Items.length+1)+zb2 r5.1) r5.1 r5.2.1 r5.2.2.1 r5.2.2.2.1 r5.2.2.2.2.1 0 (At.mk r5.2.2.2.2.2.Kind r5.2.2.2.2.2.Row r5.2.2.2.2.2.Ag r5.2.2.2.2.2.Func r5.2.2.2.2.2.Items r5.2.2.2.2.2.Op r5.2.2.2.2.2.Bd)) fun r4=>.h ((r4.1),(if r4.2.2.2.2>r4.2.1 then r4.2.2.2.2 else r4.2.1),(r4.2.2.1),(IntKind.i64.wrap (r4.2.2.2.1+1)),()) ())) .d) .d) (.k (a,most,i))) .d
def zzM (zB:yC→Bool×Int) (x:zwN) (y:Unit):=zng zB x.1 x.2.1 x.2.2.1 x.2.2.2.1
def zH2 (zB:yC→Bool×Int) (n:Nat) (a:yC) (most:Int) (i:Int) (k:Int):=zH (zzM zB) default n (a,most,i,k,()) ()
def zVt (r:zM1):LTree ty:=.done (.exit 2) [.sl 28 r.1,.lit (.int .i64 r.2.1),.lit (.int .i64 r.2.2)] []
def zYN:LL ty zwN:=za (lSl 28) (za zj (za zj (za zj zn)))
def znu (zB:yC→Bool×Int) (a:yC) (most:Int) (i:Int):Wy zwT (Unit) (Int):=.i (decide (i<Int.ofNat a.length)) (.bn (zH2 zB ((a.length+most.toNat +i.toNat +Int.toNat 0+1)+zb2 a) a most i 0) fun r8=>.h ((r8.1),(r8.2.1),(IntKind.i64.wrap (r8.2.2+1)),()) ()) (.k most)
def zzJ (zB:yC→Bool×Int) (x:zwT) (y:Unit):=znu zB x.1 x.2.1 x.2.2.1
def zHr (zB:yC→Bool×Int) (n:Nat) (a:yC) (most:Int) (i:Int):=zH (zzJ zB) default n (a,most,i,()) ()
def zYh:LL ty zwT:=za (lSl 28) (za zj (za zj zn))
def zUc (x:zhM) (y:At×Unit):Nat:=((x.1.length+Int.toNat x.2.1+Int.toNat x.2.2.1+Int.toNat x.2.2.2.1+Int.toNat x.2.2.2.2.2.1+Int.toNat x.2.2.2.2.2.2.1+y.1.Ag.length+y.1.Items.length+1)+zb2 x.1)
def zVx (x:zwN) (y:Unit):Nat:=((x.1.length+Int.toNat x.2.1+Int.toNat x.2.2.1+Int.toNat x.2.2.2.1+1)+zb2 x.1)
def zVY (x:zwT) (y:Unit):Nat:=((x.1.length+Int.toNat x.2.1+Int.toNat x.2.2.1+1)+zb2 x.1)
def zni (zB:yC→Bool×Int):=zb5 base 75 [(108,(zoX zB))] [] [(3,(kpL [0,3,4])),(6,(kpL [0,3,4,5])),(12,(kpL [0,3,4,5,6,7,8])),(16,(kpL [0,3,4,5,6,7,9]))] [(3,1,(kpL [3])),(6,3,(kpL [0,3,4])),(12,5,(kpL [0,3,4,5,6,7])),(16,7,(kpL [0,3,4,5,7]))] [(12,spW zWe zV7 (zyC zB) default zTc zUc),(16,spW zWe zV7 (zyN zB) default zTt zUc),(6,spW zYN z7V (zzM zB) default zVt zVx),(3,spW zYh z7V (zzJ zB) default zRh zVY)] []
theorem zST (zB:yC→Bool×Int):zM (zni zB) (lp (body f108) 2):=zw (id:=12) (hl:=rfl)
theorem zTw (zB:yC→Bool×Int):zM (zni zB) (lp (body f108) 3):=zw (id:=16) (hl:=rfl)
theorem zVC (zB:yC→Bool×Int):zM (zni zB) (lp (body f108) 1):=zw (id:=6) (hl:=rfl)
theorem zWa (zB:yC→Bool×Int):zM (zni zB) (lp (body f108) 0):=zw (id:=3) (hl:=rfl)
def zJP (zB:yC→Bool×Int) (a:yC):Wy0 (Int):=.bn (zHr zB ((a.length+Int.toNat 0+Int.toNat 0+1)+zb2 a) a 0 0) fun r10=>.k r10
def zyX (zB:yC→Bool×Int) (a:yC):=(zJP zB a).fin default
theorem zQ8 (zB:yC→Bool×Int) (zZN:SdP 108 (zoX zB)):SdP 108 (zoX (zyX zB)):=
 sT (cx':=(zni zB)) (zi ⟨zZN,trivial⟩) call108 func108 (lOK (aC (zWa zB) (aC (zVC zB) (aC (zST zB) (aC (zTw zB) aN)))))
def zYz:Nat→(yC→Bool×Int)
 | 0=>fun _=>(false,default)
 | n+1=>zyX (zYz n)
def zlf (n:Nat):yC→Bool×Int:=zYz n
theorem zYt (n:Nat):zlf (n+1)=zyX (zlf n):=rfl
theorem zRu:∀ n,SdP 108 (zoX (zlf n))
 | 0=>z8 call108 (fun _=>rfl)
 | n+1=>by
  have ih:=zRu n;exact zQ8 _ (ih)
def zI0:yC→Bool×Int:=zlf 1000
def zHe:Ab.Spec ty:=zoX zI0
theorem zVl:SdP 108 zHe:=(zRu 1000)
abbrev zlL:=yC×Int×Int×Int×Unit×Int×Unit
abbrev zUC:=yC×Int×Int×Int×At
abbrev zUr:=yC×Int×Int×Int
abbrev zCG:=yC×Int×Int×Int×Unit
abbrev zUU:=yC×Int×Int
abbrev zCB:=yC×Int×Int×Unit
def zqF (zU:yC→Bool×Int) (a:yC) (n_:Int) (i:Int) (k:Int) (j:Int) (x_:At):Wy zlL (At×Unit) zUC:=.i (decide (j<Int.ofNat x_.Ag.length)) (.i (decide (0≤j)&&decide (j<Int.ofNat x_.Ag.length)) (.bn (zU (x_.Ag.getD j.toNat default)) fun r0=>.h (a,(IntKind.i64.wrap (n_+r0)),i,k,(),(IntKind.i64.wrap (j+1)),()) (x_,())) .d) (.k (a,n_,i,k,x_))
def zCP (zU:yC→Bool×Int) (x:zlL) (y:At×Unit):=zqF zU x.1 x.2.1 x.2.2.1 x.2.2.2.1 x.2.2.2.2.2.1 y.1
def zNc (zU:yC→Bool×Int) (n:Nat) (a:yC) (n_:Int) (i:Int) (k:Int) (j:Int) (x_:At):=zH (zCP zU) default n (a,n_,i,k,(),j,()) (x_,())
def z0k (r:zUC):LTree ty:=.done (.exit 4) [.sl 28 r.1,.lit (.int .i64 r.2.1),.lit (.int .i64 r.2.2.1),.lit (.int .i64 r.2.2.2.1),.ptr 284 0] [.box (base.enc 67 r.2.2.2.2) false]
def z2u:LL ty zlL:=za (lSl 28) (za zj (za zj (za zj (za (zft 284 0) (za zj zn)))))
def zrg (zU:yC→Bool×Int) (a:yC) (n_:Int) (i:Int) (k:Int) (j:Int) (x_:At):Wy zlL (At×Unit) zUr:=.i (decide (j<Int.ofNat x_.Items.length)) (.i (decide (0≤j)&&decide (j<Int.ofNat x_.Items.length)) (.bn (zU (x_.Items.getD j.toNat default).Ann) fun r2=>.h (a,(IntKind.i64.wrap (IntKind.i64.wrap (n_+1)+r2)),i,k,(),(IntKind.i64.wrap (j+1)),()) (x_,())) .d) (.k (a,n_,i,k))
def zCM (zU:yC→Bool×Int) (x:zlL) (y:At×Unit):=zrg zU x.1 x.2.1 x.2.2.1 x.2.2.2.1 x.2.2.2.2.2.1 y.1
def zMQ (zU:yC→Bool×Int) (n:Nat) (a:yC) (n_:Int) (i:Int) (k:Int) (j:Int) (x_:At):=zH (zCM zU) default n (a,n_,i,k,(),j,()) (x_,())
def z0I (r:zUr):LTree ty:=.done (.exit 6) [.sl 28 r.1,.lit (.int .i64 r.2.1),.lit (.int .i64 r.2.2.1),.lit (.int .i64 r.2.2.2)] []
def ztS (zU:yC→Bool×Int) (a:yC) (n_:Int) (i:Int) (k:Int):Wy zCG (Unit) zUU:=.i (decide (0≤i)&&decide (i<Int.ofNat a.length)) (.i (decide (k<Int.ofNat (a.getD i.toNat default).Fs.length)) (.i (decide (0≤i)&&decide (i<Int.ofNat a.length)) (.i (decide (0≤k)&&decide (k<Int.ofNat (a.getD i.toNat default).Fs.length)) (.bn (zNc zU ((a.length+(IntKind.i64.wrap (n_+1)).toNat +i.toNat +k.toNat +Int.toNat 0+((a.getD i.toNat default).Fs.getD k.toNat default).At.Ag.length+((a.getD i.toNat default).Fs.getD k.toNat default).At.Items.length+1)+zb2 a) a (IntKind.i64.wrap (n_+1)) i k 0 (At.mk ((a.getD i.toNat default).Fs.getD k.toNat default).At.Kind ((a.getD i.toNat default).Fs.getD k.toNat default).At.Row ((a.getD i.toNat default).Fs.getD k.toNat default).At.Ag ((a.getD i.toNat default).Fs.getD k.toNat default).At.Func ((a.getD i.toNat default).Fs.getD k.toNat default).At.Items ((a.getD i.toNat default).Fs.getD k.toNat default).At.Op ((a.getD i.toNat default).Fs.getD k.toNat default).At.Bd)) fun r5=>.bn (zMQ zU ((r5.1.length+r5.2.1.toNat +r5.2.2.1.toNat +r5.2.2.2.1.toNat +Int.toNat 0+r5.2.2.2.2.Ag.length+r5.2.2.2.2.Items.length+1)+zb2 r5.1) r5.1 r5.2.1 r5.2.2.1 r5.2.2.2.1 0 (At.mk r5.2.2.2.2.Kind r5.2.2.2.2.Row r5.2.2.2.2.Ag r5.2.2.2.2.Func r5.2.2.2.2.Items r5.2.2.2.2.Op r5.2.2.2.2.Bd)) fun r4=>.h ((r4.1),(r4.2.1),(r4.2.2.1),(IntKind.i64.wrap (r4.2.2.2+1)),()) ()) .d) .d) (.k (a,n_,i))) .d
def zEv (zU:yC→Bool×Int) (x:zCG) (y:Unit):=ztS zU x.1 x.2.1 x.2.2.1 x.2.2.2.1
def zOl (zU:yC→Bool×Int) (n:Nat) (a:yC) (n_:Int) (i:Int) (k:Int):=zH (zEv zU) default n (a,n_,i,k,()) ()
def z2z (r:zUU):LTree ty:=.done (.exit 2) [.sl 28 r.1,.lit (.int .i64 r.2.1),.lit (.int .i64 r.2.2)] []
def z4u:LL ty zCG:=za (lSl 28) (za zj (za zj (za zj zn)))
def ztg (zU:yC→Bool×Int) (a:yC) (n_:Int) (i:Int):Wy zCB (Unit) (Int):=.i (decide (i<Int.ofNat a.length)) (.bn (zOl zU ((a.length+(IntKind.i64.wrap (n_+1)).toNat +i.toNat +Int.toNat 0+1)+zb2 a) a (IntKind.i64.wrap (n_+1)) i 0) fun r8=>.h ((r8.1),(r8.2.1),(IntKind.i64.wrap (r8.2.2+1)),()) ()) (.k n_)
def zEs (zU:yC→Bool×Int) (x:zCB) (y:Unit):=ztg zU x.1 x.2.1 x.2.2.1
def zOf (zU:yC→Bool×Int) (n:Nat) (a:yC) (n_:Int) (i:Int):=zH (zEs zU) default n (a,n_,i,()) ()
def z3o:LL ty zCB:=za (lSl 28) (za zj (za zj zn))
def zZu (x:zlL) (y:At×Unit):Nat:=((x.1.length+Int.toNat x.2.1+Int.toNat x.2.2.1+Int.toNat x.2.2.2.1+Int.toNat x.2.2.2.2.2.1+y.1.Ag.length+y.1.Items.length+1)+zb2 x.1)
def z2h (x:zCG) (y:Unit):Nat:=((x.1.length+Int.toNat x.2.1+Int.toNat x.2.2.1+Int.toNat x.2.2.2.1+1)+zb2 x.1)
def z2C (x:zCB) (y:Unit):Nat:=((x.1.length+Int.toNat x.2.1+Int.toNat x.2.2.1+1)+zb2 x.1)
def ztD (zU:yC→Bool×Int):=zb5 base 71 [(109,(zoX zU))] [] [(3,(kpL [0,3,4])),(7,(kpL [0,3,4,5])),(12,(kpL [0,3,4,5,6,7])),(16,(kpL [0,3,4,5,6,8]))] [(3,1,(kpL [3])),(7,3,(kpL [0,3,4])),(12,5,(kpL [0,3,4,5,6])),(16,7,(kpL [0,3,4,5]))] [(12,spW z2u zV7 (zCP zU) default z0k zZu),(16,spW z2u zV7 (zCM zU) default z0I zZu),(7,spW z4u z7V (zEv zU) default z2z z2h),(3,spW z3o z7V (zEs zU) default zRh z2C)] []
theorem z0v (zU:yC→Bool×Int):zM (ztD zU) (lp (body f109) 2):=zw (id:=12) (hl:=rfl)
theorem zZ3 (zU:yC→Bool×Int):zM (ztD zU) (lp (body f109) 3):=zw (id:=16) (hl:=rfl)
theorem z2v (zU:yC→Bool×Int):zM (ztD zU) (lp (body f109) 1):=zw (id:=7) (hl:=rfl)
theorem z1K (zU:yC→Bool×Int):zM (ztD zU) (lp (body f109) 0):=zw (id:=3) (hl:=rfl)
def zQy (zU:yC→Bool×Int) (a:yC):Wy0 (Int):=.bn (zOf zU ((a.length+Int.toNat 0+Int.toNat 0+1)+zb2 a) a 0 0) fun r10=>.k r10
def zE3 (zU:yC→Bool×Int) (a:yC):=(zQy zU a).fin default
theorem zYW (zU:yC→Bool×Int) (z5Y:SdP 109 (zoX zU)):SdP 109 (zoX (zE3 zU)):=
 sT (cx':=(ztD zU)) (zi ⟨z5Y,trivial⟩) call109 func109 (lOK (aC (z1K zU) (aC (z2v zU) (aC (z0v zU) (aC (zZ3 zU) aN)))))
def z7h:Nat→(yC→Bool×Int)
 | 0=>fun _=>(false,default)
 | n+1=>zE3 (z7h n)
def zv5 (n:Nat):yC→Bool×Int:=z7h n
theorem z3w (n:Nat):zv5 (n+1)=zE3 (zv5 n):=rfl
theorem z1o:∀ n,SdP 109 (zoX (zv5 n))
 | 0=>z8 call109 (fun _=>rfl)
 | n+1=>by
  have ih:=z1o n;exact zYW _ (ih)
def zS0:yC→Bool×Int:=zv5 1000
def zOc:Ab.Spec ty:=zoX zS0
theorem z1I:SdP 109 zOc:=(z1o 1000)
abbrev zCE:=yC×Int×Int×Unit
abbrev zUJ:=Bool⊕(yC×Int)
abbrev zCC:=yC×Int×Unit
def zyg (a:yC) (i:Int) (k:Int):Wy zCE (Unit) zUJ:=.i (decide (0≤i)&&decide (i<Int.ofNat a.length)) (.i (decide (k<Int.ofNat (a.getD i.toNat default).Fs.length)) (.i (decide (0≤i)&&decide (i<Int.ofNat a.length)) (.i (decide (0≤k)&&decide (k<Int.ofNat (a.getD i.toNat default).Fs.length)) (.i (decide (((a.getD i.toNat default).Fs.getD k.toNat default).Exp>64)) (.k (.inl false)) (.i (decide (0≤i)&&decide (i<Int.ofNat a.length)) (.i (decide (0≤k)&&decide (k<Int.ofNat (a.getD i.toNat default).Fs.length)) (.i (decide (Int.ofNat ((a.getD i.toNat default).Fs.getD k.toNat default).At.Items.length>1024)) (.k (.inl false)) (.h (a,i,(IntKind.i64.wrap (k+1)),()) ())) .d) .d)) .d) .d) (.k (.inr (a,i)))) .d
def zJd (x:zCE) (y:Unit):=zyg x.1 x.2.1 x.2.2.1
def zUB (n:Nat) (a:yC) (i:Int) (k:Int):=zH (zJd) (.inl default) n (a,i,k,()) ()
def z5h (r:zUJ):LTree ty:=.ite (isL r) (.done .ret [.lit (.bool (getL r))] []) (.done (.exit 2) [.sl 28 (getR r).1,.lit (.int .i64 (getR r).2)] [])
def z7A:LL ty zCE:=za (lSl 28) (za zj (za zj zn))
def zxE (a:yC) (i:Int):Wy zCC (Unit) (Bool⊕Unit):=.i (decide (i<Int.ofNat a.length)) (.i (decide (0≤i)&&decide (i<Int.ofNat a.length)) (.i (decide (Int.ofNat (a.getD i.toNat default).Fs.length>64)) (.k (.inl false)) (.bn (zUB ((a.length+i.toNat +Int.toNat 0+1)+zb2 a) a i 0) fun r0=>.i (isL r0) (.k (.inl (getL r0))) (.h ((getR r0).1,(IntKind.i64.wrap ((getR r0).2+1)),()) ()))) .d) (.k (.inr ()))
def zIE (x:zCC) (y:Unit):=zxE x.1 x.2.1
def zU4 (n:Nat) (a:yC) (i:Int):=zH (zIE) (.inl default) n (a,i,()) ()
def z7j:LL ty zCC:=za (lSl 28) (za zj zn)
def z52 (x:zCE) (y:Unit):Nat:=((x.1.length+Int.toNat x.2.1+Int.toNat x.2.2.1+1)+zb2 x.1)
def z6g (x:zCC) (y:Unit):Nat:=((x.1.length+Int.toNat x.2.1+1)+zb2 x.1)
def zIB:=zb5 base 65 [(108,zHe),(109,zOc)] [] [(4,(kpL [0,3])),(9,(kpL [0,3,4]))] [(4,1,[]),(4,0,(kpL [2])),(9,3,(kpL [0,3])),(9,0,(kpL [2]))] [(9,spW z7A z7V (zJd) (.inl default) z5h z52),(4,spW z7j z7V (zIE) (.inl default) zQe z6g)] []
theorem z5L:zM zIB (lp (body f54) 1):=zw (id:=9) (hl:=rfl)
theorem z5v:zM zIB (lp (body f54) 0):=zw (id:=4) (hl:=rfl)
def zYB (a:yC):Wy0 (Bool):=.i (decide (Int.ofNat a.length>512)) (.k false) (.bn (zI0 a) fun r4=>.i (decide (r4>8)) (.k false) (.bn (zS0 a) fun r3=>.i (decide (r3>4096)) (.k false) (.bn (zU4 ((a.length+Int.toNat 0+1)+zb2 a) a 0) fun r2=>.i (isL r2) (.k (getL r2)) (.k true))))
def zA2 (a:yC):=(zYB a).fin default
def zE0:=zh zXg fun x=>((zA2 x.1).1,zVj (zA2 x.1).2)
theorem zMC:SdP 54 zE0:=
 sT (cx':=zIB) (zi ⟨zVl,z1I,trivial⟩) call54 func54 (lOK (aC z5v (aC z5L aN)))
end Go.Proofs.YtljlfiomikifjaaGreatDoor
end
