/- Texts of this claim, joined (the program, its functions in plain words, and what they compute). -/
import Derived.Test.YtljlfiomikifjaaGreatDoorGC4
set_option autoImplicit false
set_option linter.unusedVariables false
set_option linter.unusedSectionVars false
set_option linter.unusedSimpArgs false
set_option maxRecDepth 1000000
set_option maxHeartbeats 0
noncomputable section
namespace Go.Proofs.YtljlfiomikifjaaGreatDoor
open Go Go.Ab
abbrev zeh:=Unit×Int×(Nat×Nat)×Int×Unit
abbrev zbF:=yF×Unit
abbrev zfo:=Int×yF
abbrev zfq:=Unit×Int×Unit
abbrev zfn:=(Nat×yF)⊕yF
def zyu (k:Int) (s2_0:Nat) (s2_1:Nat) (k2:Int) (s:yF):Wy zeh zbF zfo:=.i (decide (k2<Int.ofNat s2_1)) (.i (decide (0≤k2)&&decide (k2<Int.ofNat s2_1)) (.i (decide (0≤IntKind.i64.wrap (k2 - 1))&&decide (IntKind.i64.wrap (k2 - 1)<Int.ofNat s2_1)) (.i (!((s.getD (s2_0+k2.toNat) default).Table==(s.getD (s2_0+(IntKind.i64.wrap (k2 - 1)).toNat) default).Table&&((s.getD (s2_0+k2.toNat) default).Seq==(s.getD (s2_0+(IntKind.i64.wrap (k2 - 1)).toNat) default).Seq&&true))) (.i (decide (0≤k2)&&decide (k2<Int.ofNat s2_1)) (.i (decide (0≤k)&&decide (k<Int.ofNat s.length)) (.i (decide (k.toNat<s.length)) (.h ((),(IntKind.i64.wrap (k+1)),(s2_0,s2_1),(IntKind.i64.wrap (k2+1)),()) ((s.set k.toNat (s.getD (s2_0+k2.toNat) default)),())) .d) .d) .d) (.h ((),k,(s2_0,s2_1),(IntKind.i64.wrap (k2+1)),()) (s,()))) .d) .d) (.k (k,s))
def zmz (x:zeh) (y:zbF):Wy zeh zbF zfo:=zyu x.2.1 x.2.2.1.1 x.2.2.1.2 x.2.2.2.1 y.1
def zyy (n:Nat) (k:Int) (s2_0:Nat) (s2_1:Nat) (k2:Int) (s:yF):Bool×zfo:=zI (zmz) default n ((),k,(s2_0,s2_1),k2,()) (s,())
def zxz (r:zfo):LTree ty:=.done (.exit 2) [.own 244,.lit (.int .i64 r.1)] [.arr 49 r.2 false]
def zyM:LL ty zeh:=za (lOwn 244) (za lI64 (za (lSub 244) (za lI64 zp)))
def zyp:BL ty zbF:=bArr 49 false (bNil)
def zyv (k:Int) (s:yF):Wy zfq zbF zfn:=.i (decide (k<Int.ofNat s.length)) (.i (decide (0≤k)&&decide (k<Int.ofNat s.length)) (.i (decide (0≤IntKind.i64.wrap (k - 1))&&decide (IntKind.i64.wrap (k - 1)<Int.ofNat s.length)) (.i ((s.getD k.toNat default).Table==(s.getD (IntKind.i64.wrap (k - 1)).toNat default).Table&&((s.getD k.toNat default).Seq==(s.getD (IntKind.i64.wrap (k - 1)).toNat default).Seq&&true)) (.i (decide (0≤k)&&decide (k≤Int.ofNat s.length)&&decide (Int.ofNat s.length≤Int.ofNat s.length)) (.bn (zyy (k.toNat +k.toNat +((Int.ofNat s.length).toNat - k.toNat)+Int.toNat 1+s.length+1) k k.toNat ((Int.ofNat s.length).toNat - k.toNat) 1 s) fun r0=>.i (decide (0≤r0.1)&&decide (r0.1≤Int.ofNat r0.2.length)&&decide (Int.ofNat r0.2.length≤Int.ofNat r0.2.length)) (.i (decide (r0.1.toNat +((Int.ofNat r0.2.length).toNat - r0.1.toNat)≤r0.2.length)) (.i (decide ((0:Int)≤(0:Int))&&decide (0≤r0.1)&&decide (r0.1≤Int.ofNat (List.take r0.1.toNat r0.2++List.replicate ((Int.ofNat r0.2.length).toNat - r0.1.toNat) (RowID.mk 0 0)++List.drop (r0.1.toNat +((Int.ofNat r0.2.length).toNat - r0.1.toNat)) r0.2).length)) (.k (.inl (r0.1.toNat - Int.toNat 0,List.take r0.1.toNat r0.2++List.replicate ((Int.ofNat r0.2.length).toNat - r0.1.toNat) (RowID.mk 0 0)++List.drop (r0.1.toNat +((Int.ofNat r0.2.length).toNat - r0.1.toNat)) r0.2))) .d) .d) .d) .d) (.h ((),(IntKind.i64.wrap (k+1)),()) (s,()))) .d) .d) (.k (.inr s))
def zml (x:zfq) (y:zbF):Wy zfq zbF zfn:=zyv x.2.1 y.1
def zyz (n:Nat) (k:Int) (s:yF):Bool×zfn:=zI (zml) (.inl default) n ((),k,()) (s,())
def zyd (r:zfn):LTree ty:=.ite (isL r) (.done .ret [.sub 244 0 ((getL r).1)] [.arr 49 ((getL r).2) false]) (.done (.exit 0) [.own 244] [.arr 49 (getR r) false])
def zyG:LL ty zfq:=za (lOwn 244) (za lI64 zp)
def zxV (x:zeh) (y:zbF):Nat:=(Int.toNat x.2.1+x.2.2.1.1+x.2.2.1.2+Int.toNat x.2.2.2.1+y.1.length+1)
def zgT:Cx ty:=mkCx base 61 [] [] [(4,(kpL [0,3])),(9,(kpL [0,3,4,5]))] [(4,1,(kpL [0])),(4,0,(kpL [2])),(9,3,(kpL [0,3]))] [(9,spW zyM zyp (zmz) default zxz zxV),(4,spW zyG zyp (zml) (.inl default) zyd fun x y=>(Int.toNat x.2.1+y.1.length+1))] []
theorem zx6:zL zgT (lp (body Tryz.f234) 1):=zw (id:=9) (hl:=rfl)
theorem zxR:zL zgT (lp (body Tryz.f234) 0):=zw (id:=4) (hl:=rfl)
def zzm (s:yF):Wy0 (yF):=.i (decide (Int.ofNat s.length<2)) (.k s) (.bn (zyz (Int.toNat 1+s.length+1) 1 s) fun r2=>.i (isL r2) (.k (List.take (getL r2).1 (getL r2).2)) (.k (getR r2)))
def zit (s:yF):Bool×yF:=(zzm s).fin default
def zxJ (r:yF):ARes ty:=⟨[.own 49 r],[none]⟩
def zzp:AL base zbF:=zd (aOwn 49) aNil
def zlE:Ab.Spec ty:=zh zzp fun x=>((zit x.1).1,zxJ (zit x.1).2)
theorem zwj:SdP 234 zlE:=
 sW (cx':=zgT) zq zi zl (zj trivial) Tryz.call234 Tryz.func234 (c:=body Tryz.f234) (lOK (aC zxR (aC zx6 aN))) (sg:=⟨[.own 49],[false]⟩)
def zhH (x:yF):Bool×yF:=zz7 (fun a b=>zmG a b) x
def slices_SortFunc_Lapi_RowID_api_RowID_spec:Ab.Spec ty:=zh (cx:=base) (zd (aOwn 49) (zd (ze (vFn 233 (vNil))) aNil)) fun x=>((zhH x.1).1,⟨[],[some ⟨49,(zhH x.1).2⟩]⟩)
theorem zxl (c:Unit) (x y:RowID) (h:(zmG x y).1=true):zmr ((AV.agg (base.enc 49 x)::AV.agg (base.enc 49 y)::(vNil:VL base (Unit)).enc c).map Arg.pure)=some (true,⟨[.pure (.lit (.int .i64 (zmG x y).2))],[]⟩):=by
 rw [← h]; kernel_rfl
theorem zvk:SdP 232 slices_SortFunc_Lapi_RowID_api_RowID_spec:=by
 letI:DecidableEq (ty 49):=inferInstanceAs (DecidableEq RowID)
 exact z8B (T:=49) zi rfl Go.Proofs.Tryz.sortRow Tryz.isAgg49 (by unfold szOf; exact Tryz.sizeOf49) Tryz.call232 zpk (vNil) (fun c=>fun a b=>zmG a b) zxl
def zUk:Cx ty:=mkCx base 10 [(212,zgU),(232,slices_SortFunc_Lapi_RowID_api_RowID_spec),(233,zmr),(234,zlE)] [(232,[true,false]),(234,[true])] [] [] [] []
def zVJ (l:yF):Wy0 (yF):=.bn (zfJ l) fun r2=>.bn (zhH r2) fun r1=>.bn (zit r1) fun r0=>.k r0
def zq2 (l:yF):Bool×yF:=(zVJ l).fin default
def zQ2 (r:yF):ARes ty:=⟨[.own 49 r],[]⟩
def zUp:AL base (yF×Unit):=zd (ze (vSl 49)) aNil
def znX:Ab.Spec ty:=zh zUp fun x=>((zq2 x.1).1,zQ2 (zq2 x.1).2)
theorem zuq:SdP 204 znX:=
 sW (cx':=zUk) zq zi zl (zj ⟨zlX,zvk,zpk,zwj,trivial⟩) Tryz.call204 Tryz.func204 (c:=body Tryz.f204) (lOK aN) (sg:=⟨[.own 49],[]⟩)
abbrev zbZ:=yF×yF×Unit×yF×Int×Int×Unit
abbrev zcm:=Int⊕(yF×yF)
def zj9 (s1:yF) (s2:yF) (t11:yF) (t12:Int) (t13:Int):Wy zbZ (Unit) zcm:=.i (decide (t13<t12)) (.i (decide (0≤t13)&&decide (t13<Int.ofNat t11.length)) (.i (decide (t13≥Int.ofNat s2.length)) (.k (.inl 1)) (.i (decide (0≤t13)&&decide (t13<Int.ofNat s2.length)) (.bn (zmG (t11.getD t13.toNat default) (s2.getD t13.toNat default)) fun r0=>.i (r0 != 0) (.k (.inl (r0))) (.h (s1,s2,(),t11,t12,(IntKind.i64.wrap (t13+1)),()) ())) .d)) .d) (.k (.inr (s1,s2)))
def zeE (x:zbZ) (y:Unit):Wy zbZ (Unit) zcm:=zj9 x.1 x.2.1 x.2.2.2.1 x.2.2.2.2.1 x.2.2.2.2.2.1
def zkB (n:Nat) (s1:yF) (s2:yF) (t11:yF) (t12:Int) (t13:Int):Bool×zcm:=zI (zeE) (.inl default) n (s1,s2,(),t11,t12,t13,()) ()
def zj1 (r:zcm):LTree ty:=.ite (isL r) (.done .ret [.lit (.int .i64 (getL r))] []) (.done (.exit 0) [.sl 49 (getR r).1,.sl 49 (getR r).2] [])
def zkf:LL ty zbZ:=za (lSl 49) (za (lSl 49) (za (lFn 233 (zp)) (za (lSl 49) (za lI64 (za lI64 zp)))))
def zj2 (x:zbZ) (y:Unit):Nat:=(x.1.length+x.2.1.length+x.2.2.2.1.length+Int.toNat x.2.2.2.2.1+Int.toNat x.2.2.2.2.2.1+1)
def zeF:Cx ty:=mkCx base 39 [(233,zmr)] [] [(2,(kpL [0,1,2,11,12,13]))] [(2,1,(kpL [0,1])),(2,0,(kpL [6]))] [(2,spW zkf z5G (zeE) (.inl default) zj1 zj2)] []
theorem zj4:zL zeF (lp (body Tryz.f236) 0):=zw (id:=2) (hl:=rfl)
def zkQ (s1:yF) (s2:yF):Wy0 (Int):=.bn (zkB (s1.length+s2.length+s1.length+(Int.ofNat s1.length).toNat +Int.toNat 0+1) s1 s2 s1 (Int.ofNat s1.length) 0) fun r2=>.i (isL r2) (.k (getL r2)) (.i (decide (Int.ofNat (getR r2).1.length<Int.ofNat (getR r2).2.length)) (.k (-1:Int)) (.k 0))
def zc7 (s1:yF) (s2:yF):Bool×Int:=(zkQ s1 s2).fin default
def zkR:AL base (yF×yF×Unit×Unit):=zd (ze (vSl 49)) (zd (ze (vSl 49)) (zd (ze (vFn 233 vNil)) aNil))
def zez:Ab.Spec ty:=zh zkR fun x=>((zc7 x.1 x.2.1).1,zO3 (zc7 x.1 x.2.1).2)
theorem zjF:SdP 236 zez:=
 sW (cx':=zeF) zq zi zl (zj ⟨zpk,trivial⟩) Tryz.call236 Tryz.func236 (c:=body Tryz.f236) (lOK (aC zj4 aN))
def zQr:Cx ty:=mkCx base 8 [(233,zmr),(236,zez)] [] [] [] [] []
def zRo (a:yF) (b:yF):Wy0 (Int):=.bn (zc7 a b) fun r0=>.k r0
def zku (a:yF) (b:yF):Bool×Int:=(zRo a b).fin default
def zsq:Ab.Spec ty:=zh zAG fun x=>((zku x.1 x.2.1).1,zO3 (zku x.1 x.2.1).2)
theorem zzF:SdP 206 zsq:=
 sW (cx':=zQr) zq zi zl (zj ⟨zpk,zjF,trivial⟩) Tryz.call206 Tryz.func206 (c:=body Tryz.f206) (lOK aN)
abbrev zdd:=Unit×Unit×Int×(Nat×Nat)×Int×Unit
abbrev zbw:=yB×Unit
abbrev zeo:=Int×yB
abbrev zel:=Unit×Unit×Int×Unit
abbrev zeq:=(Nat×yB)⊕yB
def zuC (k:Int) (s2_0:Nat) (s2_1:Nat) (k2:Int) (s:yB):Wy zdd zbw zeo:=.i (decide (k2<Int.ofNat s2_1)) (.i (decide (0≤k2)&&decide (k2<Int.ofNat s2_1)) (.i (decide (0≤IntKind.i64.wrap (k2 - 1))&&decide (IntKind.i64.wrap (k2 - 1)<Int.ofNat s2_1)) (.bn (zxg (s.getD (s2_0+k2.toNat) default) (s.getD (s2_0+(IntKind.i64.wrap (k2 - 1)).toNat) default)) fun r0=>.i (!r0) (.i (decide (0≤k2)&&decide (k2<Int.ofNat s2_1)) (.i (decide (0≤k)&&decide (k<Int.ofNat s.length)) (.i (decide (k.toNat<s.length)) (.h ((),(),(IntKind.i64.wrap (k+1)),(s2_0,s2_1),(IntKind.i64.wrap (k2+1)),()) ((s.set k.toNat (s.getD (s2_0+k2.toNat) default)),())) .d) .d) .d) (.h ((),(),k,(s2_0,s2_1),(IntKind.i64.wrap (k2+1)),()) (s,()))) .d) .d) (.k (k,s))
def zjz (x:zdd) (y:zbw):Wy zdd zbw zeo:=zuC x.2.2.1 x.2.2.2.1.1 x.2.2.2.1.2 x.2.2.2.2.1 y.1
def zub (n:Nat) (k:Int) (s2_0:Nat) (s2_1:Nat) (k2:Int) (s:yB):Bool×zeo:=zI (zjz) default n ((),(),k,(s2_0,s2_1),k2,()) (s,())
def ztX (r:zeo):LTree ty:=.done (.exit 2) [.own 264,.lit (.int .i64 r.1)] [.arr 43 r.2 false]
def zuw:LL ty zdd:=za (lOwn 264) (za (lFn 208 (zp)) (za lI64 (za (lSub 264) (za lI64 zp))))
def zur:BL ty zbw:=bArr 43 false (bNil)
def zuc (k:Int) (s:yB):Wy zel zbw zeq:=.i (decide (k<Int.ofNat s.length)) (.i (decide (0≤k)&&decide (k<Int.ofNat s.length)) (.i (decide (0≤IntKind.i64.wrap (k - 1))&&decide (IntKind.i64.wrap (k - 1)<Int.ofNat s.length)) (.bn (zxg (s.getD k.toNat default) (s.getD (IntKind.i64.wrap (k - 1)).toNat default)) fun r3=>.i (r3) (.i (decide (0≤k)&&decide (k≤Int.ofNat s.length)&&decide (Int.ofNat s.length≤Int.ofNat s.length)) (.bn (zub (k.toNat +k.toNat +((Int.ofNat s.length).toNat - k.toNat)+Int.toNat 1+s.length+1) k k.toNat ((Int.ofNat s.length).toNat - k.toNat) 1 s) fun r2=>.i (decide (0≤r2.1)&&decide (r2.1≤Int.ofNat r2.2.length)&&decide (Int.ofNat r2.2.length≤Int.ofNat r2.2.length)) (.i (decide (r2.1.toNat +((Int.ofNat r2.2.length).toNat - r2.1.toNat)≤r2.2.length)) (.i (decide ((0:Int)≤(0:Int))&&decide (0≤r2.1)&&decide (r2.1≤Int.ofNat (List.take r2.1.toNat r2.2++List.replicate ((Int.ofNat r2.2.length).toNat - r2.1.toNat) []++List.drop (r2.1.toNat +((Int.ofNat r2.2.length).toNat - r2.1.toNat)) r2.2).length)) (.k (.inl (r2.1.toNat - Int.toNat 0,List.take r2.1.toNat r2.2++List.replicate ((Int.ofNat r2.2.length).toNat - r2.1.toNat) []++List.drop (r2.1.toNat +((Int.ofNat r2.2.length).toNat - r2.1.toNat)) r2.2))) .d) .d) .d) .d) (.h ((),(),(IntKind.i64.wrap (k+1)),()) (s,()))) .d) .d) (.k (.inr s))
def zjR (x:zel) (y:zbw):Wy zel zbw zeq:=zuc x.2.2.1 y.1
def zus (n:Nat) (k:Int) (s:yB):Bool×zeq:=zI (zjR) (.inl default) n ((),(),k,()) (s,())
def ztH (r:zeq):LTree ty:=.ite (isL r) (.done .ret [.sub 264 0 ((getL r).1)] [.arr 43 ((getL r).2) false]) (.done (.exit 0) [.own 264] [.arr 43 (getR r) false])
def zuu:LL ty zel:=za (lOwn 264) (za (lFn 208 (zp)) (za lI64 zp))
def ztf (x:zdd) (y:zbw):Nat:=(Int.toNat x.2.2.1+x.2.2.2.1.1+x.2.2.2.1.2+Int.toNat x.2.2.2.2.1+y.1.length+1)
def ze3:Cx ty:=mkCx base 66 [(208,zvp)] [] [(4,(kpL [0,1,5])),(9,(kpL [0,1,5,6,7]))] [(4,1,(kpL [0])),(4,0,(kpL [4])),(9,3,(kpL [0,5]))] [(9,spW zuw zur (zjz) default ztX ztf),(4,spW zuu zur (zjR) (.inl default) ztH fun x y=>(Int.toNat x.2.2.1+y.1.length+1))] []
theorem zt4:zL ze3 (lp (body Tryz.f207) 1):=zw (id:=9) (hl:=rfl)
theorem ztl:zL ze3 (lp (body Tryz.f207) 0):=zw (id:=4) (hl:=rfl)
def zuN (s:yB):Wy0 (yB):=.i (decide (Int.ofNat s.length<2)) (.k s) (.bn (zus (Int.toNat 1+s.length+1) 1 s) fun r6=>.i (isL r6) (.k (List.take (getL r6).1 (getL r6).2)) (.k (getR r6)))
def zfO (s:yB):Bool×yB:=(zuN s).fin default
def ztL (r:yB):ARes ty:=⟨[.own 43 r],[none]⟩
def zuP:AL base (yB×Unit×Unit):=zd (aOwn 43) (zd (ze (vFn 208 vNil)) aNil)
def zi1:Ab.Spec ty:=zh zuP fun x=>((zfO x.1).1,ztL (zfO x.1).2)
theorem zr0:SdP 207 zi1:=
 sW (cx':=ze3) zq zi zl (zj ⟨zBB,trivial⟩) Tryz.call207 Tryz.func207 (c:=body Tryz.f207) (lOK (aC ztl (aC zt4 aN))) (sg:=⟨[.own 43],[false]⟩)
def zgR (x:yB):Bool×yB:=zz7 (fun a b=>zku a b) x
def slices_SortFunc_LLapi_RowID_Lapi_RowID_spec:Ab.Spec ty:=zh (cx:=base) (zd (aOwn 43) (zd (ze (vFn 206 (vNil))) aNil)) fun x=>((zgR x.1).1,⟨[],[some ⟨43,(zgR x.1).2⟩]⟩)
theorem zvL (c:Unit) (x y:(yF)) (h:(zku x y).1=true):zsq (((.sl 49 x:AV ty)::(.sl 49 y:AV ty)::(vNil:VL base (Unit)).enc c).map Arg.pure)=some (true,⟨[.pure (.lit (.int .i64 (zku x y).2))],[]⟩):=by
 rw [← h]; kernel_rfl
theorem zuk:SdP 205 slices_SortFunc_LLapi_RowID_Lapi_RowID_spec:=by
 letI:DecidableEq (ty 43):=inferInstanceAs (DecidableEq (yF))
 exact z8W (T:=43) zi rfl Go.Proofs.Tryz.sortSet (fun x:(yF)=>(.sl 49 x:AV ty)) (fun _=>rfl) Tryz.call205 zzF (vNil) (fun c=>fun a b=>zku a b) zvL
abbrev zqO:=Unit×yB×Int×Int×Unit
abbrev zmQ:=yB×Unit
abbrev zq1:=yB
def z0m (t6:yB) (t7:Int) (t8:Int) (out_:yB):Wy zqO zmQ zq1:=.i (decide (t8<t7)) (.i (decide (0≤t8)&&decide (t8<Int.ofNat t6.length)) (.bn (zq2 (t6.getD t8.toNat default)) fun r0=>.i (decide ((out_.length+[r0].length)*24≤reach)) (.h ((),t6,t7,(IntKind.i64.wrap (t8+1)),()) ((out_++[r0]),())) .d) .d) (.k out_)
def zLj (x:zqO) (y:zmQ):Wy zqO zmQ zq1:=z0m x.2.1 x.2.2.1 x.2.2.2.1 y.1
def z0w (n:Nat) (t6:yB) (t7:Int) (t8:Int) (out_:yB):Bool×yB:=zI (zLj) default n ((),t6,t7,t8,()) (out_,())
def zXH (r:zq1):LTree ty:=.done (.exit 0) [.own 88] [.arr 43 r false]
def zZR:LL ty zqO:=za (lOwn 88) (za (lSl 43) (za lI64 (za lI64 zp)))
def z0n:BL ty zmQ:=bArr 43 false (bNil)
def zX4 (x:zqO) (y:zmQ):Nat:=(x.2.1.length+Int.toNat x.2.2.1+Int.toNat x.2.2.2.1+y.1.length+1)
def zLm:Cx ty:=mkCx base 22 [(204,znX),(205,slices_SortFunc_LLapi_RowID_Lapi_RowID_spec),(206,zsq),(207,zi1),(208,zvp)] [(205,[true,false]),(207,[true,false])] [(3,[(3,.own 43),(6,.keep),(7,.keep),(8,.keep)])] [(3,1,(kpL [3]))] [(3,spW zZR z0n (zLj) default zXH zX4)] []
theorem zYu:zL zLm (lp (body Tryz.f170) 0):=zw (id:=3) (hl:=rfl)
def z17 (l:yB):Wy0 zq1:=.bn (z0w (l.length+(Int.ofNat l.length).toNat +Int.toNat 0+0+1) l (Int.ofNat l.length) 0 []) fun r4=>.bn (zgR r4) fun r3=>.bn (zfO r3) fun r2=>.k r2
def zCe (l:yB):Bool×yB:=(z17 l).fin default
def zX0 (r:zq1):ARes ty:=⟨[.own 43 r],[]⟩
def z2O:AL base zmQ:=zd (ze (vSl 43)) aNil
def zzE:Ab.Spec ty:=zh z2O fun x=>((zCe x.1).1,zX0 (zCe x.1).2)
theorem zE8:SdP 170 zzE:=
 sW (cx':=zLm) zq zi zl (zj ⟨zuq,zuk,zzF,zr0,zBB,trivial⟩) Tryz.call170 Tryz.func170 (c:=body Tryz.f170) (lOK (aC zYu aN)) (sg:=⟨[.own 43],[]⟩)
abbrev zeB:=yF×Unit×Int×Int×Unit
def zzM (s:yF) (t7:Int) (t8:Int) (v:RowID):Wy zeB (RowID×Unit) (Int⊕Unit):=.i (decide (t8<t7)) (.i (decide (0≤t8)&&decide (t8<Int.ofNat s.length)) (.i (v.Table==(s.getD t8.toNat default).Table&&(v.Seq==(s.getD t8.toNat default).Seq&&true)) (.k (.inl t8)) (.h (s,(),t7,(IntKind.i64.wrap (t8+1)),()) (v,()))) .d) (.k (.inr ()))
def znH (x:zeB) (y:RowID×Unit):Wy zeB (RowID×Unit) (Int⊕Unit):=zzM x.1 x.2.2.1 x.2.2.2.1 y.1
def zzW (n:Nat) (s:yF) (t7:Int) (t8:Int) (v:RowID):Bool×(Int⊕Unit):=zI (znH) (.inl default) n (s,(),t7,t8,()) (v,())
def zzO:LL ty zeB:=za (lSl 49) (za (zfl 76 0) (za lI64 (za lI64 zp)))
def zzN:BL ty (RowID×Unit):=bBox (zg1 (fun x=>(⟨x.1,x.2.1⟩:RowID)) (fun x=>(x.Table,x.Seq,())) (fun _=>rfl) (za (lInt .i64) (za (lInt .i64) zp))) false (bNil)
def zzo (x:zeB) (y:RowID×Unit):Nat:=(x.1.length+Int.toNat x.2.2.1+Int.toNat x.2.2.2.1+1)
def znk:Cx ty:=mkCx base 19 [] [] [(2,(kpL [0,3,7,8]))] [(2,1,[]),(2,0,(kpL [4]))] [(2,spW zzO zzN (znH) (.inl default) zsS zzo)] []
theorem zzq:zL znk (lp (body Tryz.f261) 0):=zw (id:=2) (hl:=rfl)
def zAA (s:yF) (v:RowID):Wy0 (Int):=.bn (zzW (s.length+(Int.ofNat s.length).toNat +Int.toNat 0+1) s (Int.ofNat s.length) 0 v) fun r0=>.i (isL r0) (.k (getL r0)) (.k (-1:Int))
def zjD (s:yF) (v:RowID):Bool×Int:=(zAA s v).fin default
def zAz:AL base (yF×RowID×Unit):=zd (ze (vSl 49)) (zd (ze (vAgg 49)) aNil)
def zms:Ab.Spec ty:=zh zAz fun x=>((zjD x.1 x.2.1).1,zO3 (zjD x.1 x.2.1).2)
theorem zxW:SdP 261 zms:=
 sW (cx':=znk) zq zi zl (zj trivial) Tryz.call261 Tryz.func261 (c:=body Tryz.f261) (lOK (aC zzq aN))
def zxD:Cx ty:=mkCx base 9 [(261,zms)] [] [] [] [] []
def zyx (s:yF) (v:RowID):Wy0 (Bool):=.bn (zjD s v) fun r0=>.k (decide (r0≥0))
def zhU (s:yF) (v:RowID):Bool×Bool:=(zyx s v).fin default
def zk0:Ab.Spec ty:=zh zAz fun x=>((zhU x.1 x.2.1).1,zTP (zhU x.1 x.2.1).2)
theorem zvv:SdP 239 zk0:=
 sW (cx':=zxD) zq zi zl (zj ⟨zxW,trivial⟩) Tryz.call239 Tryz.func239 (c:=body Tryz.f239) (lOK aN)
def zWq:Cx ty:=mkCx base 7 [(239,zk0)] [] [] [] [] []
def zYq (id:RowID) (p1:yF):Wy0 (Bool):=.bn (zhU p1 id) fun r0=>.k r0
def zy5 (id:RowID) (p1:yF):Bool×Bool:=(zYq id p1).fin default
def zYH:AL base (RowID×(yF×Unit)×Unit):=zd (ze (vAgg 49)) (zd (ze (vBox (zdz (vSl 49) vNil))) aNil)
def zpB:Ab.Spec ty:=zh zYH fun x=>((zy5 x.1 x.2.1.1).1,zTP (zy5 x.1 x.2.1.1).2)
theorem zvS:SdP 238 zpB:=
 sW (cx':=zWq) zq zi zl (zj ⟨zvv,trivial⟩) Tryz.call238 Tryz.func238 (c:=body Tryz.f238) (lOK aN)
abbrev zdT:=yF×((yF×Unit)×Unit)×Int×Int×Unit
def zwL (s:yF) (f:yF) (t7:Int) (t8:Int):Wy zdT (Unit) (Int⊕Unit):=.i (decide (t8<t7)) (.i (decide (0≤t8)&&decide (t8<Int.ofNat s.length)) (.bn (zy5 (s.getD t8.toNat default) f) fun r0=>.i (r0) (.k (.inl t8)) (.h (s,((f,()),()),t7,(IntKind.i64.wrap (t8+1)),()) ())) .d) (.k (.inr ()))
def zlF (x:zdT) (y:Unit):Wy zdT (Unit) (Int⊕Unit):=zwL x.1 x.2.1.1.1 x.2.2.1 x.2.2.2.1
def zxr (n:Nat) (s:yF) (f:yF) (t7:Int) (t8:Int):Bool×(Int⊕Unit):=zI (zlF) (.inl default) n (s,((f,()),()),t7,t8,()) ()
def zw9:LL ty zdT:=za (lSl 49) (za (lFn 238 (za (zny (za (lSl 49) zp) 0) zp)) (za lI64 (za lI64 zp)))
def zwi (x:zdT) (y:Unit):Nat:=(x.1.length+x.2.1.1.1.length+Int.toNat x.2.2.1+Int.toNat x.2.2.2.1+1)
def zlv:Cx ty:=mkCx base 19 [(238,zpB)] [] [(2,(kpL [0,1,7,8]))] [(2,1,[]),(2,0,(kpL [4]))] [(2,spW zw9 z5G (zlF) (.inl default) zsS zwi)] []
theorem zwo:zL zlv (lp (body Tryz.f260) 0):=zw (id:=2) (hl:=rfl)
def zxQ (s:yF) (f:yF):Wy0 (Int):=.bn (zxr (s.length+f.length+(Int.ofNat s.length).toNat +Int.toNat 0+1) s f (Int.ofNat s.length) 0) fun r2=>.i (isL r2) (.k (getL r2)) (.k (-1:Int))
def zhf (s:yF) (f:yF):Bool×Int:=(zxQ s f).fin default
def zxM:AL base (yF×((yF×Unit)×Unit)×Unit):=zd (ze (vSl 49)) (zd (ze (vFn 238 (zdz (vBox (zdz (vSl 49) vNil)) vNil))) aNil)
def zkv:Ab.Spec ty:=zh zxM fun x=>((zhf x.1 x.2.1.1.1).1,zO3 (zhf x.1 x.2.1.1.1).2)
theorem zuS:SdP 260 zkv:=
 sW (cx':=zlv) zq zi zl (zj ⟨zvS,trivial⟩) Tryz.call260 Tryz.func260 (c:=body Tryz.f260) (lOK (aC zwo aN))
abbrev zdI:=Unit×((yF×Unit)×Unit)×Int×Int×Unit
abbrev zdK:=yF×Unit
abbrev zeK:=Int×yF
def zwf (del:yF) (i:Int) (j:Int) (s:yF):Wy zdI zdK zeK:=.i (decide (j<Int.ofNat s.length)) (.i (decide (0≤j)&&decide (j<Int.ofNat s.length)) (.bn (zy5 (s.getD j.toNat default) del) fun r0=>.i (!r0) (.i (decide (0≤i)&&decide (i<Int.ofNat s.length)) (.i (decide (i.toNat<s.length)) (.h ((),((del,()),()),(IntKind.i64.wrap (i+1)),(IntKind.i64.wrap (j+1)),()) ((s.set i.toNat (s.getD j.toNat default)),())) .d) .d) (.h ((),((del,()),()),i,(IntKind.i64.wrap (j+1)),()) (s,()))) .d) (.k (i,s))
def zkX (x:zdI) (y:zdK):Wy zdI zdK zeK:=zwf x.2.1.1.1 x.2.2.1 x.2.2.2.1 y.1
def zwc (n:Nat) (del:yF) (i:Int) (j:Int) (s:yF):Bool×zeK:=zI (zkX) default n ((),((del,()),()),i,j,()) (s,())
def zu9 (r:zeK):LTree ty:=.done (.exit 0) [.own 168,.lit (.int .i64 r.1)] [.arr 49 r.2 false]
def zwr:LL ty zdI:=za (lOwn 168) (za (lFn 238 (za (zny (za (lSl 49) zp) 0) zp)) (za lI64 (za lI64 zp)))
def zv8:BL ty zdK:=bArr 49 false (bNil)
def zvU (x:zdI) (y:zdK):Nat:=(x.2.1.1.1.length+Int.toNat x.2.2.1+Int.toNat x.2.2.2.1+y.1.length+1)
def zkY:Cx ty:=mkCx base 42 [(238,zpB),(260,zkv)] [] [(5,(kpL [0,1,5,6]))] [(5,1,(kpL [0,5]))] [(5,spW zwr zv8 (zkX) default zu9 zvU)] []
theorem zvO:zL zkY (lp (body Tryz.f237) 0):=zw (id:=5) (hl:=rfl)
def zwX (s:yF) (del:yF):Wy0 (yF):=.bn (zhf s del) fun r3=>.i (r3==(-1:Int)) (.k s) (.bn (zwc (del.length+r3.toNat +(IntKind.i64.wrap (r3+1)).toNat +s.length+1) del r3 (IntKind.i64.wrap (r3+1)) s) fun r2=>.i (decide (0≤r2.1)&&decide (r2.1≤Int.ofNat r2.2.length)&&decide (Int.ofNat r2.2.length≤Int.ofNat r2.2.length)) (.i (decide (r2.1.toNat +((Int.ofNat r2.2.length).toNat - r2.1.toNat)≤r2.2.length)) (.i (decide ((0:Int)≤(0:Int))&&decide (0≤r2.1)&&decide (r2.1≤Int.ofNat (List.take r2.1.toNat r2.2++List.replicate ((Int.ofNat r2.2.length).toNat - r2.1.toNat) (RowID.mk 0 0)++List.drop (r2.1.toNat +((Int.ofNat r2.2.length).toNat - r2.1.toNat)) r2.2).length)) (.k (List.take (r2.1.toNat - Int.toNat 0) (List.take r2.1.toNat r2.2++List.replicate ((Int.ofNat r2.2.length).toNat - r2.1.toNat) (RowID.mk 0 0)++List.drop (r2.1.toNat +((Int.ofNat r2.2.length).toNat - r2.1.toNat)) r2.2))) .d) .d) .d)
def zgQ (s:yF) (del:yF):Bool×yF:=(zwX s del).fin default
def zxh:AL base (yF×((yF×Unit)×Unit)×Unit):=zd (aOwn 49) (zd (ze (vFn 238 (zdz (vBox (zdz (vSl 49) vNil)) vNil))) aNil)
def zjZ:Ab.Spec ty:=zh zxh fun x=>((zgQ x.1 x.2.1.1.1).1,zxJ (zgQ x.1 x.2.1.1.1).2)
theorem zt9:SdP 237 zjZ:=
 sW (cx':=zkY) zq zi zl (zj ⟨zvS,zuS,trivial⟩) Tryz.call237 Tryz.func237 (c:=body Tryz.f237) (lOK (aC zvO aN)) (sg:=⟨[.own 49],[false]⟩)
def z2t:Cx ty:=mkCx base 11 [(204,znX),(237,zjZ),(238,zpB)] [(237,[true,false])] [] [] [] []
def z3x (a:yF) (b:yF):Wy0 (yF):=.bn (zq2 a) fun r1=>.bn (zgQ r1 b) fun r0=>.k r0
def zLY (a:yF) (b:yF):Bool×yF:=(z3x a b).fin default
def zIU:Ab.Spec ty:=zh zAG fun x=>((zLY x.1 x.2.1).1,zQ2 (zLY x.1 x.2.1).2)
theorem zVf:SdP 210 zIU:=
 sW (cx':=z2t) zq zi zl (zj ⟨zuq,zt9,zvS,trivial⟩) Tryz.call210 Tryz.func210 (c:=body Tryz.f210) (lOK aN) (sg:=⟨[.own 49],[]⟩)
def z0K:Cx ty:=mkCx base 10 [(210,zIU)] [] [] [] [] []
def z1e (a:yF) (b:yF):Wy0 (Bool):=.bn (zLY a b) fun r0=>.k (Int.ofNat r0.length==0)
def zIG (a:yF) (b:yF):Bool×Bool:=(z1e a b).fin default
def zG1:Ab.Spec ty:=zh zAG fun x=>((zIG x.1 x.2.1).1,zTP (zIG x.1 x.2.1).2)
theorem zTz:SdP 172 zG1:=
 sW (cx':=z0K) zq zi zl (zj ⟨zVf,trivial⟩) Tryz.call172 Tryz.func172 (c:=body Tryz.f172) (lOK aN)
def zSv:Cx ty:=mkCx base 17 [(172,zG1)] [] [] [] [] []
def zTr (k:Int) (p1:Int) (p2:yB) (p3:yF):Wy0 (Bool):=.i (k != p1) (.i (decide (0≤k)&&decide (k<Int.ofNat p2.length)) (.bn (zIG (p2.getD k.toNat default) p3) fun r0=>.k r0) .d) (.k false)
def zBy (k:Int) (p1:Int) (p2:yB) (p3:yF):Bool×Bool:=(zTr k p1 p2 p3).fin default
def zTv:AL base (Int×(Int×Unit)×(yB×Unit)×(yF×Unit)×Unit):=zd (ze vI64) (zd (ze (vBox (zdz vI64 vNil))) (zd (ze (vBox (zdz (vSl 43) vNil))) (zd (ze (vBox (zdz (vSl 49) vNil))) aNil)))
def zmV:Ab.Spec ty:=zh zTv fun x=>((zBy x.1 x.2.1.1 x.2.2.1.1 x.2.2.2.1.1).1,zTP (zBy x.1 x.2.1.1 x.2.2.1.1 x.2.2.2.1.1).2)
theorem zsz:SdP 171 zmV:=
 sW (cx':=zSv) zq zi zl (zj ⟨zTz,trivial⟩) Tryz.call171 Tryz.func171 (c:=body Tryz.f171) (lOK aN)
abbrev zo7:=Unit×Int×Int×Unit
abbrev zo0:=List Int×Unit
def zYm (t8:Int) (t9:Int) (out_:List Int):Wy zo7 zo0 (List Int):=.i (decide (t9<t8)) (.i (decide (0≤t9)&&decide (t9<Int.ofNat out_.length)) (.i (decide (t9.toNat<out_.length)) (.h ((),t8,(IntKind.i64.wrap (t9+1)),()) ((out_.set t9.toNat t9),())) .d) .d) (.k out_)
def zI1 (x:zo7) (y:zo0):Wy zo7 zo0 (List Int):=zYm x.2.1 x.2.2.1 y.1
def zX8 (n:Nat) (t8:Int) (t9:Int) (out_:List Int):Bool×List Int:=zI (zI1) default n ((),t8,t9,()) (out_,())
def zWb (r:List Int):LTree ty:=.done (.exit 0) [.own 72] [.arr 3 r false]
def zYs:LL ty zo7:=za (lOwn 72) (za lI64 (za lI64 zp))
def zYf:BL ty zo0:=bArr 3 false (bNil)
def zUS (x:zo7) (y:zo0):Nat:=(Int.toNat x.2.1+Int.toNat x.2.2.1+y.1.length+1)
def zIV:Cx ty:=mkCx base 18 [] [] [(3,(kpL [3,8,9]))] [(3,1,(kpL [3]))] [(3,spW zYs zYf (zI1) default zWb zUS)] []
theorem zUG:zL zIV (lp (body Tryz.f174) 0):=zw (id:=3) (hl:=rfl)
def zZI (n_:Int):Wy0 (List Int):=.i (decide (0≤n_)&&decide (n_≤n_)&&decide (n_*Int.ofNat 8≤Int.ofNat reach)&&decide (n_≤Int.ofNat reach)) (.bn (zX8 ((Int.ofNat (List.replicate n_.toNat (0:Int)).length).toNat +Int.toNat 0+(List.replicate n_.toNat (0:Int)).length+1) (Int.ofNat (List.replicate n_.toNat (0:Int)).length) 0 (List.replicate n_.toNat (0:Int))) fun r0=>.k r0) .d
def zFx (n_:Int):Bool×List Int:=(zZI n_).fin default
def zV0 (r:List Int):ARes ty:=⟨[.own 3 r],[]⟩
def zFc:Ab.Spec ty:=zh zX7 fun x=>((zFx x.1).1,zV0 (zFx x.1).2)
theorem zRk:SdP 174 zFc:=
 sW (cx':=zIV) zq zi zl (zj trivial) Tryz.call174 Tryz.func174 (c:=body Tryz.f174) (lOK (aC zUG aN)) (sg:=⟨[.own 3],[]⟩)
abbrev zgp:=List Int×((Int×Unit)×(yB×Unit)×(yF×Unit)×Unit)×Int×Int×Unit
def zFp (s:List Int) (f_0:Int) (f_1:yB) (f_2:yF) (t7:Int) (t8:Int):Wy zgp (Unit) (Int⊕Unit):=.i (decide (t8<t7)) (.i (decide (0≤t8)&&decide (t8<Int.ofNat s.length)) (.bn (zBy (s.getD t8.toNat default) f_0 f_1 f_2) fun r0=>.i (r0) (.k (.inl t8)) (.h (s,((f_0,()),(f_1,()),(f_2,()),()),t7,(IntKind.i64.wrap (t8+1)),()) ())) .d) (.k (.inr ()))
def zvQ (x:zgp) (y:Unit):Wy zgp (Unit) (Int⊕Unit):=zFp x.1 x.2.1.1.1 x.2.1.2.1.1 x.2.1.2.2.1.1 x.2.2.1 x.2.2.2.1
def zFj (n:Nat) (s:List Int) (f_0:Int) (f_1:yB) (f_2:yF) (t7:Int) (t8:Int):Bool×(Int⊕Unit):=zI (zvQ) (.inl default) n (s,((f_0,()),(f_1,()),(f_2,()),()),t7,t8,()) ()
def zFB:LL ty zgp:=za (lSl 3) (za (lFn 171 (za (zny (za lI64 zp) 0) (za (zny (za (lSl 43) zp) 0) (za (zny (za (lSl 49) zp) 0) zp)))) (za lI64 (za lI64 zp)))
def zEE (x:zgp) (y:Unit):Nat:=(x.1.length+Int.toNat x.2.1.1.1+x.2.1.2.1.1.length+x.2.1.2.2.1.1.length+Int.toNat x.2.2.1+Int.toNat x.2.2.2.1+1)
def zv2:Cx ty:=mkCx base 19 [(171,zmV)] [] [(2,(kpL [0,1,7,8]))] [(2,1,[]),(2,0,(kpL [4]))] [(2,spW zFB z5G (zvQ) (.inl default) zsS zEE)] []
theorem zES:zL zv2 (lp (body Tryz.f211) 0):=zw (id:=2) (hl:=rfl)
def zGW (s:List Int) (f_0:Int) (f_1:yB) (f_2:yF):Wy0 (Int):=.bn (zFj (s.length+f_0.toNat +f_1.length+f_2.length+(Int.ofNat s.length).toNat +Int.toNat 0+1) s f_0 f_1 f_2 (Int.ofNat s.length) 0) fun r2=>.i (isL r2) (.k (getL r2)) (.k (-1:Int))
def zpP (s:List Int) (f_0:Int) (f_1:yB) (f_2:yF):Bool×Int:=(zGW s f_0 f_1 f_2).fin default
def zGx:AL base (List Int×((Int×Unit)×(yB×Unit)×(yF×Unit)×Unit)×Unit):=zd (ze (vSl 3)) (zd (ze (vFn 171 (zdz (vBox (zdz vI64 vNil)) (zdz (vBox (zdz (vSl 43) vNil)) (zdz (vBox (zdz (vSl 49) vNil)) vNil))))) aNil)
def ztP:Ab.Spec ty:=zh zGx fun x=>((zpP x.1 x.2.1.1.1 x.2.1.2.1.1 x.2.1.2.2.1.1).1,zO3 (zpP x.1 x.2.1.1.1 x.2.1.2.1.1 x.2.1.2.2.1.1).2)
theorem zDk:SdP 211 ztP:=
 sW (cx':=zv2) zq zi zl (zj ⟨zsz,trivial⟩) Tryz.call211 Tryz.func211 (c:=body Tryz.f211) (lOK (aC zES aN))
def zDi:Cx ty:=mkCx base 9 [(171,zmV),(211,ztP)] [] [] [] [] []
def zEv (s:List Int) (f_0:Int) (f_1:yB) (f_2:yF):Wy0 (Bool):=.bn (zpP s f_0 f_1 f_2) fun r0=>.k (decide (r0≥0))
def zmH (s:List Int) (f_0:Int) (f_1:yB) (f_2:yF):Bool×Bool:=(zEv s f_0 f_1 f_2).fin default
def zpW:Ab.Spec ty:=zh zGx fun x=>((zmH x.1 x.2.1.1.1 x.2.1.2.1.1 x.2.1.2.2.1.1).1,zTP (zmH x.1 x.2.1.1.1 x.2.1.2.1.1 x.2.1.2.2.1.1).2)
theorem zBz:SdP 173 zpW:=
 sW (cx':=zDi) zq zi zl (zj ⟨zsz,zDk,trivial⟩) Tryz.call173 Tryz.func173 (c:=body Tryz.f173) (lOK aN)
abbrev zoV:=Unit×Unit×Unit×Int×Int×Unit
abbrev zo8:=(Unit×Unit)×yB×yB×Unit
abbrev zoT:=yB
def zYi (t11:Int) (t12:Int) (out_:yB) (t10:yB):Wy zoV zo8 zoT:=.i (decide (t12<t11)) (.i (decide (0≤t12)&&decide (t12<Int.ofNat t10.length)) (.bn (zFx (Int.ofNat t10.length)) fun r1=>.bn (zmH r1 t12 t10 (t10.getD t12.toNat default)) fun r0=>.i (!r0) (.i (decide ((out_.length+[t10.getD t12.toNat default].length)*24≤reach)) (.h ((),(),(),t11,(IntKind.i64.wrap (t12+1)),()) (((),()),(out_++[t10.getD t12.toNat default]),t10,())) .d) (.h ((),(),(),t11,(IntKind.i64.wrap (t12+1)),()) (((),()),out_,t10,()))) .d) (.k out_)
def zI4 (x:zoV) (y:zo8):Wy zoV zo8 zoT:=zYi x.2.2.2.1 x.2.2.2.2.1 y.2.1 y.2.2.1
def zX9 (n:Nat) (t11:Int) (t12:Int) (out_:yB) (t10:yB):Bool×yB:=zI (zI4) default n ((),(),(),t11,t12,()) (((),()),out_,t10,())
def zWP (r:zoT):LTree ty:=.done (.exit 0) [.own 120] [.arr 43 r false]
def zYM:LL ty zoV:=za (zfl 120 0) (za (lOwn 121) (za (lOwn 122) (za lI64 (za lI64 zp))))
def zYc:BL ty zo8:=bBox (za (lOwn 122) zp) false (bArr 43 false (bArr 43 false (bNil)))
def zVG (x:zoV) (y:zo8):Nat:=(Int.toNat x.2.2.2.1+Int.toNat x.2.2.2.2.1+y.2.1.length+y.2.2.1.length+1)
def zIY:Cx ty:=mkCx base 30 [(170,zzE),(171,zmV),(173,zpW),(174,zFc)] [] [(4,[(3,.keep),(4,.own 43),(10,.keep),(11,.keep),(12,.keep)])] [(4,1,(kpL [4]))] [(4,spW zYM zYc (zI4) default zWP zVG)] []
theorem zVg:zL zIY (lp (body Tryz.f143) 0):=zw (id:=4) (hl:=rfl)
def z0M (l:yB):Wy0 zoT:=.bn (zCe l) fun r5=>.bn (zX9 ((Int.ofNat r5.length).toNat +Int.toNat 0+0+r5.length+1) (Int.ofNat r5.length) 0 [] r5) fun r4=>.k r4
def zvn (l:yB):Bool×yB:=(z0M l).fin default
def zVn (r:zoT):ARes ty:=⟨[.own 43 r],[]⟩
def zZ7:AL base (yB×Unit):=zd (ze (vSl 43)) aNil
def zFf:Ab.Spec ty:=zh zZ7 fun x=>((zvn x.1).1,zVn (zvn x.1).2)
theorem zRh:SdP 143 zFf:=
 sW (cx':=zIY) zq zi zl (zj ⟨zE8,zsz,zBz,zRk,trivial⟩) Tryz.call143 Tryz.func143 (c:=body Tryz.f143) (lOK (aC zVg aN)) (sg:=⟨[.own 43],[]⟩)
def z13:Cx ty:=mkCx base 10 [(204,znX),(212,zgU)] [] [] [] [] []
def z3G (a:yF) (b:yF):Wy0 (yF):=.bn (zfJ a) fun r1=>.i (decide ((r1.length+b.length)*16≤reach)) (.bn (zq2 (r1++b)) fun r0=>.k r0) .d
def zKY (a:yF) (b:yF):Bool×yF:=(z3G a b).fin default
def zIS:Ab.Spec ty:=zh zAG fun x=>((zKY x.1 x.2.1).1,zQ2 (zKY x.1 x.2.1).2)
theorem zW0:SdP 175 zIS:=
 sW (cx':=z13) zq zi zl (zj ⟨zuq,zlX,trivial⟩) Tryz.call175 Tryz.func175 (c:=body Tryz.f175) (lOK aN) (sg:=⟨[.own 49],[]⟩)
abbrev zo9:=yB×Unit×yF×yB×Int×Int×yB×Int×Int×Unit
abbrev zeH:=yB×Unit
abbrev zuV:=yB×yB×Int×Int×yB
abbrev zo6:=yB×Unit×yB×Int×Int×Unit
abbrev zoH:=yB
def zYL (b:yB) (x_:yF) (t10:yB) (t11:Int) (t12:Int) (t16:yB) (t17:Int) (t18:Int) (out_:yB):Wy zo9 zeH zuV:=.i (decide (t18<t17)) (.i (decide (0≤t18)&&decide (t18<Int.ofNat t16.length)) (.bn (zKY x_ (t16.getD t18.toNat default)) fun r2=>.i (decide ((out_.length+[r2].length)*24≤reach)) (.h (b,(),x_,t10,t11,t12,t16,t17,(IntKind.i64.wrap (t18+1)),()) ((out_++[r2]),())) .d) .d) (.k (b,t10,t11,t12,out_))
def zI0 (x:zo9) (y:zeH):Wy zo9 zeH zuV:=zYL x.1 x.2.2.1 x.2.2.2.1 x.2.2.2.2.1 x.2.2.2.2.2.1 x.2.2.2.2.2.2.1 x.2.2.2.2.2.2.2.1 x.2.2.2.2.2.2.2.2.1 y.1
def zXC (n:Nat) (b:yB) (x_:yF) (t10:yB) (t11:Int) (t12:Int) (t16:yB) (t17:Int) (t18:Int) (out_:yB):Bool×zuV:=zI (zI0) default n (b,(),x_,t10,t11,t12,t16,t17,t18,()) (out_,())
def zWk (r:zuV):LTree ty:=.done (.exit 2) [.sl 43 r.1,.own 128,.sl 43 r.2.1,.lit (.int .i64 r.2.2.1),.lit (.int .i64 r.2.2.2.1)] [.arr 43 r.2.2.2.2 false]
def zYr:LL ty zo9:=za (lSl 43) (za (lOwn 128) (za (lSl 49) (za (lSl 43) (za lI64 (za lI64 (za (lSl 43) (za lI64 (za lI64 zp))))))))
def zYO:BL ty zeH:=bArr 43 false (bNil)
def zYx (b:yB) (t10:yB) (t11:Int) (t12:Int) (out_:yB):Wy zo6 zeH zoH:=.i (decide (t12<t11)) (.i (decide (0≤t12)&&decide (t12<Int.ofNat t10.length)) (.bn (zXC (b.length+List.length (t10.getD t12.toNat default)+t10.length+t11.toNat +t12.toNat +b.length+(Int.ofNat b.length).toNat +Int.toNat 0+out_.length+1) b (t10.getD t12.toNat default) t10 t11 t12 b (Int.ofNat b.length) 0 out_) fun r4=>.h ((r4.1),(),(r4.2.1),(r4.2.2.1),(IntKind.i64.wrap (r4.2.2.2.1+1)),()) ((r4.2.2.2.2),())) .d) (.k out_)
def zI7 (x:zo6) (y:zeH):Wy zo6 zeH zoH:=zYx x.1 x.2.2.1 x.2.2.2.1 x.2.2.2.2.1 y.1
def zYG (n:Nat) (b:yB) (t10:yB) (t11:Int) (t12:Int) (out_:yB):Bool×yB:=zI (zI7) default n (b,(),t10,t11,t12,()) (out_,())
def zUO (r:zoH):LTree ty:=.done (.exit 0) [.own 128] [.arr 43 r false]
def zXR:LL ty zo6:=za (lSl 43) (za (lOwn 128) (za (lSl 43) (za lI64 (za lI64 zp))))
def zWw (x:zo9) (y:zeH):Nat:=(x.1.length+x.2.2.1.length+x.2.2.2.1.length+Int.toNat x.2.2.2.2.1+Int.toNat x.2.2.2.2.2.1+x.2.2.2.2.2.2.1.length+Int.toNat x.2.2.2.2.2.2.2.1+Int.toNat x.2.2.2.2.2.2.2.2.1+y.1.length+1)
def zWN (x:zo6) (y:zeH):Nat:=(x.1.length+x.2.2.1.length+Int.toNat x.2.2.2.1+Int.toNat x.2.2.2.2.1+y.1.length+1)
def zBu:Cx ty:=mkCx base 32 [(170,zzE),(175,zIS)] [] [(3,[(1,.keep),(5,.own 43),(10,.keep),(11,.keep),(12,.keep)]),(6,[(1,.keep),(5,.own 43),(7,.keep),(10,.keep),(11,.keep),(12,.keep),(16,.keep),(17,.keep),(18,.keep)])] [(3,1,(kpL [5])),(6,3,(kpL [1,5,10,11,12]))] [(6,spW zYr zYO (zI0) default zWk zWw),(3,spW zXR zYO (zI7) default zUO zWN)] []
theorem zUT:zL zBu (lp (body Tryz.f144) 1):=zw (id:=6) (hl:=rfl)
theorem zU1:zL zBu (lp (body Tryz.f144) 0):=zw (id:=3) (hl:=rfl)
def zZX (a:yB) (b:yB):Wy0 zoH:=.bn (zYG (b.length+a.length+(Int.ofNat a.length).toNat +Int.toNat 0+0+1) b a (Int.ofNat a.length) 0 []) fun r7=>.bn (zCe r7) fun r6=>.k r6
def zAN (a:yB) (b:yB):Bool×yB:=(zZX a b).fin default
def zVj (r:zoH):ARes ty:=⟨[.own 43 r],[]⟩
def zZK:AL base (yB×yB×Unit):=zd (ze (vSl 43)) (zd (ze (vSl 43)) aNil)
def zE0:Ab.Spec ty:=zh zZK fun x=>((zAN x.1 x.2.1).1,zVj (zAN x.1 x.2.1).2)
theorem zSo:SdP 144 zE0:=
 sW (cx':=zBu) zq zi zl (zj ⟨zE8,zW0,trivial⟩) Tryz.call144 Tryz.func144 (c:=body Tryz.f144) (lOK (aC zU1 (aC zUT aN))) (sg:=⟨[.own 43],[]⟩)
abbrev zi0:=Unit×Unit×yC×Int×Int×yD×Int×Int×Unit
abbrev zi3:=yB×yB×Unit
abbrev zl7:=yC×Int×Int×yB×yB
abbrev ziM:=Unit×yC×Int×Int×Unit
abbrev ziN:=yB×Unit
abbrev zma:=yB
def zJY (zO:yC→Bool×yB) (t10:yC) (t11:Int) (t12:Int) (t19:yD) (t20:Int) (t21:Int) (all:yB) (sets:yB):Wy zi0 zi3 zl7:=.i (decide (t21<t20)) (.i (decide (0≤t21)&&decide (t21<Int.ofNat t19.length)) (.i ((t19.getD t21.toNat default).Atom.Kind==2) (.i (decide ((0:Int)≤(0:Int))&&decide (0<Int.ofNat (t19.getD t21.toNat default).Atom.Args.length)) (.bn (zO ((t19.getD t21.toNat default).Atom.Args.getD (Int.toNat 0) default)) fun r12=>.bn (zAN sets r12) fun r11=>.bn (zvn r11) fun r10=>.h ((),(),t10,t11,t12,t19,t20,(IntKind.i64.wrap (t21+1)),()) (all,(r10),())) .d) (.bn (zAN sets [[(t19.getD t21.toNat default).Atom.Row]]) fun r14=>.bn (zvn r14) fun r13=>.h ((),(),t10,t11,t12,t19,t20,(IntKind.i64.wrap (t21+1)),()) (all,(r13),()))) .d) (.k (t10,t11,t12,all,sets))
def zyR (zO:yC→Bool×yB) (x:zi0) (y:zi3):Wy zi0 zi3 zl7:=zJY zO x.2.2.1 x.2.2.2.1 x.2.2.2.2.1 x.2.2.2.2.2.1 x.2.2.2.2.2.2.1 x.2.2.2.2.2.2.2.1 y.1 y.2.1
def zJi (zO:yC→Bool×yB) (n:Nat) (t10:yC) (t11:Int) (t12:Int) (t19:yD) (t20:Int) (t21:Int) (all:yB) (sets:yB):Bool×zl7:=zI (zyR zO) default n ((),(),t10,t11,t12,t19,t20,t21,()) (all,sets,())
def zIg (r:zl7):LTree ty:=.done (.exit 2) [.own 204,.own 205,.sl 28 r.1,.lit (.int .i64 r.2.1),.lit (.int .i64 r.2.2.1)] [.arr 43 r.2.2.2.1 false,.arr 43 r.2.2.2.2 false]
def zJT:LL ty zi0:=za (lOwn 204) (za (lOwn 205) (za (lSl 28) (za lI64 (za lI64 (za (lSl 69) (za lI64 (za lI64 zp)))))))
def zJC:BL ty zi3:=bArr 43 false (bArr 43 false (bNil))
def zJK (zO:yC→Bool×yB) (t10:yC) (t11:Int) (t12:Int) (all:yB):Wy ziM ziN zma:=.i (decide (t12<t11)) (.i (decide (0≤t12)&&decide (t12<Int.ofNat t10.length)) (.bn (zJi zO (t10.length+t11.toNat +t12.toNat +(t10.getD t12.toNat default).Factors.length+(Int.ofNat (t10.getD t12.toNat default).Factors.length).toNat +Int.toNat 0+all.length+1+1000) t10 t11 t12 (t10.getD t12.toNat default).Factors (Int.ofNat (t10.getD t12.toNat default).Factors.length) 0 all [[]]) fun r20=>.i (decide ((r20.2.2.2.1.length+r20.2.2.2.2.length)*24≤reach)) (.h ((),(r20.1),(r20.2.1),(IntKind.i64.wrap (r20.2.2.1+1)),()) ((r20.2.2.2.1++r20.2.2.2.2),())) .d) .d) (.k all)
def zy6 (zO:yC→Bool×yB) (x:ziM) (y:ziN):Wy ziM ziN zma:=zJK zO x.2.1 x.2.2.1 x.2.2.2.1 y.1
def zJG (zO:yC→Bool×yB) (n:Nat) (t10:yC) (t11:Int) (t12:Int) (all:yB):Bool×yB:=zI (zy6 zO) default n ((),t10,t11,t12,()) (all,())
def zH3 (r:zma):LTree ty:=.done (.exit 0) [.own 204] [.arr 43 r false]
def zKb:LL ty ziM:=za (lOwn 204) (za (lSl 28) (za lI64 (za lI64 zp)))
def zJw:BL ty ziN:=bArr 43 false (bNil)
def zHV (x:zi0) (y:zi3):Nat:=(x.2.2.1.length+Int.toNat x.2.2.2.1+Int.toNat x.2.2.2.2.1+x.2.2.2.2.2.1.length+Int.toNat x.2.2.2.2.2.2.1+Int.toNat x.2.2.2.2.2.2.2.1+y.1.length+y.2.1.length+1000)
def zId (x:ziM) (y:ziN):Nat:=(x.2.1.length+Int.toNat x.2.2.1+Int.toNat x.2.2.2.1+y.1.length+1000)
def zph (zO:yC→Bool×yB):Cx ty:=mkCx base 51 [(74,(zjP zO)),(143,zFf),(144,zE0)] [] [(3,[(3,.own 43),(10,.keep),(11,.keep),(12,.keep)]),(7,(kpL [3,6,10,11,12,19,20,21]))] [(3,1,(kpL [3])),(7,3,(kpL [3,6,10,11,12]))] [(7,spW zJT zJC (zyR zO) default zIg zHV),(3,spW zKb zJw (zy6 zO) default zH3 zId)] []
theorem zIp (zO:yC→Bool×yB):zL (zph zO) (lp (body Tryz.f74) 1):=zw (id:=7) (hl:=rfl)
theorem zHQ (zO:yC→Bool×yB):zL (zph zO) (lp (body Tryz.f74) 0):=zw (id:=3) (hl:=rfl)
def zLs (zO:yC→Bool×yB) (a:yC):Wy0 zma:=.bn (zJG zO (a.length+(Int.ofNat a.length).toNat +Int.toNat 0+0+1000) a (Int.ofNat a.length) 0 []) fun r23=>.bn (zvn r23) fun r22=>.k r22
def zBX (zO:yC→Bool×yB) (a:yC):Bool×yB:=(zLs zO a).fin default
theorem zFR (zO:yC→Bool×yB) (zK3:SdP 74 (zjP zO)):SdP 74 (zjP (zBX zO)):=
 sW (cx':=(zph zO)) zq zi zl (zj ⟨zK3,zRh,zSo,trivial⟩) Tryz.call74 Tryz.func74 (c:=body Tryz.f74) (lOK (aC (zHQ zO) (aC (zIp zO) aN))) (sg:=⟨[.own 43],[]⟩)
def zSW:Nat→(yC→Bool×yB)
 | 0=>fun _=>(false,default)
 | n+1=>zBX (zSW n)
def zB1 (n:Nat):yC→Bool×yB:=zSW n
theorem zNd:∀ n,SdP 74 (zjP (zB1 n))
 | 0=>z6 Tryz.call74 (fun _=>rfl)
 | n+1=>by
  have ih:=zNd n;exact zFR _ (ih)
def zDW:yC→Bool×yB:=zB1 1000
def absorption_witnesses_spec:Ab.Spec ty:=zjP zDW
theorem zIM:SdP 74 absorption_witnesses_spec:=(zNd 1000)
def zMV:Cx ty:=mkCx base 17 [(20,annotation_Valid_spec),(73,absorption_explained_spec),(74,absorption_witnesses_spec)] [] [] [] [] []
def zOw (a:yC):Wy0 (yB×Int):=.bn (zb2 a) fun r2=>.i (!r2) (.k ([],1)) (.bn (zD1 a) fun r1=>.i (!r1) (.k ([],13)) (.bn (zDW a) fun r0=>.i (decide (Int.ofNat r0.length>512)) (.k ([],6)) (.k (r0,0))))
def zDX (a:yC):Bool×(yB×Int):=(zOw a).fin default
def zMc (r:yB×Int):ARes ty:=⟨[.own 43 r.1,.pure (.lit (.int .i64 r.2))],[]⟩
def zza:Ab.Spec ty:=zh zVO fun x=>((zDX x.1).1,zMc (zDX x.1).2)
theorem zH4:SdP 24 zza:=
 sW (cx':=zMV) zq zi zl (zj ⟨zcb,zIP,zIM,trivial⟩) Tryz.call24 Tryz.func24 (c:=body Tryz.f24) (lOK aN) (sg:=⟨[.own 43,.pure],[]⟩)
def z5h:Cx ty:=mkCx base 8 [] [] [] [] [] []
def zU7 (x_:Atom):Wy0 (yC):=.k [TermOf.mk 1 [FactorOf.mk (Atom.mk x_.Kind x_.Row x_.Args x_.Func x_.Items x_.Op x_.Bound) 1]]
def zm1 (x_:Atom):Bool×yC:=(zU7 x_).fin default
def zEz:Ab.Spec ty:=zh zBO fun x=>((zm1 x.1).1,zOj (zm1 x.1).2)
theorem zLX:SdP 102 zEz:=
 sW (cx':=z5h) zq zi zl (zj trivial) Tryz.call102 Tryz.func102 (c:=body Tryz.f102) (lOK aN) (sg:=⟨[.own 28],[]⟩)
def z6v:Cx ty:=mkCx base 14 [(102,zEz)] [] [] [] [] []
def zYR (id:RowID):Wy0 (yC):=.i (decide (id.Table<1)) (.k []) (.i (decide (id.Seq<1)) (.k []) (.k ((zm1 (Atom.mk 0 id [] 0 [] 0 (Value.mk 0 0 (ByteArray.mk #[])))).2)))
def zCV (id:RowID):Bool×yC:=(zYR id).fin default
def zP2:Ab.Spec ty:=zh z3Z fun x=>((zCV x.1).1,zOj (zCV x.1).2)
theorem z1H:SdP 98 zP2:=
 sW (cx':=z6v) zq zi zl (zj ⟨zLX,trivial⟩) Tryz.call98 Tryz.func98 (c:=body Tryz.f98) (lOK aN) (sg:=⟨[.own 28],[]⟩)
def zYF:Cx ty:=mkCx base 6 [(98,zP2)] [] [] [] [] []
def z0v (seq:Int):Wy0 (yC):=.bn (zCV (RowID.mk 1 seq)) fun r0=>.k r0
def zQz (seq:Int):Bool×yC:=(z0v seq).fin default
def zEZ:Ab.Spec ty:=zh zX7 fun x=>((zQz x.1).1,zOj (zQz x.1).2)
theorem zSH:SdP 44 zEZ:=
 sW (cx':=zYF) zq zi zl (zj ⟨z1H,trivial⟩) Tryz.call44 Tryz.func44 (c:=body Tryz.f44) (lOK aN) (sg:=⟨[.own 28],[]⟩)
def z3s:Cx ty:=mkCx base 9 [] [] [] [] [] []
def zTd (n_:Int):Wy0 (yC):=.i (decide (n_<1)) (.k []) (.k [TermOf.mk (if 1152921504606846976<n_ then 1152921504606846976 else n_) []])
def zBQ (n_:Int):Bool×yC:=(zTd n_).fin default
def zKu:Ab.Spec ty:=zh zX7 fun x=>((zBQ x.1).1,zOj (zBQ x.1).2)
theorem zYp:SdP 46 zKu:=
 sW (cx':=z3s) zq zi zl (zj trivial) Tryz.call46 Tryz.func46 (c:=body Tryz.f46) (lOK aN) (sg:=⟨[.own 28],[]⟩)
end Go.Proofs.YtljlfiomikifjaaGreatDoor
/- What lies inside lists of terms and factors: fuel for loops. -/
namespace Go.Proofs.YtljlfiomikifjaaGreatDoor
def szFs:yD→Nat
 | []=>0
 | f::r=>f.Exp.toNat +f.Atom.Args.length+f.Atom.Items.length+1+szFs r
def szTs:yC→Nat
 | []=>0
 | t::r=>szFs t.Factors+1+szTs r
end Go.Proofs.YtljlfiomikifjaaGreatDoor
namespace Go.Proofs.YtljlfiomikifjaaGreatDoor
open Go Go.Ab
def zjM (F:yD→yD→Bool×Int):Ab.Spec ty:=zh zXV fun x=>((F x.1 x.2.1).1,zO3 (F x.1 x.2.1).2)
def zQ8:AL base (yE×yE×Unit):=zd (ze (vSl 100)) (zd (ze (vSl 100)) aNil)
def zlH (F:yE→yE→Bool×Int):Ab.Spec ty:=zh zQ8 fun x=>((F x.1 x.2.1).1,zO3 (F x.1 x.2.1).2)
def z11:Cx ty:=mkCx base 11 [] [] [] [] [] []
def zQu (a:Int) (b:Int):Wy0 (Int):=.i (decide (a<b)) (.k (-1:Int)) (.i (decide (a>b)) (.k 1) (.k 0))
def zcM (a:Int) (b:Int):Bool×Int:=(zQu a b).fin default
def zlM:Ab.Spec ty:=zh zTI fun x=>((zcM x.1 x.2.1).1,zO3 (zcM x.1 x.2.1).2)
theorem znI:SdP 91 zlM:=
 sW (cx':=z11) zq zi zl (zj trivial) Tryz.call91 Tryz.func91 (c:=body Tryz.f91) (lOK aN)
abbrev zra:=yC×yC×Int×Unit
abbrev zwT:=Int⊕(yC×yC)
def zUv (zbl:yD→yD→Bool×Int) (a:yC) (b:yC) (i:Int):Wy zra (Unit) zwT:=.i (decide (i<Int.ofNat a.length)) (.i (decide (i<Int.ofNat b.length)) (.i (decide (0≤i)&&decide (i<Int.ofNat a.length)) (.i (decide (0≤i)&&decide (i<Int.ofNat b.length)) (.bn (zbl (a.getD i.toNat default).Factors (b.getD i.toNat default).Factors) fun r1=>.i (r1 != 0) (.k (.inl (r1))) (.i (decide (0≤i)&&decide (i<Int.ofNat a.length)) (.i (decide (0≤i)&&decide (i<Int.ofNat b.length)) (.bn (zcM (a.getD i.toNat default).Coeff (b.getD i.toNat default).Coeff) fun r0=>.i (r0 != 0) (.k (.inl (r0))) (.h (a,b,(IntKind.i64.wrap (i+1)),()) ())) .d) .d)) .d) .d) (.k (.inr (a,b)))) (.k (.inr (a,b)))
def zG5 (zbl:yD→yD→Bool×Int) (x:zra) (y:Unit):Wy zra (Unit) zwT:=zUv zbl x.1 x.2.1 x.2.2.1
def zUA (zbl:yD→yD→Bool×Int) (n:Nat) (a:yC) (b:yC) (i:Int):Bool×zwT:=zI (zG5 zbl) (.inl default) n (a,b,i,()) ()
def zTi (r:zwT):LTree ty:=.ite (isL r) (.done .ret [.lit (.int .i64 (getL r))] []) (.done (.exit 0) [.sl 28 (getR r).1,.sl 28 (getR r).2] [])
def zUP:LL ty zra:=za (lSl 28) (za (lSl 28) (za lI64 zp))
def zUl (x:zra) (y:Unit):Nat:=(x.1.length+x.2.1.length+Int.toNat x.2.2.1+1)
def zGZ (zbl:yD→yD→Bool×Int):Cx ty:=mkCx base 53 [(34,(zjM zbl)),(91,zlM)] [] [(2,(kpL [0,1,5]))] [(2,1,(kpL [0,1])),(2,0,(kpL [4]))] [(2,spW zUP z5G (zG5 zbl) (.inl default) zTi zUl)] []
theorem zT3 (zbl:yD→yD→Bool×Int):zL (zGZ zbl) (lp (body Tryz.f89) 0):=zw (id:=2) (hl:=rfl)
def zXw (zbl:yD→yD→Bool×Int) (a:yC) (b:yC):Wy0 (Int):=.bn (zUA zbl (a.length+b.length+Int.toNat 0+1) a b 0) fun r5=>.i (isL r5) (.k (getL r5)) (.bn (zcM (Int.ofNat (getR r5).1.length) (Int.ofNat (getR r5).2.length)) fun r4=>.k r4)
def zy0 (zbl:yD→yD→Bool×Int) (a:yC) (b:yC):Bool×Int:=(zXw zbl a b).fin default
theorem zQO (zbl:yD→yD→Bool×Int) (zMd:SdP 34 (zjM zbl)):SdP 89 (zep (zy0 zbl)):=
 sW (cx':=(zGZ zbl)) zq zi zl (zj ⟨zMd,znI,trivial⟩) Tryz.call89 Tryz.func89 (c:=body Tryz.f89) (lOK (aC (zT3 zbl) aN))
def z5E:Cx ty:=mkCx base 4 [] [] [] [] [] []
def zWF (less:Bool):Wy0 (Int):=.i (less) (.k (-1:Int)) (.k 1)
def zAF (less:Bool):Bool×Int:=(zWF less).fin default
def z7p:AL base (Bool×Unit):=zd (ze zbgm) aNil
def zNC:Ab.Spec ty:=zh z7p fun x=>((zAF x.1).1,zO3 (zAF x.1).2)
theorem z0r:SdP 157 zNC:=
 sW (cx':=z5E) zq zi zl (zj trivial) Tryz.call157 Tryz.func157 (c:=body Tryz.f157) (lOK aN)
def z0U:Cx ty:=mkCx base 38 [(157,zNC)] [] [] [] [] []
def zNq (a:Value) (b:Value):Wy0 (Int):=.i (a.Kind != b.Kind) (.bn (zAF (decide (a.Kind<b.Kind))) fun r0=>.k r0) (.i (a.Int != b.Int) (.bn (zAF (decide (a.Int<b.Int))) fun r1=>.k r1) (.i (!a.Text.toList==b.Text.toList) (.bn (zAF (Op.bytesLess a.Text.toList b.Text.toList)) fun r2=>.k r2) (.k 0)))
def zou (a:Value) (b:Value):Bool×Int:=(zNq a b).fin default
def zz8:Ab.Spec ty:=zh z2z fun x=>((zou x.1 x.2.1).1,zO3 (zou x.1 x.2.1).2)
theorem zFe:SdP 107 zz8:=
 sW (cx':=z0U) zq zi zl (zj ⟨z0r,trivial⟩) Tryz.call107 Tryz.func107 (c:=body Tryz.f107) (lOK aN)
def zT8:Cx ty:=mkCx base 19 [(91,zlM)] [] [] [] [] []
def zG7 (a:RowID) (b:RowID):Wy0 (Int):=.bn (zcM a.Table b.Table) fun r1=>.i (r1 != 0) (.k r1) (.bn (zcM a.Seq b.Seq) fun r0=>.k r0)
def zmR (a:RowID) (b:RowID):Bool×Int:=(zG7 a b).fin default
def zvJ:Ab.Spec ty:=zh z0q fun x=>((zmR x.1 x.2.1).1,zO3 (zmR x.1 x.2.1).2)
theorem zBU:SdP 105 zvJ:=
 sW (cx':=zT8) zq zi zl (zj ⟨znI,trivial⟩) Tryz.call105 Tryz.func105 (c:=body Tryz.f105) (lOK aN)
abbrev zk5:=Unit×Unit×Int×Unit
abbrev zlG:=Atom×Atom×Unit
abbrev zpA:=Int⊕(Atom×Atom)
def zuf (zU:yC→yC→Bool×Int) (zbx:yE→yE→Bool×Int) (i:Int) (a:Atom) (b:Atom):Wy zk5 zlG zpA:=.i (decide (i<Int.ofNat a.Args.length)) (.i (decide (i<Int.ofNat b.Args.length)) (.i (decide (0≤i)&&decide (i<Int.ofNat a.Args.length)) (.i (decide (0≤i)&&decide (i<Int.ofNat b.Args.length)) (.bn (zU (a.Args.getD i.toNat default) (b.Args.getD i.toNat default)) fun r0=>.i (r0 != 0) (.k (.inl (r0))) (.h ((),(),(IntKind.i64.wrap (i+1)),()) (a,b,()))) .d) .d) (.k (.inr (a,b)))) (.k (.inr (a,b)))
def zBD (zU:yC→yC→Bool×Int) (zbx:yE→yE→Bool×Int) (x:zk5) (y:zlG):Wy zk5 zlG zpA:=zuf zU zbx x.2.2.1 y.1 y.2.1
def zum (zU:yC→yC→Bool×Int) (zbx:yE→yE→Bool×Int) (n:Nat) (i:Int) (a:Atom) (b:Atom):Bool×zpA:=zI (zBD zU zbx) (.inl default) n ((),(),i,()) (a,b,())
def zMt (r:zpA):LTree ty:=.ite (isL r) (.done .ret [.lit (.int .i64 (getL r))] []) (.done (.exit 0) [.ptr 384 0,.ptr 385 0] [.box (base.enc 67 (getR r).1) false,.box (base.enc 67 (getR r).2) false])
def zOx:LL ty zk5:=za (zfl 384 0) (za (zfl 385 0) (za lI64 zp))
def zOX:BL ty zlG:=bBox (zg1 (fun x=>(⟨x.1,⟨x.2.1,x.2.2.1⟩,x.2.2.2.1,x.2.2.2.2.1,x.2.2.2.2.2.1,x.2.2.2.2.2.2.1,⟨x.2.2.2.2.2.2.2.1,x.2.2.2.2.2.2.2.2.1,x.2.2.2.2.2.2.2.2.2.1⟩⟩:Atom)) (fun x=>(x.Kind,x.Row.Table,x.Row.Seq,x.Args,x.Func,x.Items,x.Op,x.Bound.Kind,x.Bound.Int,x.Bound.Text,())) (fun _=>rfl) (za (lInt .i64) (za (lInt .i64) (za (lInt .i64) (za (lSl 23) (za (lInt .i64) (za (lSl 100) (za (lInt .i64) (za (lInt .i64) (za (lInt .i64) (za lStr zp))))))))))) false (bBox (zg1 (fun x=>(⟨x.1,⟨x.2.1,x.2.2.1⟩,x.2.2.2.1,x.2.2.2.2.1,x.2.2.2.2.2.1,x.2.2.2.2.2.2.1,⟨x.2.2.2.2.2.2.2.1,x.2.2.2.2.2.2.2.2.1,x.2.2.2.2.2.2.2.2.2.1⟩⟩:Atom)) (fun x=>(x.Kind,x.Row.Table,x.Row.Seq,x.Args,x.Func,x.Items,x.Op,x.Bound.Kind,x.Bound.Int,x.Bound.Text,())) (fun _=>rfl) (za (lInt .i64) (za (lInt .i64) (za (lInt .i64) (za (lSl 23) (za (lInt .i64) (za (lSl 100) (za (lInt .i64) (za (lInt .i64) (za (lInt .i64) (za lStr zp))))))))))) false (bNil))
def zMP (x:zk5) (y:zlG):Nat:=(Int.toNat x.2.2.1+y.1.Args.length+y.1.Items.length+y.2.1.Args.length+y.2.1.Items.length+1)
def zB0 (zU:yC→yC→Bool×Int) (zbx:yE→yE→Bool×Int):Cx ty:=mkCx base 96 [(89,(zep zU)),(91,zlM),(105,zvJ),(106,(zlH zbx)),(107,zz8)] [] [(8,(kpL [2,3,7]))] [(8,1,(kpL [2,3])),(8,0,(kpL [4]))] [(8,spW zOx zOX (zBD zU zbx) (.inl default) zMt zMP)] []
theorem zMN (zU:yC→yC→Bool×Int) (zbx:yE→yE→Bool×Int):zL (zB0 zU zbx) (lp (body Tryz.f53) 0):=zw (id:=8) (hl:=rfl)
def zCW (zU:yC→yC→Bool×Int) (zbx:yE→yE→Bool×Int) (a:Atom) (b:Atom):Wy0 (Int):=.bn (zcM a.Kind b.Kind) fun r9=>.i (r9 != 0) (.k r9) (.bn (zmR a.Row b.Row) fun r8=>.i (r8 != 0) (.k r8) (.bn (zum zU zbx (Int.toNat 0+a.Args.length+a.Items.length+b.Args.length+b.Items.length+1) 0 (Atom.mk a.Kind a.Row a.Args a.Func a.Items a.Op a.Bound) (Atom.mk b.Kind b.Row b.Args b.Func b.Items b.Op b.Bound)) fun r7=>.i (isL r7) (.k (getL r7)) (.bn (zcM (Int.ofNat (getR r7).1.Args.length) (Int.ofNat (getR r7).2.Args.length)) fun r6=>.i (r6 != 0) (.k r6) (.bn (zcM (getR r7).1.Func (getR r7).2.Func) fun r5=>.i (r5 != 0) (.k r5) (.bn (zbx (getR r7).1.Items (getR r7).2.Items) fun r4=>.i (r4 != 0) (.k r4) (.bn (zcM (getR r7).1.Op (getR r7).2.Op) fun r3=>.i (r3 != 0) (.k r3) (.bn (zou (getR r7).1.Bound (getR r7).2.Bound) fun r2=>.k r2)))))))
def zmp (zU:yC→yC→Bool×Int) (zbx:yE→yE→Bool×Int) (a:Atom) (b:Atom):Bool×Int:=(zCW zU zbx a b).fin default
theorem zJS (zU:yC→yC→Bool×Int) (zbx:yE→yE→Bool×Int) (zBs:SdP 89 (zep zU)) (zOb:SdP 106 (zlH zbx)):SdP 53 (zgZ (zmp zU zbx)):=
 sW (cx':=(zB0 zU zbx)) zq zi zl (zj ⟨zBs,znI,zBU,zOb,zFe,trivial⟩) Tryz.call53 Tryz.func53 (c:=body Tryz.f53) (lOK (aC (zMN zU zbx) aN))
abbrev ziO:=yD×yD×Int×Unit
abbrev zme:=Int⊕(yD×yD)
def zyU (zbC:Atom→Atom→Bool×Int) (a:yD) (b:yD) (i:Int):Wy ziO (Unit) zme:=.i (decide (i<Int.ofNat a.length)) (.i (decide (i<Int.ofNat b.length)) (.i (decide (0≤i)&&decide (i<Int.ofNat a.length)) (.i (decide (0≤i)&&decide (i<Int.ofNat b.length)) (.bn (zbC (Atom.mk (a.getD i.toNat default).Atom.Kind (a.getD i.toNat default).Atom.Row (a.getD i.toNat default).Atom.Args (a.getD i.toNat default).Atom.Func (a.getD i.toNat default).Atom.Items (a.getD i.toNat default).Atom.Op (a.getD i.toNat default).Atom.Bound) (Atom.mk (b.getD i.toNat default).Atom.Kind (b.getD i.toNat default).Atom.Row (b.getD i.toNat default).Atom.Args (b.getD i.toNat default).Atom.Func (b.getD i.toNat default).Atom.Items (b.getD i.toNat default).Atom.Op (b.getD i.toNat default).Atom.Bound)) fun r1=>.i (r1 != 0) (.k (.inl (r1))) (.i (decide (0≤i)&&decide (i<Int.ofNat a.length)) (.i (decide (0≤i)&&decide (i<Int.ofNat b.length)) (.bn (zcM (a.getD i.toNat default).Exp (b.getD i.toNat default).Exp) fun r0=>.i (r0 != 0) (.k (.inl (r0))) (.h (a,b,(IntKind.i64.wrap (i+1)),()) ())) .d) .d)) .d) .d) (.k (.inr (a,b)))) (.k (.inr (a,b)))
def zkK (zbC:Atom→Atom→Bool×Int) (x:ziO) (y:Unit):Wy ziO (Unit) zme:=zyU zbC x.1 x.2.1 x.2.2.1
def zyV (zbC:Atom→Atom→Bool×Int) (n:Nat) (a:yD) (b:yD) (i:Int):Bool×zme:=zI (zkK zbC) (.inl default) n (a,b,i,()) ()
def zHO (r:zme):LTree ty:=.ite (isL r) (.done .ret [.lit (.int .i64 (getL r))] []) (.done (.exit 0) [.sl 69 (getR r).1,.sl 69 (getR r).2] [])
def zJx:LL ty ziO:=za (lSl 69) (za (lSl 69) (za lI64 zp))
def zIm (x:ziO) (y:Unit):Nat:=(x.1.length+x.2.1.length+Int.toNat x.2.2.1+1)
def zzd (zbC:Atom→Atom→Bool×Int):Cx ty:=mkCx base 53 [(53,(zgZ zbC)),(91,zlM)] [] [(2,(kpL [0,1,5]))] [(2,1,(kpL [0,1])),(2,0,(kpL [4]))] [(2,spW zJx z5G (zkK zbC) (.inl default) zHO zIm)] []
theorem zIH (zbC:Atom→Atom→Bool×Int):zL (zzd zbC) (lp (body Tryz.f34) 0):=zw (id:=2) (hl:=rfl)
def zzy (zbC:Atom→Atom→Bool×Int) (a:yD) (b:yD):Wy0 (Int):=.bn (zyV zbC (a.length+b.length+Int.toNat 0+1) a b 0) fun r5=>.i (isL r5) (.k (getL r5)) (.bn (zcM (Int.ofNat (getR r5).1.length) (Int.ofNat (getR r5).2.length)) fun r4=>.k r4)
def zjA (zbC:Atom→Atom→Bool×Int) (a:yD) (b:yD):Bool×Int:=(zzy zbC a b).fin default
theorem zGj (zbC:Atom→Atom→Bool×Int) (zPU:SdP 53 (zgZ zbC)):SdP 34 (zjM (zjA zbC)):=
 sW (cx':=(zzd zbC)) zq zi zl (zj ⟨zPU,znI,trivial⟩) Tryz.call34 Tryz.func34 (c:=body Tryz.f34) (lOK (aC (zIH zbC) aN))
abbrev zkg:=yE×yE×Int×Unit
abbrev zn9:=Int⊕(yE×yE)
def zMO (zU:yC→yC→Bool×Int) (a:yE) (b:yE) (i:Int):Wy zkg (Unit) zn9:=.i (decide (i<Int.ofNat a.length)) (.i (decide (i<Int.ofNat b.length)) (.i (decide (0≤i)&&decide (i<Int.ofNat a.length)) (.i (decide (0≤i)&&decide (i<Int.ofNat b.length)) (.bn (zou (a.getD i.toNat default).Value (b.getD i.toNat default).Value) fun r1=>.i (r1 != 0) (.k (.inl (r1))) (.i (decide (0≤i)&&decide (i<Int.ofNat a.length)) (.i (decide (0≤i)&&decide (i<Int.ofNat b.length)) (.bn (zU (a.getD i.toNat default).Ann (b.getD i.toNat default).Ann) fun r0=>.i (r0 != 0) (.k (.inl (r0))) (.h (a,b,(IntKind.i64.wrap (i+1)),()) ())) .d) .d)) .d) .d) (.k (.inr (a,b)))) (.k (.inr (a,b)))
def zA5 (zU:yC→yC→Bool×Int) (x:zkg) (y:Unit):Wy zkg (Unit) zn9:=zMO zU x.1 x.2.1 x.2.2.1
def zMY (zU:yC→yC→Bool×Int) (n:Nat) (a:yE) (b:yE) (i:Int):Bool×zn9:=zI (zA5 zU) (.inl default) n (a,b,i,()) ()
def zLv (r:zn9):LTree ty:=.ite (isL r) (.done .ret [.lit (.int .i64 (getL r))] []) (.done (.exit 0) [.sl 100 (getR r).1,.sl 100 (getR r).2] [])
def zMx:LL ty zkg:=za (lSl 100) (za (lSl 100) (za lI64 zp))
def zK5 (x:zkg) (y:Unit):Nat:=(x.1.length+x.2.1.length+Int.toNat x.2.2.1+1)
def zA2 (zU:yC→yC→Bool×Int):Cx ty:=mkCx base 53 [(89,(zep zU)),(91,zlM),(107,zz8)] [] [(2,(kpL [0,1,5]))] [(2,1,(kpL [0,1])),(2,0,(kpL [4]))] [(2,spW zMx z5G (zA5 zU) (.inl default) zLv zK5)] []
theorem zLo (zU:yC→yC→Bool×Int):zL (zA2 zU) (lp (body Tryz.f106) 0):=zw (id:=2) (hl:=rfl)
def zOE (zU:yC→yC→Bool×Int) (a:yE) (b:yE):Wy0 (Int):=.bn (zMY zU (a.length+b.length+Int.toNat 0+1) a b 0) fun r5=>.i (isL r5) (.k (getL r5)) (.bn (zcM (Int.ofNat (getR r5).1.length) (Int.ofNat (getR r5).2.length)) fun r4=>.k r4)
def zpJ (zU:yC→yC→Bool×Int) (a:yE) (b:yE):Bool×Int:=(zOE zU a b).fin default
theorem zIF (zU:yC→yC→Bool×Int) (zBs:SdP 89 (zep zU)):SdP 106 (zlH (zpJ zU)):=
 sW (cx':=(zA2 zU)) zq zi zl (zj ⟨zBs,znI,zFe,trivial⟩) Tryz.call106 Tryz.func106 (c:=body Tryz.f106) (lOK (aC (zLo zU) aN))
def zly:Nat→(yC→yC→Bool×Int)×(yD→yD→Bool×Int)×(Atom→Atom→Bool×Int)×(yE→yE→Bool×Int)
 | 0=>(fun _ _=>(false,default),fun _ _=>(false,default),fun _ _=>(false,default),fun _ _=>(false,default))
 | n+1=>(zy0 ((zly n).2.1),zjA ((zly n).2.2.1),zmp ((zly n).1) ((zly n).2.2.2),zpJ ((zly n).1))
def zn0 (n:Nat):yC→yC→Bool×Int:=(zly n).1
def zjB (n:Nat):yD→yD→Bool×Int:=(zly n).2.1
def zmi (n:Nat):Atom→Atom→Bool×Int:=(zly n).2.2.1
def zlg (n:Nat):yE→yE→Bool×Int:=(zly n).2.2.2
theorem zVo (n:Nat):zn0 (n+1)=zy0 (zjB n):=rfl
theorem zJF (n:Nat):zjB (n+1)=zjA (zmi n):=rfl
theorem zOR (n:Nat):zmi (n+1)=zmp (zn0 n) (zlg n):=rfl
theorem zMX (n:Nat):zlg (n+1)=zpJ (zn0 n):=rfl
theorem zv1:∀ n,SdP 89 (zep (zn0 n))∧SdP 34 (zjM (zjB n))∧SdP 53 (zgZ (zmi n))∧SdP 106 (zlH (zlg n))
 | 0=>⟨z6 Tryz.call89 (fun _=>rfl),z6 Tryz.call34 (fun _=>rfl),z6 Tryz.call53 (fun _=>rfl),z6 Tryz.call106 (fun _=>rfl)⟩
 | n+1=>by
  have ih:=zv1 n;exact ⟨zQO _ (ih.2.1),zGj _ (ih.2.2.1),zJS _ _ (ih.1) (ih.2.2.2),zIF _ (ih.1)⟩
def zIz:yC→yC→Bool×Int:=zn0 1000
def ref05_Compare_spec:Ab.Spec ty:=zep zIz
theorem zTp:SdP 89 ref05_Compare_spec:=(zv1 1000).1
def zlK:yD→yD→Bool×Int:=zjB 1000
def ref05_CompareFactors_spec:Ab.Spec ty:=zjM zlK
theorem zyh:SdP 34 ref05_CompareFactors_spec:=(zv1 1000).2.1
def zlR:Atom→Atom→Bool×Int:=zmi 1000
def ref05_CompareAtom_spec:Ab.Spec ty:=zgZ zlR
theorem zBa:SdP 53 ref05_CompareAtom_spec:=(zv1 1000).2.2.1
def zt3:yE→yE→Bool×Int:=zlg 1000
def ref05_CompareItems_spec:Ab.Spec ty:=zlH zt3
theorem zLw:SdP 106 ref05_CompareItems_spec:=(zv1 1000).2.2.2
abbrev ze2:=yC×Int×Int×Int×Unit×Int×Int×Unit
abbrev zwP:=yC×Int×Int×Int×Int×Atom
abbrev zxj:=yC×Int×Int×Int×Int
abbrev zq4:=yC×Int×Int×Int×Unit
abbrev zxd:=yC×Int×Int
abbrev zrm:=yC×Int×Int×Unit
def zmC (zB:yC→Bool×Int) (a:yC) (most:Int) (i:Int) (k:Int) (n_:Int) (j:Int) (x_:Atom):Wy ze2 (Atom×Unit) zwP:=.i (decide (j<Int.ofNat x_.Args.length)) (.i (decide (0≤j)&&decide (j<Int.ofNat x_.Args.length)) (.bn (zB (x_.Args.getD j.toNat default)) fun r0=>.h (a,most,i,k,(),(if IntKind.i64.wrap (1+r0)>n_ then IntKind.i64.wrap (1+r0) else n_),(IntKind.i64.wrap (j+1)),()) (x_,())) .d) (.k (a,most,i,k,n_,x_))
def zyK (zB:yC→Bool×Int) (x:ze2) (y:Atom×Unit):Wy ze2 (Atom×Unit) zwP:=zmC zB x.1 x.2.1 x.2.2.1 x.2.2.2.1 x.2.2.2.2.2.1 x.2.2.2.2.2.2.1 y.1
def zyI (zB:yC→Bool×Int) (n:Nat) (a:yC) (most:Int) (i:Int) (k:Int) (n_:Int) (j:Int) (x_:Atom):Bool×zwP:=zI (zyK zB) default n (a,most,i,k,(),n_,j,()) (x_,())
def zRE (r:zwP):LTree ty:=.done (.exit 4) [.sl 28 r.1,.lit (.int .i64 r.2.1),.lit (.int .i64 r.2.2.1),.lit (.int .i64 r.2.2.2.1),.ptr 300 0,.lit (.int .i64 r.2.2.2.2.1)] [.box (base.enc 67 r.2.2.2.2.2) false]
def zT6:LL ty ze2:=za (lSl 28) (za lI64 (za lI64 (za lI64 (za (zfl 300 0) (za lI64 (za lI64 zp))))))
def zTF:BL ty (Atom×Unit):=bBox (zg1 (fun x=>(⟨x.1,⟨x.2.1,x.2.2.1⟩,x.2.2.2.1,x.2.2.2.2.1,x.2.2.2.2.2.1,x.2.2.2.2.2.2.1,⟨x.2.2.2.2.2.2.2.1,x.2.2.2.2.2.2.2.2.1,x.2.2.2.2.2.2.2.2.2.1⟩⟩:Atom)) (fun x=>(x.Kind,x.Row.Table,x.Row.Seq,x.Args,x.Func,x.Items,x.Op,x.Bound.Kind,x.Bound.Int,x.Bound.Text,())) (fun _=>rfl) (za (lInt .i64) (za (lInt .i64) (za (lInt .i64) (za (lSl 23) (za (lInt .i64) (za (lSl 100) (za (lInt .i64) (za (lInt .i64) (za (lInt .i64) (za lStr zp))))))))))) false (bNil)
def zmA (zB:yC→Bool×Int) (a:yC) (most:Int) (i:Int) (k:Int) (n_:Int) (j:Int) (x_:Atom):Wy ze2 (Atom×Unit) zxj:=.i (decide (j<Int.ofNat x_.Items.length)) (.i (decide (0≤j)&&decide (j<Int.ofNat x_.Items.length)) (.bn (zB (x_.Items.getD j.toNat default).Ann) fun r2=>.h (a,most,i,k,(),(if IntKind.i64.wrap (1+r2)>n_ then IntKind.i64.wrap (1+r2) else n_),(IntKind.i64.wrap (j+1)),()) (x_,())) .d) (.k (a,most,i,k,n_))
def zyH (zB:yC→Bool×Int) (x:ze2) (y:Atom×Unit):Wy ze2 (Atom×Unit) zxj:=zmA zB x.1 x.2.1 x.2.2.1 x.2.2.2.1 x.2.2.2.2.2.1 x.2.2.2.2.2.2.1 y.1
def zFh (zB:yC→Bool×Int) (n:Nat) (a:yC) (most:Int) (i:Int) (k:Int) (n_:Int) (j:Int) (x_:Atom):Bool×zxj:=zI (zyH zB) default n (a,most,i,k,(),n_,j,()) (x_,())
def zSa (r:zxj):LTree ty:=.done (.exit 6) [.sl 28 r.1,.lit (.int .i64 r.2.1),.lit (.int .i64 r.2.2.1),.lit (.int .i64 r.2.2.2.1),.lit (.int .i64 r.2.2.2.2)] []
def znG (zB:yC→Bool×Int) (a:yC) (most:Int) (i:Int) (k:Int):Wy zq4 (Unit) zxd:=.i (decide (0≤i)&&decide (i<Int.ofNat a.length)) (.i (decide (k<Int.ofNat (a.getD i.toNat default).Factors.length)) (.i (decide (0≤i)&&decide (i<Int.ofNat a.length)) (.i (decide (0≤k)&&decide (k<Int.ofNat (a.getD i.toNat default).Factors.length)) (.i (((a.getD i.toNat default).Factors.getD k.toNat default).Atom.Kind==0) (.h (a,most,i,(IntKind.i64.wrap (k+1)),()) ()) (.bn (zyI zB ((a.length+most.toNat +i.toNat +k.toNat +Int.toNat 1+Int.toNat 0+((a.getD i.toNat default).Factors.getD k.toNat default).Atom.Args.length+((a.getD i.toNat default).Factors.getD k.toNat default).Atom.Items.length+1)+szTs a) a most i k 1 0 (Atom.mk ((a.getD i.toNat default).Factors.getD k.toNat default).Atom.Kind ((a.getD i.toNat default).Factors.getD k.toNat default).Atom.Row ((a.getD i.toNat default).Factors.getD k.toNat default).Atom.Args ((a.getD i.toNat default).Factors.getD k.toNat default).Atom.Func ((a.getD i.toNat default).Factors.getD k.toNat default).Atom.Items ((a.getD i.toNat default).Factors.getD k.toNat default).Atom.Op ((a.getD i.toNat default).Factors.getD k.toNat default).Atom.Bound)) fun r5=>.bn (zFh zB ((r5.1.length+r5.2.1.toNat +r5.2.2.1.toNat +r5.2.2.2.1.toNat +r5.2.2.2.2.1.toNat +Int.toNat 0+r5.2.2.2.2.2.Args.length+r5.2.2.2.2.2.Items.length+1)+szTs r5.1) r5.1 r5.2.1 r5.2.2.1 r5.2.2.2.1 r5.2.2.2.2.1 0 (Atom.mk r5.2.2.2.2.2.Kind r5.2.2.2.2.2.Row r5.2.2.2.2.2.Args r5.2.2.2.2.2.Func r5.2.2.2.2.2.Items r5.2.2.2.2.2.Op r5.2.2.2.2.2.Bound)) fun r4=>.h ((r4.1),(if r4.2.2.2.2>r4.2.1 then r4.2.2.2.2 else r4.2.1),(r4.2.2.1),(IntKind.i64.wrap (r4.2.2.2.1+1)),()) ())) .d) .d) (.k (a,most,i))) .d
def zz1 (zB:yC→Bool×Int) (x:zq4) (y:Unit):Wy zq4 (Unit) zxd:=znG zB x.1 x.2.1 x.2.2.1 x.2.2.2.1
def zHk (zB:yC→Bool×Int) (n:Nat) (a:yC) (most:Int) (i:Int) (k:Int):Bool×zxd:=zI (zz1 zB) default n (a,most,i,k,()) ()
def zTZ (r:zxd):LTree ty:=.done (.exit 2) [.sl 28 r.1,.lit (.int .i64 r.2.1),.lit (.int .i64 r.2.2)] []
def zWV:LL ty zq4:=za (lSl 28) (za lI64 (za lI64 (za lI64 zp)))
def znB (zB:yC→Bool×Int) (a:yC) (most:Int) (i:Int):Wy zrm (Unit) (Int):=.i (decide (i<Int.ofNat a.length)) (.bn (zHk zB ((a.length+most.toNat +i.toNat +Int.toNat 0+1)+szTs a) a most i 0) fun r8=>.h ((r8.1),(r8.2.1),(IntKind.i64.wrap (r8.2.2+1)),()) ()) (.k most)
def zz4 (zB:yC→Bool×Int) (x:zrm) (y:Unit):Wy zrm (Unit) (Int):=znB zB x.1 x.2.1 x.2.2.1
def zGH (zB:yC→Bool×Int) (n:Nat) (a:yC) (most:Int) (i:Int):Bool×Int:=zI (zz4 zB) default n (a,most,i,()) ()
def zVy:LL ty zrm:=za (lSl 28) (za lI64 (za lI64 zp))
def zRy (x:ze2) (y:Atom×Unit):Nat:=((x.1.length+Int.toNat x.2.1+Int.toNat x.2.2.1+Int.toNat x.2.2.2.1+Int.toNat x.2.2.2.2.2.1+Int.toNat x.2.2.2.2.2.2.1+y.1.Args.length+y.1.Items.length+1)+szTs x.1)
def zTX (x:zq4) (y:Unit):Nat:=((x.1.length+Int.toNat x.2.1+Int.toNat x.2.2.1+Int.toNat x.2.2.2.1+1)+szTs x.1)
def zT1 (x:zrm) (y:Unit):Nat:=((x.1.length+Int.toNat x.2.1+Int.toNat x.2.2.1+1)+szTs x.1)
def znP (zB:yC→Bool×Int):Cx ty:=mkCx base 75 [(108,(zoI zB))] [] [(3,(kpL [0,3,4])),(6,(kpL [0,3,4,5])),(12,(kpL [0,3,4,5,6,7,8])),(16,(kpL [0,3,4,5,6,7,9]))] [(3,1,(kpL [3])),(6,3,(kpL [0,3,4])),(12,5,(kpL [0,3,4,5,6,7])),(16,7,(kpL [0,3,4,5,7]))] [(12,spW zT6 zTF (zyK zB) default zRE zRy),(16,spW zT6 zTF (zyH zB) default zSa zRy),(6,spW zWV z5G (zz1 zB) default zTZ zTX),(3,spW zVy z5G (zz4 zB) default zPa zT1)] []
theorem zRq (zB:yC→Bool×Int):zL (znP zB) (lp (body Tryz.f108) 2):=zw (id:=12) (hl:=rfl)
theorem zSm (zB:yC→Bool×Int):zL (znP zB) (lp (body Tryz.f108) 3):=zw (id:=16) (hl:=rfl)
theorem zTR (zB:yC→Bool×Int):zL (znP zB) (lp (body Tryz.f108) 1):=zw (id:=6) (hl:=rfl)
theorem zTT (zB:yC→Bool×Int):zL (znP zB) (lp (body Tryz.f108) 0):=zw (id:=3) (hl:=rfl)
def zJe (zB:yC→Bool×Int) (a:yC):Wy0 (Int):=.bn (zGH zB ((a.length+Int.toNat 0+Int.toNat 0+1)+szTs a) a 0 0) fun r10=>.k r10
def zy3 (zB:yC→Bool×Int) (a:yC):Bool×Int:=(zJe zB a).fin default
theorem zQv (zB:yC→Bool×Int) (zXx:SdP 108 (zoI zB)):SdP 108 (zoI (zy3 zB)):=
 sW (cx':=(znP zB)) zq zi zl (zj ⟨zXx,trivial⟩) Tryz.call108 Tryz.func108 (c:=body Tryz.f108) (lOK (aC (zTT zB) (aC (zTR zB) (aC (zRq zB) (aC (zSm zB) aN)))))
def zUB:Nat→(yC→Bool×Int)
 | 0=>fun _=>(false,default)
 | n+1=>zy3 (zUB n)
def zlp (n:Nat):yC→Bool×Int:=zUB n
theorem zVX (n:Nat):zlp (n+1)=zy3 (zlp n):=rfl
theorem zPA:∀ n,SdP 108 (zoI (zlp n))
 | 0=>z6 Tryz.call108 (fun _=>rfl)
 | n+1=>by
  have ih:=zPA n;exact zQv _ (ih)
def zHP:yC→Bool×Int:=zlp 1000
def ref05_Nesting_spec:Ab.Spec ty:=zoI zHP
theorem zTU:SdP 108 ref05_Nesting_spec:=(zPA 1000)
end Go.Proofs.YtljlfiomikifjaaGreatDoor
end
