/- Texts of this claim, joined (the program, its functions in plain words, and what they compute). -/
import Derived.Test.YtljlfiomikifjaaGreatDoorGC4
set_option autoImplicit false
set_option linter.unusedVariables false
set_option linter.unusedSectionVars false
set_option linter.unusedSimpArgs false
set_option maxRecDepth 1000000
set_option maxHeartbeats 0
noncomputable section
namespace Go.Proofs.YtljlfiomikifjaaGreatDoor
open Go Go.Ab
abbrev zem:=Unit×Int×(Nat×Nat)×Int×Unit
abbrev zbE:=yF×Unit
abbrev zfq:=Int×yF
abbrev zfn:=Unit×Int×Unit
abbrev zfm:=(Nat×yF)⊕yF
def zyw (k:Int) (s2_0:Nat) (s2_1:Nat) (k2:Int) (s:yF):Wy zem zbE zfq:=.i (decide (k2<Int.ofNat s2_1)) (.i (decide (0≤k2)&&decide (k2<Int.ofNat s2_1)) (.i (decide (0≤IntKind.i64.wrap (k2 - 1))&&decide (IntKind.i64.wrap (k2 - 1)<Int.ofNat s2_1)) (.i (!((s.getD (s2_0+k2.toNat) default).Table==(s.getD (s2_0+(IntKind.i64.wrap (k2 - 1)).toNat) default).Table&&((s.getD (s2_0+k2.toNat) default).Seq==(s.getD (s2_0+(IntKind.i64.wrap (k2 - 1)).toNat) default).Seq&&true))) (.i (decide (0≤k2)&&decide (k2<Int.ofNat s2_1)) (.i (decide (0≤k)&&decide (k<Int.ofNat s.length)) (.i (decide (k.toNat<s.length)) (.h ((),(IntKind.i64.wrap (k+1)),(s2_0,s2_1),(IntKind.i64.wrap (k2+1)),()) ((s.set k.toNat (s.getD (s2_0+k2.toNat) default)),())) .d) .d) .d) (.h ((),k,(s2_0,s2_1),(IntKind.i64.wrap (k2+1)),()) (s,()))) .d) .d) (.k (k,s))
def zmf (x:zem) (y:zbE):Wy zem zbE zfq:=zyw x.2.1 x.2.2.1.1 x.2.2.1.2 x.2.2.2.1 y.1
def zyo (n:Nat) (k:Int) (s2_0:Nat) (s2_1:Nat) (k2:Int) (s:yF):Bool×zfq:=zF (zmf) default n ((),k,(s2_0,s2_1),k2,()) (s,())
def zxJ (r:zfq):LTree ty:=.done (.exit 2) [.own 244,.lit (.int .i64 r.1)] [.arr 49 r.2 false]
def zyq:LL ty zem:=za (lOwn 244) (za lI64 (za (lSub 244) (za lI64 zn)))
def zyz:BL ty zbE:=bArr 49 false (bNil)
def zyF (k:Int) (s:yF):Wy zfn zbE zfm:=.i (decide (k<Int.ofNat s.length)) (.i (decide (0≤k)&&decide (k<Int.ofNat s.length)) (.i (decide (0≤IntKind.i64.wrap (k - 1))&&decide (IntKind.i64.wrap (k - 1)<Int.ofNat s.length)) (.i ((s.getD k.toNat default).Table==(s.getD (IntKind.i64.wrap (k - 1)).toNat default).Table&&((s.getD k.toNat default).Seq==(s.getD (IntKind.i64.wrap (k - 1)).toNat default).Seq&&true)) (.i (decide (0≤k)&&decide (k≤Int.ofNat s.length)&&decide (Int.ofNat s.length≤Int.ofNat s.length)) (.bn (zyo (k.toNat +k.toNat +((Int.ofNat s.length).toNat - k.toNat)+Int.toNat 1+s.length+1) k k.toNat ((Int.ofNat s.length).toNat - k.toNat) 1 s) fun r0=>.i (decide (0≤r0.1)&&decide (r0.1≤Int.ofNat r0.2.length)&&decide (Int.ofNat r0.2.length≤Int.ofNat r0.2.length)) (.i (decide (r0.1.toNat +((Int.ofNat r0.2.length).toNat - r0.1.toNat)≤r0.2.length)) (.i (decide ((0:Int)≤(0:Int))&&decide (0≤r0.1)&&decide (r0.1≤Int.ofNat (List.take r0.1.toNat r0.2++List.replicate ((Int.ofNat r0.2.length).toNat - r0.1.toNat) (RowID.mk 0 0)++List.drop (r0.1.toNat +((Int.ofNat r0.2.length).toNat - r0.1.toNat)) r0.2).length)) (.k (.inl (r0.1.toNat - Int.toNat 0,List.take r0.1.toNat r0.2++List.replicate ((Int.ofNat r0.2.length).toNat - r0.1.toNat) (RowID.mk 0 0)++List.drop (r0.1.toNat +((Int.ofNat r0.2.length).toNat - r0.1.toNat)) r0.2))) .d) .d) .d) .d) (.h ((),(IntKind.i64.wrap (k+1)),()) (s,()))) .d) .d) (.k (.inr s))
def zmo (x:zfn) (y:zbE):Wy zfn zbE zfm:=zyF x.2.1 y.1
def zyu (n:Nat) (k:Int) (s:yF):Bool×zfm:=zF (zmo) (.inl default) n ((),k,()) (s,())
def zxP (r:zfm):LTree ty:=.ite (isL r) (.done .ret [.sub 244 0 ((getL r).1)] [.arr 49 ((getL r).2) false]) (.done (.exit 0) [.own 244] [.arr 49 (getR r) false])
def zyh:LL ty zfn:=za (lOwn 244) (za lI64 zn)
def zxp (x:zem) (y:zbE):Nat:=(Int.toNat x.2.1+x.2.2.1.1+x.2.2.1.2+Int.toNat x.2.2.2.1+y.1.length+1)
def zgT:Cx ty:=mkCx base 61 [] [] [(4,(kpL [0,3])),(9,(kpL [0,3,4,5]))] [(4,1,(kpL [0])),(4,0,(kpL [2])),(9,3,(kpL [0,3]))] [(9,spW zyq zyz (zmf) default zxJ zxp),(4,spW zyh zyz (zmo) (.inl default) zxP fun x y=>(Int.toNat x.2.1+y.1.length+1))] []
theorem zxD:zK zgT (lp (body Tryz.f234) 1):=zu (id:=9) (hl:=rfl)
theorem zxI:zK zgT (lp (body Tryz.f234) 0):=zu (id:=4) (hl:=rfl)
def zzq (s:yF):Wy0 (yF):=.i (decide (Int.ofNat s.length<2)) (.k s) (.bn (zyu (Int.toNat 1+s.length+1) 1 s) fun r2=>.i (isL r2) (.k (List.take (getL r2).1 (getL r2).2)) (.k (getR r2)))
def ziw (s:yF):Bool×yF:=(zzq s).fin default
def zxA (r:yF):ARes ty:=⟨[.own 49 r],[none]⟩
def zzj:AL base zbE:=zd (aOwn 49) aNil
def zln:Ab.Spec ty:=zh zzj fun x=>((ziw x.1).1,zxA (ziw x.1).2)
theorem zv9:SdP 234 zln:=
 sW (cx':=zgT) zr zi zk (zj trivial) Tryz.call234 Tryz.func234 (c:=body Tryz.f234) (lOK (aC zxI (aC zxD aN))) (sg:=⟨[.own 49],[false]⟩)
def zhU (x:yF):Bool×yF:=zzu (fun a b=>zmK a b) x
def slices_SortFunc_Lapi_RowID_api_RowID_spec:Ab.Spec ty:=zh (cx:=base) (zd (aOwn 49) (zd (ze (vFn 233 (vNil))) aNil)) fun x=>((zhU x.1).1,⟨[],[some ⟨49,(zhU x.1).2⟩]⟩)
theorem zw5 (c:Unit) (x y:RowID) (h:(zmK x y).1=true):zmh ((AV.agg (base.enc 49 x)::AV.agg (base.enc 49 y)::(vNil:VL base (Unit)).enc c).map Arg.pure)=some (true,⟨[.pure (.lit (.int .i64 (zmK x y).2))],[]⟩):=by
 rw [← h]; kernel_rfl
theorem zvm:SdP 232 slices_SortFunc_Lapi_RowID_api_RowID_spec:=by
 letI:DecidableEq (ty 49):=inferInstanceAs (DecidableEq RowID)
 exact z8H (T:=49) zi rfl Go.Proofs.Tryz.sortRow Tryz.isAgg49 (by unfold szOf; exact Tryz.sizeOf49) Tryz.call232 zpx (vNil) (fun c=>fun a b=>zmK a b) zw5
def zUz:Cx ty:=mkCx base 10 [(212,zgO),(232,slices_SortFunc_Lapi_RowID_api_RowID_spec),(233,zmh),(234,zln)] [(232,[true,false]),(234,[true])] [] [] [] []
def zWU (l:yF):Wy0 (yF):=.bn (zfI l) fun r2=>.bn (zhU r2) fun r1=>.bn (ziw r1) fun r0=>.k r0
def zq1 (l:yF):Bool×yF:=(zWU l).fin default
def zRw (r:yF):ARes ty:=⟨[.own 49 r],[]⟩
def zVR:AL base (yF×Unit):=zd (ze (vSl 49)) aNil
def znQ:Ab.Spec ty:=zh zVR fun x=>((zq1 x.1).1,zRw (zq1 x.1).2)
theorem zun:SdP 204 znQ:=
 sW (cx':=zUz) zr zi zk (zj ⟨zlQ,zvm,zpx,zv9,trivial⟩) Tryz.call204 Tryz.func204 (c:=body Tryz.f204) (lOK aN) (sg:=⟨[.own 49],[]⟩)
abbrev zbY:=yF×yF×Unit×yF×Int×Int×Unit
abbrev zcm:=Int⊕(yF×yF)
def zkl (s1:yF) (s2:yF) (t11:yF) (t12:Int) (t13:Int):Wy zbY (Unit) zcm:=.i (decide (t13<t12)) (.i (decide (0≤t13)&&decide (t13<Int.ofNat t11.length)) (.i (decide (t13≥Int.ofNat s2.length)) (.k (.inl 1)) (.i (decide (0≤t13)&&decide (t13<Int.ofNat s2.length)) (.bn (zmK (t11.getD t13.toNat default) (s2.getD t13.toNat default)) fun r0=>.i (r0 != 0) (.k (.inl (r0))) (.h (s1,s2,(),t11,t12,(IntKind.i64.wrap (t13+1)),()) ())) .d)) .d) (.k (.inr (s1,s2)))
def zeM (x:zbY) (y:Unit):Wy zbY (Unit) zcm:=zkl x.1 x.2.1 x.2.2.2.1 x.2.2.2.2.1 x.2.2.2.2.2.1
def zka (n:Nat) (s1:yF) (s2:yF) (t11:yF) (t12:Int) (t13:Int):Bool×zcm:=zF (zeM) (.inl default) n (s1,s2,(),t11,t12,t13,()) ()
def zj2 (r:zcm):LTree ty:=.ite (isL r) (.done .ret [.lit (.int .i64 (getL r))] []) (.done (.exit 0) [.sl 49 (getR r).1,.sl 49 (getR r).2] [])
def zko:LL ty zbY:=za (lSl 49) (za (lSl 49) (za (lFn 233 (zn)) (za (lSl 49) (za lI64 (za lI64 zn)))))
def zj5 (x:zbY) (y:Unit):Nat:=(x.1.length+x.2.1.length+x.2.2.2.1.length+Int.toNat x.2.2.2.2.1+Int.toNat x.2.2.2.2.2.1+1)
def zeL:Cx ty:=mkCx base 39 [(233,zmh)] [] [(2,(kpL [0,1,2,11,12,13]))] [(2,1,(kpL [0,1])),(2,0,(kpL [6]))] [(2,spW zko z6c (zeM) (.inl default) zj2 zj5)] []
theorem zj1:zK zeL (lp (body Tryz.f236) 0):=zu (id:=2) (hl:=rfl)
def zkP (s1:yF) (s2:yF):Wy0 (Int):=.bn (zka (s1.length+s2.length+s1.length+(Int.ofNat s1.length).toNat +Int.toNat 0+1) s1 s2 s1 (Int.ofNat s1.length) 0) fun r2=>.i (isL r2) (.k (getL r2)) (.i (decide (Int.ofNat (getR r2).1.length<Int.ofNat (getR r2).2.length)) (.k (-1:Int)) (.k 0))
def zc7 (s1:yF) (s2:yF):Bool×Int:=(zkP s1 s2).fin default
def zkR:AL base (yF×yF×Unit×Unit):=zd (ze (vSl 49)) (zd (ze (vSl 49)) (zd (ze (vFn 233 vNil)) aNil))
def zeC:Ab.Spec ty:=zh zkR fun x=>((zc7 x.1 x.2.1).1,zN6 (zc7 x.1 x.2.1).2)
theorem zjw:SdP 236 zeC:=
 sW (cx':=zeL) zr zi zk (zj ⟨zpx,trivial⟩) Tryz.call236 Tryz.func236 (c:=body Tryz.f236) (lOK (aC zj1 aN))
def zPK:Cx ty:=mkCx base 8 [(233,zmh),(236,zeC)] [] [] [] [] []
def zRJ (a:yF) (b:yF):Wy0 (Int):=.bn (zc7 a b) fun r0=>.k r0
def zkr (a:yF) (b:yF):Bool×Int:=(zRJ a b).fin default
def zsC:Ab.Spec ty:=zh zAI fun x=>((zkr x.1 x.2.1).1,zN6 (zkr x.1 x.2.1).2)
theorem zAa:SdP 206 zsC:=
 sW (cx':=zPK) zr zi zk (zj ⟨zpx,zjw,trivial⟩) Tryz.call206 Tryz.func206 (c:=body Tryz.f206) (lOK aN)
abbrev zdd:=Unit×Unit×Int×(Nat×Nat)×Int×Unit
abbrev zbw:=yB×Unit
abbrev zer:=Int×yB
abbrev zeq:=Unit×Unit×Int×Unit
abbrev zes:=(Nat×yB)⊕yB
def zuk (k:Int) (s2_0:Nat) (s2_1:Nat) (k2:Int) (s:yB):Wy zdd zbw zer:=.i (decide (k2<Int.ofNat s2_1)) (.i (decide (0≤k2)&&decide (k2<Int.ofNat s2_1)) (.i (decide (0≤IntKind.i64.wrap (k2 - 1))&&decide (IntKind.i64.wrap (k2 - 1)<Int.ofNat s2_1)) (.bn (zw9 (s.getD (s2_0+k2.toNat) default) (s.getD (s2_0+(IntKind.i64.wrap (k2 - 1)).toNat) default)) fun r0=>.i (!r0) (.i (decide (0≤k2)&&decide (k2<Int.ofNat s2_1)) (.i (decide (0≤k)&&decide (k<Int.ofNat s.length)) (.i (decide (k.toNat<s.length)) (.h ((),(),(IntKind.i64.wrap (k+1)),(s2_0,s2_1),(IntKind.i64.wrap (k2+1)),()) ((s.set k.toNat (s.getD (s2_0+k2.toNat) default)),())) .d) .d) .d) (.h ((),(),k,(s2_0,s2_1),(IntKind.i64.wrap (k2+1)),()) (s,()))) .d) .d) (.k (k,s))
def zjz (x:zdd) (y:zbw):Wy zdd zbw zer:=zuk x.2.2.1 x.2.2.2.1.1 x.2.2.2.1.2 x.2.2.2.2.1 y.1
def zuo (n:Nat) (k:Int) (s2_0:Nat) (s2_1:Nat) (k2:Int) (s:yB):Bool×zer:=zF (zjz) default n ((),(),k,(s2_0,s2_1),k2,()) (s,())
def ztP (r:zer):LTree ty:=.done (.exit 2) [.own 264,.lit (.int .i64 r.1)] [.arr 43 r.2 false]
def zuf:LL ty zdd:=za (lOwn 264) (za (lFn 208 (zn)) (za lI64 (za (lSub 264) (za lI64 zn))))
def zup:BL ty zbw:=bArr 43 false (bNil)
def zut (k:Int) (s:yB):Wy zeq zbw zes:=.i (decide (k<Int.ofNat s.length)) (.i (decide (0≤k)&&decide (k<Int.ofNat s.length)) (.i (decide (0≤IntKind.i64.wrap (k - 1))&&decide (IntKind.i64.wrap (k - 1)<Int.ofNat s.length)) (.bn (zw9 (s.getD k.toNat default) (s.getD (IntKind.i64.wrap (k - 1)).toNat default)) fun r3=>.i (r3) (.i (decide (0≤k)&&decide (k≤Int.ofNat s.length)&&decide (Int.ofNat s.length≤Int.ofNat s.length)) (.bn (zuo (k.toNat +k.toNat +((Int.ofNat s.length).toNat - k.toNat)+Int.toNat 1+s.length+1) k k.toNat ((Int.ofNat s.length).toNat - k.toNat) 1 s) fun r2=>.i (decide (0≤r2.1)&&decide (r2.1≤Int.ofNat r2.2.length)&&decide (Int.ofNat r2.2.length≤Int.ofNat r2.2.length)) (.i (decide (r2.1.toNat +((Int.ofNat r2.2.length).toNat - r2.1.toNat)≤r2.2.length)) (.i (decide ((0:Int)≤(0:Int))&&decide (0≤r2.1)&&decide (r2.1≤Int.ofNat (List.take r2.1.toNat r2.2++List.replicate ((Int.ofNat r2.2.length).toNat - r2.1.toNat) []++List.drop (r2.1.toNat +((Int.ofNat r2.2.length).toNat - r2.1.toNat)) r2.2).length)) (.k (.inl (r2.1.toNat - Int.toNat 0,List.take r2.1.toNat r2.2++List.replicate ((Int.ofNat r2.2.length).toNat - r2.1.toNat) []++List.drop (r2.1.toNat +((Int.ofNat r2.2.length).toNat - r2.1.toNat)) r2.2))) .d) .d) .d) .d) (.h ((),(),(IntKind.i64.wrap (k+1)),()) (s,()))) .d) .d) (.k (.inr s))
def zjE (x:zeq) (y:zbw):Wy zeq zbw zes:=zut x.2.2.1 y.1
def zul (n:Nat) (k:Int) (s:yB):Bool×zes:=zF (zjE) (.inl default) n ((),(),k,()) (s,())
def ztU (r:zes):LTree ty:=.ite (isL r) (.done .ret [.sub 264 0 ((getL r).1)] [.arr 43 ((getL r).2) false]) (.done (.exit 0) [.own 264] [.arr 43 (getR r) false])
def zuu:LL ty zeq:=za (lOwn 264) (za (lFn 208 (zn)) (za lI64 zn))
def ztu (x:zdd) (y:zbw):Nat:=(Int.toNat x.2.2.1+x.2.2.2.1.1+x.2.2.2.1.2+Int.toNat x.2.2.2.2.1+y.1.length+1)
def ze0:Cx ty:=mkCx base 66 [(208,zvI)] [] [(4,(kpL [0,1,5])),(9,(kpL [0,1,5,6,7]))] [(4,1,(kpL [0])),(4,0,(kpL [4])),(9,3,(kpL [0,5]))] [(9,spW zuf zup (zjz) default ztP ztu),(4,spW zuu zup (zjE) (.inl default) ztU fun x y=>(Int.toNat x.2.2.1+y.1.length+1))] []
theorem ztK:zK ze0 (lp (body Tryz.f207) 1):=zu (id:=9) (hl:=rfl)
theorem zts:zK ze0 (lp (body Tryz.f207) 0):=zu (id:=4) (hl:=rfl)
def zuL (s:yB):Wy0 (yB):=.i (decide (Int.ofNat s.length<2)) (.k s) (.bn (zul (Int.toNat 1+s.length+1) 1 s) fun r6=>.i (isL r6) (.k (List.take (getL r6).1 (getL r6).2)) (.k (getR r6)))
def zfO (s:yB):Bool×yB:=(zuL s).fin default
def zt6 (r:yB):ARes ty:=⟨[.own 43 r],[none]⟩
def zuM:AL base (yB×Unit×Unit):=zd (aOwn 43) (zd (ze (vFn 208 vNil)) aNil)
def ziI:Ab.Spec ty:=zh zuM fun x=>((zfO x.1).1,zt6 (zfO x.1).2)
theorem zsm:SdP 207 ziI:=
 sW (cx':=ze0) zr zi zk (zj ⟨zBG,trivial⟩) Tryz.call207 Tryz.func207 (c:=body Tryz.f207) (lOK (aC zts (aC ztK aN))) (sg:=⟨[.own 43],[false]⟩)
def zgR (x:yB):Bool×yB:=zzu (fun a b=>zkr a b) x
def slices_SortFunc_LLapi_RowID_Lapi_RowID_spec:Ab.Spec ty:=zh (cx:=base) (zd (aOwn 43) (zd (ze (vFn 206 (vNil))) aNil)) fun x=>((zgR x.1).1,⟨[],[some ⟨43,(zgR x.1).2⟩]⟩)
theorem zvX (c:Unit) (x y:(yF)) (h:(zkr x y).1=true):zsC (((.sl 49 x:AV ty)::(.sl 49 y:AV ty)::(vNil:VL base (Unit)).enc c).map Arg.pure)=some (true,⟨[.pure (.lit (.int .i64 (zkr x y).2))],[]⟩):=by
 rw [← h]; kernel_rfl
theorem zt9:SdP 205 slices_SortFunc_LLapi_RowID_Lapi_RowID_spec:=by
 letI:DecidableEq (ty 43):=inferInstanceAs (DecidableEq (yF))
 exact z8M (T:=43) zi rfl Go.Proofs.Tryz.sortSet (fun x:(yF)=>(.sl 49 x:AV ty)) (fun _=>rfl) Tryz.call205 zAa (vNil) (fun c=>fun a b=>zkr a b) zvX
abbrev zqE:=Unit×yB×Int×Int×Unit
abbrev zmD:=yB×Unit
abbrev zrv:=yB
def z0T (t6:yB) (t7:Int) (t8:Int) (out_:yB):Wy zqE zmD zrv:=.i (decide (t8<t7)) (.i (decide (0≤t8)&&decide (t8<Int.ofNat t6.length)) (.bn (zq1 (t6.getD t8.toNat default)) fun r0=>.i (decide ((out_.length+[r0].length)*24≤reach)) (.h ((),t6,t7,(IntKind.i64.wrap (t8+1)),()) ((out_++[r0]),())) .d) .d) (.k out_)
def zMs (x:zqE) (y:zmD):Wy zqE zmD zrv:=z0T x.2.1 x.2.2.1 x.2.2.2.1 y.1
def z0k (n:Nat) (t6:yB) (t7:Int) (t8:Int) (out_:yB):Bool×yB:=zF (zMs) default n ((),t6,t7,t8,()) (out_,())
def zZc (r:zrv):LTree ty:=.done (.exit 0) [.own 88] [.arr 43 r false]
def z0K:LL ty zqE:=za (lOwn 88) (za (lSl 43) (za lI64 (za lI64 zn)))
def zZV:BL ty zmD:=bArr 43 false (bNil)
def zY6 (x:zqE) (y:zmD):Nat:=(x.2.1.length+Int.toNat x.2.2.1+Int.toNat x.2.2.2.1+y.1.length+1)
def zLC:Cx ty:=mkCx base 22 [(204,znQ),(205,slices_SortFunc_LLapi_RowID_Lapi_RowID_spec),(206,zsC),(207,ziI),(208,zvI)] [(205,[true,false]),(207,[true,false])] [(3,[(3,.own 43),(6,.keep),(7,.keep),(8,.keep)])] [(3,1,(kpL [3]))] [(3,spW z0K zZV (zMs) default zZc zY6)] []
theorem zYr:zK zLC (lp (body Tryz.f170) 0):=zu (id:=3) (hl:=rfl)
def z1G (l:yB):Wy0 zrv:=.bn (z0k (l.length+(Int.ofNat l.length).toNat +Int.toNat 0+0+1) l (Int.ofNat l.length) 0 []) fun r4=>.bn (zgR r4) fun r3=>.bn (zfO r3) fun r2=>.k r2
def zB8 (l:yB):Bool×yB:=(z1G l).fin default
def zX6 (r:zrv):ARes ty:=⟨[.own 43 r],[]⟩
def z2i:AL base zmD:=zd (ze (vSl 43)) aNil
def zzZ:Ab.Spec ty:=zh z2i fun x=>((zB8 x.1).1,zX6 (zB8 x.1).2)
theorem zEP:SdP 170 zzZ:=
 sW (cx':=zLC) zr zi zk (zj ⟨zun,zt9,zAa,zsm,zBG,trivial⟩) Tryz.call170 Tryz.func170 (c:=body Tryz.f170) (lOK (aC zYr aN)) (sg:=⟨[.own 43],[]⟩)
abbrev zeD:=yF×Unit×Int×Int×Unit
def zAb (s:yF) (t7:Int) (t8:Int) (v:RowID):Wy zeD (RowID×Unit) (Int⊕Unit):=.i (decide (t8<t7)) (.i (decide (0≤t8)&&decide (t8<Int.ofNat s.length)) (.i (v.Table==(s.getD t8.toNat default).Table&&(v.Seq==(s.getD t8.toNat default).Seq&&true)) (.k (.inl t8)) (.h (s,(),t7,(IntKind.i64.wrap (t8+1)),()) (v,()))) .d) (.k (.inr ()))
def znv (x:zeD) (y:RowID×Unit):Wy zeD (RowID×Unit) (Int⊕Unit):=zAb x.1 x.2.2.1 x.2.2.2.1 y.1
def zz5 (n:Nat) (s:yF) (t7:Int) (t8:Int) (v:RowID):Bool×(Int⊕Unit):=zF (znv) (.inl default) n (s,(),t7,t8,()) (v,())
def zzv:LL ty zeD:=za (lSl 49) (za (zeJ 76 0) (za lI64 (za lI64 zn)))
def zz4:BL ty (RowID×Unit):=bBox (zfl (fun x=>(⟨x.1,x.2.1⟩:RowID)) (fun x=>(x.Table,x.Seq,())) (fun _=>rfl) (za (lInt .i64) (za (lInt .i64) zn))) false (bNil)
def zzp (x:zeD) (y:RowID×Unit):Nat:=(x.1.length+Int.toNat x.2.2.1+Int.toNat x.2.2.2.1+1)
def znr:Cx ty:=mkCx base 19 [] [] [(2,(kpL [0,3,7,8]))] [(2,1,[]),(2,0,(kpL [4]))] [(2,spW zzv zz4 (znv) (.inl default) zs2 zzp)] []
theorem zzi:zK znr (lp (body Tryz.f261) 0):=zu (id:=2) (hl:=rfl)
def zAV (s:yF) (v:RowID):Wy0 (Int):=.bn (zz5 (s.length+(Int.ofNat s.length).toNat +Int.toNat 0+1) s (Int.ofNat s.length) 0 v) fun r0=>.i (isL r0) (.k (getL r0)) (.k (-1:Int))
def zjR (s:yF) (v:RowID):Bool×Int:=(zAV s v).fin default
def zAD:AL base (yF×RowID×Unit):=zd (ze (vSl 49)) (zd (ze (vAgg 49)) aNil)
def zmw:Ab.Spec ty:=zh zAD fun x=>((zjR x.1 x.2.1).1,zN6 (zjR x.1 x.2.1).2)
theorem zxK:SdP 261 zmw:=
 sW (cx':=znr) zr zi zk (zj trivial) Tryz.call261 Tryz.func261 (c:=body Tryz.f261) (lOK (aC zzi aN))
def zx5:Cx ty:=mkCx base 9 [(261,zmw)] [] [] [] [] []
def zyr (s:yF) (v:RowID):Wy0 (Bool):=.bn (zjR s v) fun r0=>.k (decide (r0≥0))
def zhZ (s:yF) (v:RowID):Bool×Bool:=(zyr s v).fin default
def zkS:Ab.Spec ty:=zh zAD fun x=>((zhZ x.1 x.2.1).1,zTU (zhZ x.1 x.2.1).2)
theorem zvc:SdP 239 zkS:=
 sW (cx':=zx5) zr zi zk (zj ⟨zxK,trivial⟩) Tryz.call239 Tryz.func239 (c:=body Tryz.f239) (lOK aN)
def zW1:Cx ty:=mkCx base 7 [(239,zkS)] [] [] [] [] []
def zYA (id:RowID) (p1:yF):Wy0 (Bool):=.bn (zhZ p1 id) fun r0=>.k r0
def zy7 (id:RowID) (p1:yF):Bool×Bool:=(zYA id p1).fin default
def zYL:AL base (RowID×(yF×Unit)×Unit):=zd (ze (vAgg 49)) (zd (ze (vBox (zdH (vSl 49) vNil))) aNil)
def zpj:Ab.Spec ty:=zh zYL fun x=>((zy7 x.1 x.2.1.1).1,zTU (zy7 x.1 x.2.1.1).2)
theorem zvj:SdP 238 zpj:=
 sW (cx':=zW1) zr zi zk (zj ⟨zvc,trivial⟩) Tryz.call238 Tryz.func238 (c:=body Tryz.f238) (lOK aN)
abbrev zdX:=yF×((yF×Unit)×Unit)×Int×Int×Unit
def zwQ (s:yF) (f:yF) (t7:Int) (t8:Int):Wy zdX (Unit) (Int⊕Unit):=.i (decide (t8<t7)) (.i (decide (0≤t8)&&decide (t8<Int.ofNat s.length)) (.bn (zy7 (s.getD t8.toNat default) f) fun r0=>.i (r0) (.k (.inl t8)) (.h (s,((f,()),()),t7,(IntKind.i64.wrap (t8+1)),()) ())) .d) (.k (.inr ()))
def zli (x:zdX) (y:Unit):Wy zdX (Unit) (Int⊕Unit):=zwQ x.1 x.2.1.1.1 x.2.2.1 x.2.2.2.1
def zw2 (n:Nat) (s:yF) (f:yF) (t7:Int) (t8:Int):Bool×(Int⊕Unit):=zF (zli) (.inl default) n (s,((f,()),()),t7,t8,()) ()
def zxb:LL ty zdX:=za (lSl 49) (za (lFn 238 (za (znd (za (lSl 49) zn) 0) zn)) (za lI64 (za lI64 zn)))
def zwe (x:zdX) (y:Unit):Nat:=(x.1.length+x.2.1.1.1.length+Int.toNat x.2.2.1+Int.toNat x.2.2.2.1+1)
def zlt:Cx ty:=mkCx base 19 [(238,zpj)] [] [(2,(kpL [0,1,7,8]))] [(2,1,[]),(2,0,(kpL [4]))] [(2,spW zxb z6c (zli) (.inl default) zs2 zwe)] []
theorem zv3:zK zlt (lp (body Tryz.f260) 0):=zu (id:=2) (hl:=rfl)
def zxz (s:yF) (f:yF):Wy0 (Int):=.bn (zw2 (s.length+f.length+(Int.ofNat s.length).toNat +Int.toNat 0+1) s f (Int.ofNat s.length) 0) fun r2=>.i (isL r2) (.k (getL r2)) (.k (-1:Int))
def zhb (s:yF) (f:yF):Bool×Int:=(zxz s f).fin default
def zxX:AL base (yF×((yF×Unit)×Unit)×Unit):=zd (ze (vSl 49)) (zd (ze (vFn 238 (zdH (vBox (zdH (vSl 49) vNil)) vNil))) aNil)
def zkw:Ab.Spec ty:=zh zxX fun x=>((zhb x.1 x.2.1.1.1).1,zN6 (zhb x.1 x.2.1.1.1).2)
theorem zuO:SdP 260 zkw:=
 sW (cx':=zlt) zr zi zk (zj ⟨zvj,trivial⟩) Tryz.call260 Tryz.func260 (c:=body Tryz.f260) (lOK (aC zv3 aN))
abbrev zdL:=Unit×((yF×Unit)×Unit)×Int×Int×Unit
abbrev zdK:=yF×Unit
abbrev zeR:=Int×yF
def zv7 (del:yF) (i:Int) (j:Int) (s:yF):Wy zdL zdK zeR:=.i (decide (j<Int.ofNat s.length)) (.i (decide (0≤j)&&decide (j<Int.ofNat s.length)) (.bn (zy7 (s.getD j.toNat default) del) fun r0=>.i (!r0) (.i (decide (0≤i)&&decide (i<Int.ofNat s.length)) (.i (decide (i.toNat<s.length)) (.h ((),((del,()),()),(IntKind.i64.wrap (i+1)),(IntKind.i64.wrap (j+1)),()) ((s.set i.toNat (s.getD j.toNat default)),())) .d) .d) (.h ((),((del,()),()),i,(IntKind.i64.wrap (j+1)),()) (s,()))) .d) (.k (i,s))
def zkW (x:zdL) (y:zdK):Wy zdL zdK zeR:=zv7 x.2.1.1.1 x.2.2.1 x.2.2.2.1 y.1
def zwc (n:Nat) (del:yF) (i:Int) (j:Int) (s:yF):Bool×zeR:=zF (zkW) default n ((),((del,()),()),i,j,()) (s,())
def zu0 (r:zeR):LTree ty:=.done (.exit 0) [.own 168,.lit (.int .i64 r.1)] [.arr 49 r.2 false]
def zv1:LL ty zdL:=za (lOwn 168) (za (lFn 238 (za (znd (za (lSl 49) zn) 0) zn)) (za lI64 (za lI64 zn)))
def zwb:BL ty zdK:=bArr 49 false (bNil)
def zve (x:zdL) (y:zdK):Nat:=(x.2.1.1.1.length+Int.toNat x.2.2.1+Int.toNat x.2.2.2.1+y.1.length+1)
def zkT:Cx ty:=mkCx base 42 [(238,zpj),(260,zkw)] [] [(5,(kpL [0,1,5,6]))] [(5,1,(kpL [0,5]))] [(5,spW zv1 zwb (zkW) default zu0 zve)] []
theorem zvO:zK zkT (lp (body Tryz.f237) 0):=zu (id:=5) (hl:=rfl)
def zwE (s:yF) (del:yF):Wy0 (yF):=.bn (zhb s del) fun r3=>.i (r3==(-1:Int)) (.k s) (.bn (zwc (del.length+r3.toNat +(IntKind.i64.wrap (r3+1)).toNat +s.length+1) del r3 (IntKind.i64.wrap (r3+1)) s) fun r2=>.i (decide (0≤r2.1)&&decide (r2.1≤Int.ofNat r2.2.length)&&decide (Int.ofNat r2.2.length≤Int.ofNat r2.2.length)) (.i (decide (r2.1.toNat +((Int.ofNat r2.2.length).toNat - r2.1.toNat)≤r2.2.length)) (.i (decide ((0:Int)≤(0:Int))&&decide (0≤r2.1)&&decide (r2.1≤Int.ofNat (List.take r2.1.toNat r2.2++List.replicate ((Int.ofNat r2.2.length).toNat - r2.1.toNat) (RowID.mk 0 0)++List.drop (r2.1.toNat +((Int.ofNat r2.2.length).toNat - r2.1.toNat)) r2.2).length)) (.k (List.take (r2.1.toNat - Int.toNat 0) (List.take r2.1.toNat r2.2++List.replicate ((Int.ofNat r2.2.length).toNat - r2.1.toNat) (RowID.mk 0 0)++List.drop (r2.1.toNat +((Int.ofNat r2.2.length).toNat - r2.1.toNat)) r2.2))) .d) .d) .d)
def zgP (s:yF) (del:yF):Bool×yF:=(zwE s del).fin default
def zwG:AL base (yF×((yF×Unit)×Unit)×Unit):=zd (aOwn 49) (zd (ze (vFn 238 (zdH (vBox (zdH (vSl 49) vNil)) vNil))) aNil)
def zjZ:Ab.Spec ty:=zh zwG fun x=>((zgP x.1 x.2.1.1.1).1,zxA (zgP x.1 x.2.1.1.1).2)
theorem zuz:SdP 237 zjZ:=
 sW (cx':=zkT) zr zi zk (zj ⟨zvj,zuO,trivial⟩) Tryz.call237 Tryz.func237 (c:=body Tryz.f237) (lOK (aC zvO aN)) (sg:=⟨[.own 49],[false]⟩)
def z3d:Cx ty:=mkCx base 11 [(204,znQ),(237,zjZ),(238,zpj)] [(237,[true,false])] [] [] [] []
def z4L (a:yF) (b:yF):Wy0 (yF):=.bn (zq1 a) fun r1=>.bn (zgP r1 b) fun r0=>.k r0
def zKJ (a:yF) (b:yF):Bool×yF:=(z4L a b).fin default
def zJc:Ab.Spec ty:=zh zAI fun x=>((zKJ x.1 x.2.1).1,zRw (zKJ x.1 x.2.1).2)
theorem zV4:SdP 210 zJc:=
 sW (cx':=z3d) zr zi zk (zj ⟨zun,zuz,zvj,trivial⟩) Tryz.call210 Tryz.func210 (c:=body Tryz.f210) (lOK aN) (sg:=⟨[.own 49],[]⟩)
def zZW:Cx ty:=mkCx base 10 [(210,zJc)] [] [] [] [] []
def z1u (a:yF) (b:yF):Wy0 (Bool):=.bn (zKJ a b) fun r0=>.k (Int.ofNat r0.length==0)
def zH1 (a:yF) (b:yF):Bool×Bool:=(z1u a b).fin default
def zHF:Ab.Spec ty:=zh zAI fun x=>((zH1 x.1 x.2.1).1,zTU (zH1 x.1 x.2.1).2)
theorem zTT:SdP 172 zHF:=
 sW (cx':=zZW) zr zi zk (zj ⟨zV4,trivial⟩) Tryz.call172 Tryz.func172 (c:=body Tryz.f172) (lOK aN)
def zR6:Cx ty:=mkCx base 17 [(172,zHF)] [] [] [] [] []
def zTL (k:Int) (p1:Int) (p2:yB) (p3:yF):Wy0 (Bool):=.i (k != p1) (.i (decide (0≤k)&&decide (k<Int.ofNat p2.length)) (.bn (zH1 (p2.getD k.toNat default) p3) fun r0=>.k r0) .d) (.k false)
def zBh (k:Int) (p1:Int) (p2:yB) (p3:yF):Bool×Bool:=(zTL k p1 p2 p3).fin default
def zTG:AL base (Int×(Int×Unit)×(yB×Unit)×(yF×Unit)×Unit):=zd (ze vI64) (zd (ze (vBox (zdH vI64 vNil))) (zd (ze (vBox (zdH (vSl 43) vNil))) (zd (ze (vBox (zdH (vSl 49) vNil))) aNil)))
def zm2:Ab.Spec ty:=zh zTG fun x=>((zBh x.1 x.2.1.1 x.2.2.1.1 x.2.2.2.1.1).1,zTU (zBh x.1 x.2.1.1 x.2.2.1.1 x.2.2.2.1.1).2)
theorem zsY:SdP 171 zm2:=
 sW (cx':=zR6) zr zi zk (zj ⟨zTT,trivial⟩) Tryz.call171 Tryz.func171 (c:=body Tryz.f171) (lOK aN)
abbrev zo1:=Unit×Int×Int×Unit
abbrev zoR:=List Int×Unit
def zYf (t8:Int) (t9:Int) (out_:List Int):Wy zo1 zoR (List Int):=.i (decide (t9<t8)) (.i (decide (0≤t9)&&decide (t9<Int.ofNat out_.length)) (.i (decide (t9.toNat<out_.length)) (.h ((),t8,(IntKind.i64.wrap (t9+1)),()) ((out_.set t9.toNat t9),())) .d) .d) (.k out_)
def zIY (x:zo1) (y:zoR):Wy zo1 zoR (List Int):=zYf x.2.1 x.2.2.1 y.1
def zX1 (n:Nat) (t8:Int) (t9:Int) (out_:List Int):Bool×List Int:=zF (zIY) default n ((),t8,t9,()) (out_,())
def zWb (r:List Int):LTree ty:=.done (.exit 0) [.own 72] [.arr 3 r false]
def zYQ:LL ty zo1:=za (lOwn 72) (za lI64 (za lI64 zn))
def zYh:BL ty zoR:=bArr 3 false (bNil)
def zUM (x:zo1) (y:zoR):Nat:=(Int.toNat x.2.1+Int.toNat x.2.2.1+y.1.length+1)
def zI7:Cx ty:=mkCx base 18 [] [] [(3,(kpL [3,8,9]))] [(3,1,(kpL [3]))] [(3,spW zYQ zYh (zIY) default zWb zUM)] []
theorem zV5:zK zI7 (lp (body Tryz.f174) 0):=zu (id:=3) (hl:=rfl)
def z09 (n_:Int):Wy0 (List Int):=.i (decide (0≤n_)&&decide (n_≤n_)&&decide (n_*Int.ofNat 8≤Int.ofNat reach)&&decide (n_≤Int.ofNat reach)) (.bn (zX1 ((Int.ofNat (List.replicate n_.toNat (0:Int)).length).toNat +Int.toNat 0+(List.replicate n_.toNat (0:Int)).length+1) (Int.ofNat (List.replicate n_.toNat (0:Int)).length) 0 (List.replicate n_.toNat (0:Int))) fun r0=>.k r0) .d
def zFy (n_:Int):Bool×List Int:=(z09 n_).fin default
def zWt (r:List Int):ARes ty:=⟨[.own 3 r],[]⟩
def zEX:Ab.Spec ty:=zh zXR fun x=>((zFy x.1).1,zWt (zFy x.1).2)
theorem zRU:SdP 174 zEX:=
 sW (cx':=zI7) zr zi zk (zj trivial) Tryz.call174 Tryz.func174 (c:=body Tryz.f174) (lOK (aC zV5 aN)) (sg:=⟨[.own 3],[]⟩)
abbrev zgj:=List Int×((Int×Unit)×(yB×Unit)×(yF×Unit)×Unit)×Int×Int×Unit
def zFG (s:List Int) (f_0:Int) (f_1:yB) (f_2:yF) (t7:Int) (t8:Int):Wy zgj (Unit) (Int⊕Unit):=.i (decide (t8<t7)) (.i (decide (0≤t8)&&decide (t8<Int.ofNat s.length)) (.bn (zBh (s.getD t8.toNat default) f_0 f_1 f_2) fun r0=>.i (r0) (.k (.inl t8)) (.h (s,((f_0,()),(f_1,()),(f_2,()),()),t7,(IntKind.i64.wrap (t8+1)),()) ())) .d) (.k (.inr ()))
def zvS (x:zgj) (y:Unit):Wy zgj (Unit) (Int⊕Unit):=zFG x.1 x.2.1.1.1 x.2.1.2.1.1 x.2.1.2.2.1.1 x.2.2.1 x.2.2.2.1
def zFg (n:Nat) (s:List Int) (f_0:Int) (f_1:yB) (f_2:yF) (t7:Int) (t8:Int):Bool×(Int⊕Unit):=zF (zvS) (.inl default) n (s,((f_0,()),(f_1,()),(f_2,()),()),t7,t8,()) ()
def zF7:LL ty zgj:=za (lSl 3) (za (lFn 171 (za (znd (za lI64 zn) 0) (za (znd (za (lSl 43) zn) 0) (za (znd (za (lSl 49) zn) 0) zn)))) (za lI64 (za lI64 zn)))
def zEI (x:zgj) (y:Unit):Nat:=(x.1.length+Int.toNat x.2.1.1.1+x.2.1.2.1.1.length+x.2.1.2.2.1.1.length+Int.toNat x.2.2.1+Int.toNat x.2.2.2.1+1)
def zvx:Cx ty:=mkCx base 19 [(171,zm2)] [] [(2,(kpL [0,1,7,8]))] [(2,1,[]),(2,0,(kpL [4]))] [(2,spW zF7 z6c (zvS) (.inl default) zs2 zEI)] []
theorem zEy:zK zvx (lp (body Tryz.f211) 0):=zu (id:=2) (hl:=rfl)
def zHp (s:List Int) (f_0:Int) (f_1:yB) (f_2:yF):Wy0 (Int):=.bn (zFg (s.length+f_0.toNat +f_1.length+f_2.length+(Int.ofNat s.length).toNat +Int.toNat 0+1) s f_0 f_1 f_2 (Int.ofNat s.length) 0) fun r2=>.i (isL r2) (.k (getL r2)) (.k (-1:Int))
def zpn (s:List Int) (f_0:Int) (f_1:yB) (f_2:yF):Bool×Int:=(zHp s f_0 f_1 f_2).fin default
def zHA:AL base (List Int×((Int×Unit)×(yB×Unit)×(yF×Unit)×Unit)×Unit):=zd (ze (vSl 3)) (zd (ze (vFn 171 (zdH (vBox (zdH vI64 vNil)) (zdH (vBox (zdH (vSl 43) vNil)) (zdH (vBox (zdH (vSl 49) vNil)) vNil))))) aNil)
def ztk:Ab.Spec ty:=zh zHA fun x=>((zpn x.1 x.2.1.1.1 x.2.1.2.1.1 x.2.1.2.2.1.1).1,zN6 (zpn x.1 x.2.1.1.1 x.2.1.2.1.1 x.2.1.2.2.1.1).2)
theorem zDc:SdP 211 ztk:=
 sW (cx':=zvx) zr zi zk (zj ⟨zsY,trivial⟩) Tryz.call211 Tryz.func211 (c:=body Tryz.f211) (lOK (aC zEy aN))
def zDi:Cx ty:=mkCx base 9 [(171,zm2),(211,ztk)] [] [] [] [] []
def zEe (s:List Int) (f_0:Int) (f_1:yB) (f_2:yF):Wy0 (Bool):=.bn (zpn s f_0 f_1 f_2) fun r0=>.k (decide (r0≥0))
def zmG (s:List Int) (f_0:Int) (f_1:yB) (f_2:yF):Bool×Bool:=(zEe s f_0 f_1 f_2).fin default
def zpS:Ab.Spec ty:=zh zHA fun x=>((zmG x.1 x.2.1.1.1 x.2.1.2.1.1 x.2.1.2.2.1.1).1,zTU (zmG x.1 x.2.1.1.1 x.2.1.2.1.1 x.2.1.2.2.1.1).2)
theorem zBq:SdP 173 zpS:=
 sW (cx':=zDi) zr zi zk (zj ⟨zsY,zDc,trivial⟩) Tryz.call173 Tryz.func173 (c:=body Tryz.f173) (lOK aN)
abbrev zoS:=Unit×Unit×Unit×Int×Int×Unit
abbrev zox:=(Unit×Unit)×yB×yB×Unit
abbrev zov:=yB
def zYV (t11:Int) (t12:Int) (out_:yB) (t10:yB):Wy zoS zox zov:=.i (decide (t12<t11)) (.i (decide (0≤t12)&&decide (t12<Int.ofNat t10.length)) (.bn (zFy (Int.ofNat t10.length)) fun r1=>.bn (zmG r1 t12 t10 (t10.getD t12.toNat default)) fun r0=>.i (!r0) (.i (decide ((out_.length+[t10.getD t12.toNat default].length)*24≤reach)) (.h ((),(),(),t11,(IntKind.i64.wrap (t12+1)),()) (((),()),(out_++[t10.getD t12.toNat default]),t10,())) .d) (.h ((),(),(),t11,(IntKind.i64.wrap (t12+1)),()) (((),()),out_,t10,()))) .d) (.k out_)
def zIU (x:zoS) (y:zox):Wy zoS zox zov:=zYV x.2.2.2.1 x.2.2.2.2.1 y.2.1 y.2.2.1
def zYb (n:Nat) (t11:Int) (t12:Int) (out_:yB) (t10:yB):Bool×yB:=zF (zIU) default n ((),(),(),t11,t12,()) (((),()),out_,t10,())
def zW2 (r:zov):LTree ty:=.done (.exit 0) [.own 120] [.arr 43 r false]
def zX3:LL ty zoS:=za (zeJ 120 0) (za (lOwn 121) (za (lOwn 122) (za lI64 (za lI64 zn))))
def zYS:BL ty zox:=bBox (za (lOwn 122) zn) false (bArr 43 false (bArr 43 false (bNil)))
def zV0 (x:zoS) (y:zox):Nat:=(Int.toNat x.2.2.2.1+Int.toNat x.2.2.2.2.1+y.2.1.length+y.2.2.1.length+1)
def zI4:Cx ty:=mkCx base 30 [(170,zzZ),(171,zm2),(173,zpS),(174,zEX)] [] [(4,[(3,.keep),(4,.own 43),(10,.keep),(11,.keep),(12,.keep)])] [(4,1,(kpL [4]))] [(4,spW zX3 zYS (zIU) default zW2 zV0)] []
theorem zVq:zK zI4 (lp (body Tryz.f143) 0):=zu (id:=4) (hl:=rfl)
def z0x (l:yB):Wy0 zov:=.bn (zB8 l) fun r5=>.bn (zYb ((Int.ofNat r5.length).toNat +Int.toNat 0+0+r5.length+1) (Int.ofNat r5.length) 0 [] r5) fun r4=>.k r4
def zvL (l:yB):Bool×yB:=(z0x l).fin default
def zUZ (r:zov):ARes ty:=⟨[.own 43 r],[]⟩
def z1n:AL base (yB×Unit):=zd (ze (vSl 43)) aNil
def zEW:Ab.Spec ty:=zh z1n fun x=>((zvL x.1).1,zUZ (zvL x.1).2)
theorem zRD:SdP 143 zEW:=
 sW (cx':=zI4) zr zi zk (zj ⟨zEP,zsY,zBq,zRU,trivial⟩) Tryz.call143 Tryz.func143 (c:=body Tryz.f143) (lOK (aC zVq aN)) (sg:=⟨[.own 43],[]⟩)
def z28:Cx ty:=mkCx base 10 [(204,znQ),(212,zgO)] [] [] [] [] []
def z4w (a:yF) (b:yF):Wy0 (yF):=.bn (zfI a) fun r1=>.i (decide ((r1.length+b.length)*16≤reach)) (.bn (zq1 (r1++b)) fun r0=>.k r0) .d
def zKH (a:yF) (b:yF):Bool×yF:=(z4w a b).fin default
def zIS:Ab.Spec ty:=zh zAI fun x=>((zKH x.1 x.2.1).1,zRw (zKH x.1 x.2.1).2)
theorem zWH:SdP 175 zIS:=
 sW (cx':=z28) zr zi zk (zj ⟨zun,zlQ,trivial⟩) Tryz.call175 Tryz.func175 (c:=body Tryz.f175) (lOK aN) (sg:=⟨[.own 49],[]⟩)
abbrev zoV:=yB×Unit×yF×yB×Int×Int×yB×Int×Int×Unit
abbrev zeO:=yB×Unit
abbrev zuQ:=yB×yB×Int×Int×yB
abbrev zoZ:=yB×Unit×yB×Int×Int×Unit
abbrev zo0:=yB
def zYu (b:yB) (x_:yF) (t10:yB) (t11:Int) (t12:Int) (t16:yB) (t17:Int) (t18:Int) (out_:yB):Wy zoV zeO zuQ:=.i (decide (t18<t17)) (.i (decide (0≤t18)&&decide (t18<Int.ofNat t16.length)) (.bn (zKH x_ (t16.getD t18.toNat default)) fun r2=>.i (decide ((out_.length+[r2].length)*24≤reach)) (.h (b,(),x_,t10,t11,t12,t16,t17,(IntKind.i64.wrap (t18+1)),()) ((out_++[r2]),())) .d) .d) (.k (b,t10,t11,t12,out_))
def zIR (x:zoV) (y:zeO):Wy zoV zeO zuQ:=zYu x.1 x.2.2.1 x.2.2.2.1 x.2.2.2.2.1 x.2.2.2.2.2.1 x.2.2.2.2.2.2.1 x.2.2.2.2.2.2.2.1 x.2.2.2.2.2.2.2.2.1 y.1
def zX8 (n:Nat) (b:yB) (x_:yF) (t10:yB) (t11:Int) (t12:Int) (t16:yB) (t17:Int) (t18:Int) (out_:yB):Bool×zuQ:=zF (zIR) default n (b,(),x_,t10,t11,t12,t16,t17,t18,()) (out_,())
def zUI (r:zuQ):LTree ty:=.done (.exit 2) [.sl 43 r.1,.own 128,.sl 43 r.2.1,.lit (.int .i64 r.2.2.1),.lit (.int .i64 r.2.2.2.1)] [.arr 43 r.2.2.2.2 false]
def zYD:LL ty zoV:=za (lSl 43) (za (lOwn 128) (za (lSl 49) (za (lSl 43) (za lI64 (za lI64 (za (lSl 43) (za lI64 (za lI64 zn))))))))
def zYe:BL ty zeO:=bArr 43 false (bNil)
def zYw (b:yB) (t10:yB) (t11:Int) (t12:Int) (out_:yB):Wy zoZ zeO zo0:=.i (decide (t12<t11)) (.i (decide (0≤t12)&&decide (t12<Int.ofNat t10.length)) (.bn (zX8 (b.length+List.length (t10.getD t12.toNat default)+t10.length+t11.toNat +t12.toNat +b.length+(Int.ofNat b.length).toNat +Int.toNat 0+out_.length+1) b (t10.getD t12.toNat default) t10 t11 t12 b (Int.ofNat b.length) 0 out_) fun r4=>.h ((r4.1),(),(r4.2.1),(r4.2.2.1),(IntKind.i64.wrap (r4.2.2.2.1+1)),()) ((r4.2.2.2.2),())) .d) (.k out_)
def zIW (x:zoZ) (y:zeO):Wy zoZ zeO zo0:=zYw x.1 x.2.2.1 x.2.2.2.1 x.2.2.2.2.1 y.1
def zYE (n:Nat) (b:yB) (t10:yB) (t11:Int) (t12:Int) (out_:yB):Bool×yB:=zF (zIW) default n (b,(),t10,t11,t12,()) (out_,())
def zU9 (r:zo0):LTree ty:=.done (.exit 0) [.own 128] [.arr 43 r false]
def zX2:LL ty zoZ:=za (lSl 43) (za (lOwn 128) (za (lSl 43) (za lI64 (za lI64 zn))))
def zVr (x:zoV) (y:zeO):Nat:=(x.1.length+x.2.2.1.length+x.2.2.2.1.length+Int.toNat x.2.2.2.2.1+Int.toNat x.2.2.2.2.2.1+x.2.2.2.2.2.2.1.length+Int.toNat x.2.2.2.2.2.2.2.1+Int.toNat x.2.2.2.2.2.2.2.2.1+y.1.length+1)
def zWv (x:zoZ) (y:zeO):Nat:=(x.1.length+x.2.2.1.length+Int.toNat x.2.2.2.1+Int.toNat x.2.2.2.2.1+y.1.length+1)
def zBl:Cx ty:=mkCx base 32 [(170,zzZ),(175,zIS)] [] [(3,[(1,.keep),(5,.own 43),(10,.keep),(11,.keep),(12,.keep)]),(6,[(1,.keep),(5,.own 43),(7,.keep),(10,.keep),(11,.keep),(12,.keep),(16,.keep),(17,.keep),(18,.keep)])] [(3,1,(kpL [5])),(6,3,(kpL [1,5,10,11,12]))] [(6,spW zYD zYe (zIR) default zUI zVr),(3,spW zX2 zYe (zIW) default zU9 zWv)] []
theorem zVh:zK zBl (lp (body Tryz.f144) 1):=zu (id:=6) (hl:=rfl)
theorem zVi:zK zBl (lp (body Tryz.f144) 0):=zu (id:=3) (hl:=rfl)
def z1q (a:yB) (b:yB):Wy0 zo0:=.bn (zYE (b.length+a.length+(Int.ofNat a.length).toNat +Int.toNat 0+0+1) b a (Int.ofNat a.length) 0 []) fun r7=>.bn (zB8 r7) fun r6=>.k r6
def zAB (a:yB) (b:yB):Bool×yB:=(z1q a b).fin default
def zWp (r:zo0):ARes ty:=⟨[.own 43 r],[]⟩
def zZ3:AL base (yB×yB×Unit):=zd (ze (vSl 43)) (zd (ze (vSl 43)) aNil)
def zE7:Ab.Spec ty:=zh zZ3 fun x=>((zAB x.1 x.2.1).1,zWp (zAB x.1 x.2.1).2)
theorem zRN:SdP 144 zE7:=
 sW (cx':=zBl) zr zi zk (zj ⟨zEP,zWH,trivial⟩) Tryz.call144 Tryz.func144 (c:=body Tryz.f144) (lOK (aC zVi (aC zVh aN))) (sg:=⟨[.own 43],[]⟩)
abbrev ziQ:=Unit×Unit×yC×Int×Int×yD×Int×Int×Unit
abbrev ziM:=yB×yB×Unit
abbrev zma:=yC×Int×Int×yB×yB
abbrev zi3:=Unit×yC×Int×Int×Unit
abbrev ziY:=yB×Unit
abbrev zmb:=yB
def zJI (zP:yC→Bool×yB) (t10:yC) (t11:Int) (t12:Int) (t19:yD) (t20:Int) (t21:Int) (all:yB) (sets:yB):Wy ziQ ziM zma:=.i (decide (t21<t20)) (.i (decide (0≤t21)&&decide (t21<Int.ofNat t19.length)) (.i ((t19.getD t21.toNat default).Atom.Kind==2) (.i (decide ((0:Int)≤(0:Int))&&decide (0<Int.ofNat (t19.getD t21.toNat default).Atom.Args.length)) (.bn (zP ((t19.getD t21.toNat default).Atom.Args.getD (Int.toNat 0) default)) fun r12=>.bn (zAB sets r12) fun r11=>.bn (zvL r11) fun r10=>.h ((),(),t10,t11,t12,t19,t20,(IntKind.i64.wrap (t21+1)),()) (all,(r10),())) .d) (.bn (zAB sets [[(t19.getD t21.toNat default).Atom.Row]]) fun r14=>.bn (zvL r14) fun r13=>.h ((),(),t10,t11,t12,t19,t20,(IntKind.i64.wrap (t21+1)),()) (all,(r13),()))) .d) (.k (t10,t11,t12,all,sets))
def zy1 (zP:yC→Bool×yB) (x:ziQ) (y:ziM):Wy ziQ ziM zma:=zJI zP x.2.2.1 x.2.2.2.1 x.2.2.2.2.1 x.2.2.2.2.2.1 x.2.2.2.2.2.2.1 x.2.2.2.2.2.2.2.1 y.1 y.2.1
def zJG (zP:yC→Bool×yB) (n:Nat) (t10:yC) (t11:Int) (t12:Int) (t19:yD) (t20:Int) (t21:Int) (all:yB) (sets:yB):Bool×zma:=zF (zy1 zP) default n ((),(),t10,t11,t12,t19,t20,t21,()) (all,sets,())
def zHM (r:zma):LTree ty:=.done (.exit 2) [.own 204,.own 205,.sl 28 r.1,.lit (.int .i64 r.2.1),.lit (.int .i64 r.2.2.1)] [.arr 43 r.2.2.2.1 false,.arr 43 r.2.2.2.2 false]
def zJu:LL ty ziQ:=za (lOwn 204) (za (lOwn 205) (za (lSl 28) (za lI64 (za lI64 (za (lSl 69) (za lI64 (za lI64 zn)))))))
def zJi:BL ty ziM:=bArr 43 false (bArr 43 false (bNil))
def zJF (zP:yC→Bool×yB) (t10:yC) (t11:Int) (t12:Int) (all:yB):Wy zi3 ziY zmb:=.i (decide (t12<t11)) (.i (decide (0≤t12)&&decide (t12<Int.ofNat t10.length)) (.bn (zJG zP (t10.length+t11.toNat +t12.toNat +(t10.getD t12.toNat default).Factors.length+(Int.ofNat (t10.getD t12.toNat default).Factors.length).toNat +Int.toNat 0+all.length+1+1000) t10 t11 t12 (t10.getD t12.toNat default).Factors (Int.ofNat (t10.getD t12.toNat default).Factors.length) 0 all [[]]) fun r20=>.i (decide ((r20.2.2.2.1.length+r20.2.2.2.2.length)*24≤reach)) (.h ((),(r20.1),(r20.2.1),(IntKind.i64.wrap (r20.2.2.1+1)),()) ((r20.2.2.2.1++r20.2.2.2.2),())) .d) .d) (.k all)
def zy3 (zP:yC→Bool×yB) (x:zi3) (y:ziY):Wy zi3 ziY zmb:=zJF zP x.2.1 x.2.2.1 x.2.2.2.1 y.1
def zJ3 (zP:yC→Bool×yB) (n:Nat) (t10:yC) (t11:Int) (t12:Int) (all:yB):Bool×yB:=zF (zy3 zP) default n ((),t10,t11,t12,()) (all,())
def zIb (r:zmb):LTree ty:=.done (.exit 0) [.own 204] [.arr 43 r false]
def zJ5:LL ty zi3:=za (lOwn 204) (za (lSl 28) (za lI64 (za lI64 zn)))
def zJ7:BL ty ziY:=bArr 43 false (bNil)
def zIL (x:ziQ) (y:ziM):Nat:=(x.2.2.1.length+Int.toNat x.2.2.2.1+Int.toNat x.2.2.2.2.1+x.2.2.2.2.2.1.length+Int.toNat x.2.2.2.2.2.2.1+Int.toNat x.2.2.2.2.2.2.2.1+y.1.length+y.2.1.length+1000)
def zIy (x:zi3) (y:ziY):Nat:=(x.2.1.length+Int.toNat x.2.2.1+Int.toNat x.2.2.2.1+y.1.length+1000)
def zpv (zP:yC→Bool×yB):Cx ty:=mkCx base 51 [(74,(zjC zP)),(143,zEW),(144,zE7)] [] [(3,[(3,.own 43),(10,.keep),(11,.keep),(12,.keep)]),(7,(kpL [3,6,10,11,12,19,20,21]))] [(3,1,(kpL [3])),(7,3,(kpL [3,6,10,11,12]))] [(7,spW zJu zJi (zy1 zP) default zHM zIL),(3,spW zJ5 zJ7 (zy3 zP) default zIb zIy)] []
theorem zHJ (zP:yC→Bool×yB):zK (zpv zP) (lp (body Tryz.f74) 1):=zu (id:=7) (hl:=rfl)
theorem zH4 (zP:yC→Bool×yB):zK (zpv zP) (lp (body Tryz.f74) 0):=zu (id:=3) (hl:=rfl)
def zK2 (zP:yC→Bool×yB) (a:yC):Wy0 zmb:=.bn (zJ3 zP (a.length+(Int.ofNat a.length).toNat +Int.toNat 0+0+1000) a (Int.ofNat a.length) 0 []) fun r23=>.bn (zvL r23) fun r22=>.k r22
def zBN (zP:yC→Bool×yB) (a:yC):Bool×yB:=(zK2 zP a).fin default
theorem zFu (zP:yC→Bool×yB) (zLl:SdP 74 (zjC zP)):SdP 74 (zjC (zBN zP)):=
 sW (cx':=(zpv zP)) zr zi zk (zj ⟨zLl,zRD,zRN,trivial⟩) Tryz.call74 Tryz.func74 (c:=body Tryz.f74) (lOK (aC (zH4 zP) (aC (zHJ zP) aN))) (sg:=⟨[.own 43],[]⟩)
def zTx:Nat→(yC→Bool×yB)
 | 0=>fun _=>(false,default)
 | n+1=>zBN (zTx n)
def zBR (n:Nat):yC→Bool×yB:=zTx n
theorem zNY:∀ n,SdP 74 (zjC (zBR n))
 | 0=>z6 Tryz.call74 (fun _=>rfl)
 | n+1=>by
  have ih:=zNY n;exact zFu _ (ih)
def zEt:yC→Bool×yB:=zBR 1000
def absorption_witnesses_spec:Ab.Spec ty:=zjC zEt
theorem zIC:SdP 74 absorption_witnesses_spec:=(zNY 1000)
def zMH:Cx ty:=mkCx base 17 [(20,annotation_Valid_spec),(73,absorption_explained_spec),(74,absorption_witnesses_spec)] [] [] [] [] []
def zOY (a:yC):Wy0 (yB×Int):=.bn (zbU a) fun r2=>.i (!r2) (.k ([],1)) (.bn (zDK a) fun r1=>.i (!r1) (.k ([],13)) (.bn (zEt a) fun r0=>.i (decide (Int.ofNat r0.length>512)) (.k ([],6)) (.k (r0,0))))
def zEw (a:yC):Bool×(yB×Int):=(zOY a).fin default
def zL3 (r:yB×Int):ARes ty:=⟨[.own 43 r.1,.pure (.lit (.int .i64 r.2))],[]⟩
def zy4:Ab.Spec ty:=zh zU2 fun x=>((zEw x.1).1,zL3 (zEw x.1).2)
theorem zHS:SdP 24 zy4:=
 sW (cx':=zMH) zr zi zk (zj ⟨zb9,zHW,zIC,trivial⟩) Tryz.call24 Tryz.func24 (c:=body Tryz.f24) (lOK aN) (sg:=⟨[.own 43,.pure],[]⟩)
def z6p:Cx ty:=mkCx base 8 [] [] [] [] [] []
def zWS (x_:Atom):Wy0 (yC):=.k [TermOf.mk 1 [FactorOf.mk (Atom.mk x_.Kind x_.Row x_.Args x_.Func x_.Items x_.Op x_.Bound) 1]]
def zm4 (x_:Atom):Bool×yC:=(zWS x_).fin default
def zDC:Ab.Spec ty:=zh zBK fun x=>((zm4 x.1).1,zO1 (zm4 x.1).2)
theorem zKx:SdP 102 zDC:=
 sW (cx':=z6p) zr zi zk (zj trivial) Tryz.call102 Tryz.func102 (c:=body Tryz.f102) (lOK aN) (sg:=⟨[.own 28],[]⟩)
def z62:Cx ty:=mkCx base 14 [(102,zDC)] [] [] [] [] []
def zZK (id:RowID):Wy0 (yC):=.i (decide (id.Table<1)) (.k []) (.i (decide (id.Seq<1)) (.k []) (.k ((zm4 (Atom.mk 0 id [] 0 [] 0 (Value.mk 0 0 (ByteArray.mk #[])))).2)))
def zC6 (id:RowID):Bool×yC:=(zZK id).fin default
def zQ5:Ab.Spec ty:=zh z4J fun x=>((zC6 x.1).1,zO1 (zC6 x.1).2)
theorem z2d:SdP 98 zQ5:=
 sW (cx':=z62) zr zi zk (zj ⟨zKx,trivial⟩) Tryz.call98 Tryz.func98 (c:=body Tryz.f98) (lOK aN) (sg:=⟨[.own 28],[]⟩)
def zYN:Cx ty:=mkCx base 6 [(98,zQ5)] [] [] [] [] []
def z0V (seq:Int):Wy0 (yC):=.bn (zC6 (RowID.mk 1 seq)) fun r0=>.k r0
def zQE (seq:Int):Bool×yC:=(z0V seq).fin default
def zE6:Ab.Spec ty:=zh zXR fun x=>((zQE x.1).1,zO1 (zQE x.1).2)
theorem zSm:SdP 44 zE6:=
 sW (cx':=zYN) zr zi zk (zj ⟨z2d,trivial⟩) Tryz.call44 Tryz.func44 (c:=body Tryz.f44) (lOK aN) (sg:=⟨[.own 28],[]⟩)
def z4j:Cx ty:=mkCx base 9 [] [] [] [] [] []
def zTp (n_:Int):Wy0 (yC):=.i (decide (n_<1)) (.k []) (.k [TermOf.mk (if 1152921504606846976<n_ then 1152921504606846976 else n_) []])
def zBE (n_:Int):Bool×yC:=(zTp n_).fin default
def zMl:Ab.Spec ty:=zh zXR fun x=>((zBE x.1).1,zO1 (zBE x.1).2)
theorem zYZ:SdP 46 zMl:=
 sW (cx':=z4j) zr zi zk (zj trivial) Tryz.call46 Tryz.func46 (c:=body Tryz.f46) (lOK aN) (sg:=⟨[.own 28],[]⟩)
end Go.Proofs.YtljlfiomikifjaaGreatDoor
/- What lies inside lists of terms and factors: fuel for loops. -/
namespace Go.Proofs.YtljlfiomikifjaaGreatDoor
def szFs:yD→Nat
 | []=>0
 | f::r=>f.Exp.toNat +f.Atom.Args.length+f.Atom.Items.length+1+szFs r
def szTs:yC→Nat
 | []=>0
 | t::r=>szFs t.Factors+1+szTs r
end Go.Proofs.YtljlfiomikifjaaGreatDoor
namespace Go.Proofs.YtljlfiomikifjaaGreatDoor
open Go Go.Ab
def zjL (F:yD→yD→Bool×Int):Ab.Spec ty:=zh zXU fun x=>((F x.1 x.2.1).1,zN6 (F x.1 x.2.1).2)
def zSz:AL base (yE×yE×Unit):=zd (ze (vSl 100)) (zd (ze (vSl 100)) aNil)
def zk2 (F:yE→yE→Bool×Int):Ab.Spec ty:=zh zSz fun x=>((F x.1 x.2.1).1,zN6 (F x.1 x.2.1).2)
def z1F:Cx ty:=mkCx base 11 [] [] [] [] [] []
def zQT (a:Int) (b:Int):Wy0 (Int):=.i (decide (a<b)) (.k (-1:Int)) (.i (decide (a>b)) (.k 1) (.k 0))
def zcL (a:Int) (b:Int):Bool×Int:=(zQT a b).fin default
def zlL:Ab.Spec ty:=zh zT8 fun x=>((zcL x.1 x.2.1).1,zN6 (zcL x.1 x.2.1).2)
theorem znm:SdP 91 zlL:=
 sW (cx':=z1F) zr zi zk (zj trivial) Tryz.call91 Tryz.func91 (c:=body Tryz.f91) (lOK aN)
abbrev zrc:=yC×yC×Int×Unit
abbrev zwS:=Int⊕(yC×yC)
def zVv (zbj:yD→yD→Bool×Int) (a:yC) (b:yC) (i:Int):Wy zrc (Unit) zwS:=.i (decide (i<Int.ofNat a.length)) (.i (decide (i<Int.ofNat b.length)) (.i (decide (0≤i)&&decide (i<Int.ofNat a.length)) (.i (decide (0≤i)&&decide (i<Int.ofNat b.length)) (.bn (zbj (a.getD i.toNat default).Factors (b.getD i.toNat default).Factors) fun r1=>.i (r1 != 0) (.k (.inl (r1))) (.i (decide (0≤i)&&decide (i<Int.ofNat a.length)) (.i (decide (0≤i)&&decide (i<Int.ofNat b.length)) (.bn (zcL (a.getD i.toNat default).Coeff (b.getD i.toNat default).Coeff) fun r0=>.i (r0 != 0) (.k (.inl (r0))) (.h (a,b,(IntKind.i64.wrap (i+1)),()) ())) .d) .d)) .d) .d) (.k (.inr (a,b)))) (.k (.inr (a,b)))
def zGZ (zbj:yD→yD→Bool×Int) (x:zrc) (y:Unit):Wy zrc (Unit) zwS:=zVv zbj x.1 x.2.1 x.2.2.1
def zVB (zbj:yD→yD→Bool×Int) (n:Nat) (a:yC) (b:yC) (i:Int):Bool×zwS:=zF (zGZ zbj) (.inl default) n (a,b,i,()) ()
def zUn (r:zwS):LTree ty:=.ite (isL r) (.done .ret [.lit (.int .i64 (getL r))] []) (.done (.exit 0) [.sl 28 (getR r).1,.sl 28 (getR r).2] [])
def zVU:LL ty zrc:=za (lSl 28) (za (lSl 28) (za lI64 zn))
def zUw (x:zrc) (y:Unit):Nat:=(x.1.length+x.2.1.length+Int.toNat x.2.2.1+1)
def zGz (zbj:yD→yD→Bool×Int):Cx ty:=mkCx base 53 [(34,(zjL zbj)),(91,zlL)] [] [(2,(kpL [0,1,5]))] [(2,1,(kpL [0,1])),(2,0,(kpL [4]))] [(2,spW zVU z6c (zGZ zbj) (.inl default) zUn zUw)] []
theorem zTz (zbj:yD→yD→Bool×Int):zK (zGz zbj) (lp (body Tryz.f89) 0):=zu (id:=2) (hl:=rfl)
def zXO (zbj:yD→yD→Bool×Int) (a:yC) (b:yC):Wy0 (Int):=.bn (zVB zbj (a.length+b.length+Int.toNat 0+1) a b 0) fun r5=>.i (isL r5) (.k (getL r5)) (.bn (zcL (Int.ofNat (getR r5).1.length) (Int.ofNat (getR r5).2.length)) fun r4=>.k r4)
def zyN (zbj:yD→yD→Bool×Int) (a:yC) (b:yC):Bool×Int:=(zXO zbj a b).fin default
theorem zPI (zbj:yD→yD→Bool×Int) (zMi:SdP 34 (zjL zbj)):SdP 89 (zet (zyN zbj)):=
 sW (cx':=(zGz zbj)) zr zi zk (zj ⟨zMi,znm,trivial⟩) Tryz.call89 Tryz.func89 (c:=body Tryz.f89) (lOK (aC (zTz zbj) aN))
def z5I:Cx ty:=mkCx base 4 [] [] [] [] [] []
def zXe (less:Bool):Wy0 (Int):=.i (less) (.k (-1:Int)) (.k 1)
def zAP (less:Bool):Bool×Int:=(zXe less).fin default
def z6X:AL base (Bool×Unit):=zd (ze zbfU) aNil
def zNk:Ab.Spec ty:=zh z6X fun x=>((zAP x.1).1,zN6 (zAP x.1).2)
theorem z0M:SdP 157 zNk:=
 sW (cx':=z5I) zr zi zk (zj trivial) Tryz.call157 Tryz.func157 (c:=body Tryz.f157) (lOK aN)
def z05:Cx ty:=mkCx base 38 [(157,zNk)] [] [] [] [] []
def zNo (a:Value) (b:Value):Wy0 (Int):=.i (a.Kind != b.Kind) (.bn (zAP (decide (a.Kind<b.Kind))) fun r0=>.k r0) (.i (a.Int != b.Int) (.bn (zAP (decide (a.Int<b.Int))) fun r1=>.k r1) (.i (!a.Text.toList==b.Text.toList) (.bn (zAP (Op.bytesLess a.Text.toList b.Text.toList)) fun r2=>.k r2) (.k 0)))
def zn9 (a:Value) (b:Value):Bool×Int:=(zNo a b).fin default
def zzI:Ab.Spec ty:=zh z1S fun x=>((zn9 x.1 x.2.1).1,zN6 (zn9 x.1 x.2.1).2)
theorem zET:SdP 107 zzI:=
 sW (cx':=z05) zr zi zk (zj ⟨z0M,trivial⟩) Tryz.call107 Tryz.func107 (c:=body Tryz.f107) (lOK aN)
def zUB:Cx ty:=mkCx base 19 [(91,zlL)] [] [] [] [] []
def zHC (a:RowID) (b:RowID):Wy0 (Int):=.bn (zcL a.Table b.Table) fun r1=>.i (r1 != 0) (.k r1) (.bn (zcL a.Seq b.Seq) fun r0=>.k r0)
def zmH (a:RowID) (b:RowID):Bool×Int:=(zHC a b).fin default
def zvr:Ab.Spec ty:=zh z0c fun x=>((zmH x.1 x.2.1).1,zN6 (zmH x.1 x.2.1).2)
theorem zBF:SdP 105 zvr:=
 sW (cx':=zUB) zr zi zk (zj ⟨znm,trivial⟩) Tryz.call105 Tryz.func105 (c:=body Tryz.f105) (lOK aN)
abbrev zla:=Unit×Unit×Int×Unit
abbrev zlw:=Atom×Atom×Unit
abbrev zpe:=Int⊕(Atom×Atom)
def zuh (zU:yC→yC→Bool×Int) (zbv:yE→yE→Bool×Int) (i:Int) (a:Atom) (b:Atom):Wy zla zlw zpe:=.i (decide (i<Int.ofNat a.Args.length)) (.i (decide (i<Int.ofNat b.Args.length)) (.i (decide (0≤i)&&decide (i<Int.ofNat a.Args.length)) (.i (decide (0≤i)&&decide (i<Int.ofNat b.Args.length)) (.bn (zU (a.Args.getD i.toNat default) (b.Args.getD i.toNat default)) fun r0=>.i (r0 != 0) (.k (.inl (r0))) (.h ((),(),(IntKind.i64.wrap (i+1)),()) (a,b,()))) .d) .d) (.k (.inr (a,b)))) (.k (.inr (a,b)))
def zB2 (zU:yC→yC→Bool×Int) (zbv:yE→yE→Bool×Int) (x:zla) (y:zlw):Wy zla zlw zpe:=zuh zU zbv x.2.2.1 y.1 y.2.1
def zue (zU:yC→yC→Bool×Int) (zbv:yE→yE→Bool×Int) (n:Nat) (i:Int) (a:Atom) (b:Atom):Bool×zpe:=zF (zB2 zU zbv) (.inl default) n ((),(),i,()) (a,b,())
def zML (r:zpe):LTree ty:=.ite (isL r) (.done .ret [.lit (.int .i64 (getL r))] []) (.done (.exit 0) [.ptr 384 0,.ptr 385 0] [.box (base.enc 67 (getR r).1) false,.box (base.enc 67 (getR r).2) false])
def zOb:LL ty zla:=za (zeJ 384 0) (za (zeJ 385 0) (za lI64 zn))
def zOA:BL ty zlw:=bBox (zfl (fun x=>(⟨x.1,⟨x.2.1,x.2.2.1⟩,x.2.2.2.1,x.2.2.2.2.1,x.2.2.2.2.2.1,x.2.2.2.2.2.2.1,⟨x.2.2.2.2.2.2.2.1,x.2.2.2.2.2.2.2.2.1,x.2.2.2.2.2.2.2.2.2.1⟩⟩:Atom)) (fun x=>(x.Kind,x.Row.Table,x.Row.Seq,x.Args,x.Func,x.Items,x.Op,x.Bound.Kind,x.Bound.Int,x.Bound.Text,())) (fun _=>rfl) (za (lInt .i64) (za (lInt .i64) (za (lInt .i64) (za (lSl 23) (za (lInt .i64) (za (lSl 100) (za (lInt .i64) (za (lInt .i64) (za (lInt .i64) (za lStr zn))))))))))) false (bBox (zfl (fun x=>(⟨x.1,⟨x.2.1,x.2.2.1⟩,x.2.2.2.1,x.2.2.2.2.1,x.2.2.2.2.2.1,x.2.2.2.2.2.2.1,⟨x.2.2.2.2.2.2.2.1,x.2.2.2.2.2.2.2.2.1,x.2.2.2.2.2.2.2.2.2.1⟩⟩:Atom)) (fun x=>(x.Kind,x.Row.Table,x.Row.Seq,x.Args,x.Func,x.Items,x.Op,x.Bound.Kind,x.Bound.Int,x.Bound.Text,())) (fun _=>rfl) (za (lInt .i64) (za (lInt .i64) (za (lInt .i64) (za (lSl 23) (za (lInt .i64) (za (lSl 100) (za (lInt .i64) (za (lInt .i64) (za (lInt .i64) (za lStr zn))))))))))) false (bNil))
def zMT (x:zla) (y:zlw):Nat:=(Int.toNat x.2.2.1+y.1.Args.length+y.1.Items.length+y.2.1.Args.length+y.2.1.Items.length+1)
def zB4 (zU:yC→yC→Bool×Int) (zbv:yE→yE→Bool×Int):Cx ty:=mkCx base 96 [(89,(zet zU)),(91,zlL),(105,zvr),(106,(zk2 zbv)),(107,zzI)] [] [(8,(kpL [2,3,7]))] [(8,1,(kpL [2,3])),(8,0,(kpL [4]))] [(8,spW zOb zOA (zB2 zU zbv) (.inl default) zML zMT)] []
theorem zMZ (zU:yC→yC→Bool×Int) (zbv:yE→yE→Bool×Int):zK (zB4 zU zbv) (lp (body Tryz.f53) 0):=zu (id:=8) (hl:=rfl)
def zC4 (zU:yC→yC→Bool×Int) (zbv:yE→yE→Bool×Int) (a:Atom) (b:Atom):Wy0 (Int):=.bn (zcL a.Kind b.Kind) fun r9=>.i (r9 != 0) (.k r9) (.bn (zmH a.Row b.Row) fun r8=>.i (r8 != 0) (.k r8) (.bn (zue zU zbv (Int.toNat 0+a.Args.length+a.Items.length+b.Args.length+b.Items.length+1) 0 (Atom.mk a.Kind a.Row a.Args a.Func a.Items a.Op a.Bound) (Atom.mk b.Kind b.Row b.Args b.Func b.Items b.Op b.Bound)) fun r7=>.i (isL r7) (.k (getL r7)) (.bn (zcL (Int.ofNat (getR r7).1.Args.length) (Int.ofNat (getR r7).2.Args.length)) fun r6=>.i (r6 != 0) (.k r6) (.bn (zcL (getR r7).1.Func (getR r7).2.Func) fun r5=>.i (r5 != 0) (.k r5) (.bn (zbv (getR r7).1.Items (getR r7).2.Items) fun r4=>.i (r4 != 0) (.k r4) (.bn (zcL (getR r7).1.Op (getR r7).2.Op) fun r3=>.i (r3 != 0) (.k r3) (.bn (zn9 (getR r7).1.Bound (getR r7).2.Bound) fun r2=>.k r2)))))))
def zmv (zU:yC→yC→Bool×Int) (zbv:yE→yE→Bool×Int) (a:Atom) (b:Atom):Bool×Int:=(zC4 zU zbv a b).fin default
theorem zJ1 (zU:yC→yC→Bool×Int) (zbv:yE→yE→Bool×Int) (zBz:SdP 89 (zet zU)) (zOF:SdP 106 (zk2 zbv)):SdP 53 (zha (zmv zU zbv)):=
 sW (cx':=(zB4 zU zbv)) zr zi zk (zj ⟨zBz,znm,zBF,zOF,zET,trivial⟩) Tryz.call53 Tryz.func53 (c:=body Tryz.f53) (lOK (aC (zMZ zU zbv) aN))
abbrev ziK:=yD×yD×Int×Unit
abbrev zl6:=Int⊕(yD×yD)
def zy9 (zbA:Atom→Atom→Bool×Int) (a:yD) (b:yD) (i:Int):Wy ziK (Unit) zl6:=.i (decide (i<Int.ofNat a.length)) (.i (decide (i<Int.ofNat b.length)) (.i (decide (0≤i)&&decide (i<Int.ofNat a.length)) (.i (decide (0≤i)&&decide (i<Int.ofNat b.length)) (.bn (zbA (Atom.mk (a.getD i.toNat default).Atom.Kind (a.getD i.toNat default).Atom.Row (a.getD i.toNat default).Atom.Args (a.getD i.toNat default).Atom.Func (a.getD i.toNat default).Atom.Items (a.getD i.toNat default).Atom.Op (a.getD i.toNat default).Atom.Bound) (Atom.mk (b.getD i.toNat default).Atom.Kind (b.getD i.toNat default).Atom.Row (b.getD i.toNat default).Atom.Args (b.getD i.toNat default).Atom.Func (b.getD i.toNat default).Atom.Items (b.getD i.toNat default).Atom.Op (b.getD i.toNat default).Atom.Bound)) fun r1=>.i (r1 != 0) (.k (.inl (r1))) (.i (decide (0≤i)&&decide (i<Int.ofNat a.length)) (.i (decide (0≤i)&&decide (i<Int.ofNat b.length)) (.bn (zcL (a.getD i.toNat default).Exp (b.getD i.toNat default).Exp) fun r0=>.i (r0 != 0) (.k (.inl (r0))) (.h (a,b,(IntKind.i64.wrap (i+1)),()) ())) .d) .d)) .d) .d) (.k (.inr (a,b)))) (.k (.inr (a,b)))
def zkI (zbA:Atom→Atom→Bool×Int) (x:ziK) (y:Unit):Wy ziK (Unit) zl6:=zy9 zbA x.1 x.2.1 x.2.2.1
def zzd (zbA:Atom→Atom→Bool×Int) (n:Nat) (a:yD) (b:yD) (i:Int):Bool×zl6:=zF (zkI zbA) (.inl default) n (a,b,i,()) ()
def zIv (r:zl6):LTree ty:=.ite (isL r) (.done .ret [.lit (.int .i64 (getL r))] []) (.done (.exit 0) [.sl 69 (getR r).1,.sl 69 (getR r).2] [])
def zJn:LL ty ziK:=za (lSl 69) (za (lSl 69) (za lI64 zn))
def zHP (x:ziK) (y:Unit):Nat:=(x.1.length+x.2.1.length+Int.toNat x.2.2.1+1)
def zyJ (zbA:Atom→Atom→Bool×Int):Cx ty:=mkCx base 53 [(53,(zha zbA)),(91,zlL)] [] [(2,(kpL [0,1,5]))] [(2,1,(kpL [0,1])),(2,0,(kpL [4]))] [(2,spW zJn z6c (zkI zbA) (.inl default) zIv zHP)] []
theorem zIK (zbA:Atom→Atom→Bool×Int):zK (zyJ zbA) (lp (body Tryz.f34) 0):=zu (id:=2) (hl:=rfl)
def zAj (zbA:Atom→Atom→Bool×Int) (a:yD) (b:yD):Wy0 (Int):=.bn (zzd zbA (a.length+b.length+Int.toNat 0+1) a b 0) fun r5=>.i (isL r5) (.k (getL r5)) (.bn (zcL (Int.ofNat (getR r5).1.length) (Int.ofNat (getR r5).2.length)) fun r4=>.k r4)
def zjB (zbA:Atom→Atom→Bool×Int) (a:yD) (b:yD):Bool×Int:=(zAj zbA a b).fin default
theorem zF9 (zbA:Atom→Atom→Bool×Int) (zQ4:SdP 53 (zha zbA)):SdP 34 (zjL (zjB zbA)):=
 sW (cx':=(zyJ zbA)) zr zi zk (zj ⟨zQ4,znm,trivial⟩) Tryz.call34 Tryz.func34 (c:=body Tryz.f34) (lOK (aC (zIK zbA) aN))
abbrev zkB:=yE×yE×Int×Unit
abbrev zn1:=Int⊕(yE×yE)
def zMN (zU:yC→yC→Bool×Int) (a:yE) (b:yE) (i:Int):Wy zkB (Unit) zn1:=.i (decide (i<Int.ofNat a.length)) (.i (decide (i<Int.ofNat b.length)) (.i (decide (0≤i)&&decide (i<Int.ofNat a.length)) (.i (decide (0≤i)&&decide (i<Int.ofNat b.length)) (.bn (zn9 (a.getD i.toNat default).Value (b.getD i.toNat default).Value) fun r1=>.i (r1 != 0) (.k (.inl (r1))) (.i (decide (0≤i)&&decide (i<Int.ofNat a.length)) (.i (decide (0≤i)&&decide (i<Int.ofNat b.length)) (.bn (zU (a.getD i.toNat default).Ann (b.getD i.toNat default).Ann) fun r0=>.i (r0 != 0) (.k (.inl (r0))) (.h (a,b,(IntKind.i64.wrap (i+1)),()) ())) .d) .d)) .d) .d) (.k (.inr (a,b)))) (.k (.inr (a,b)))
def zA7 (zU:yC→yC→Bool×Int) (x:zkB) (y:Unit):Wy zkB (Unit) zn1:=zMN zU x.1 x.2.1 x.2.2.1
def zNa (zU:yC→yC→Bool×Int) (n:Nat) (a:yE) (b:yE) (i:Int):Bool×zn1:=zF (zA7 zU) (.inl default) n (a,b,i,()) ()
def zLx (r:zn1):LTree ty:=.ite (isL r) (.done .ret [.lit (.int .i64 (getL r))] []) (.done (.exit 0) [.sl 100 (getR r).1,.sl 100 (getR r).2] [])
def zMM:LL ty zkB:=za (lSl 100) (za (lSl 100) (za lI64 zn))
def zMu (x:zkB) (y:Unit):Nat:=(x.1.length+x.2.1.length+Int.toNat x.2.2.1+1)
def zBc (zU:yC→yC→Bool×Int):Cx ty:=mkCx base 53 [(89,(zet zU)),(91,zlL),(107,zzI)] [] [(2,(kpL [0,1,5]))] [(2,1,(kpL [0,1])),(2,0,(kpL [4]))] [(2,spW zMM z6c (zA7 zU) (.inl default) zLx zMu)] []
theorem zL9 (zU:yC→yC→Bool×Int):zK (zBc zU) (lp (body Tryz.f106) 0):=zu (id:=2) (hl:=rfl)
def zPc (zU:yC→yC→Bool×Int) (a:yE) (b:yE):Wy0 (Int):=.bn (zNa zU (a.length+b.length+Int.toNat 0+1) a b 0) fun r5=>.i (isL r5) (.k (getL r5)) (.bn (zcL (Int.ofNat (getR r5).1.length) (Int.ofNat (getR r5).2.length)) fun r4=>.k r4)
def zpd (zU:yC→yC→Bool×Int) (a:yE) (b:yE):Bool×Int:=(zPc zU a b).fin default
theorem zHX (zU:yC→yC→Bool×Int) (zBz:SdP 89 (zet zU)):SdP 106 (zk2 (zpd zU)):=
 sW (cx':=(zBc zU)) zr zi zk (zj ⟨zBz,znm,zET,trivial⟩) Tryz.call106 Tryz.func106 (c:=body Tryz.f106) (lOK (aC (zL9 zU) aN))
def zlh:Nat→(yC→yC→Bool×Int)×(yD→yD→Bool×Int)×(Atom→Atom→Bool×Int)×(yE→yE→Bool×Int)
 | 0=>(fun _ _=>(false,default),fun _ _=>(false,default),fun _ _=>(false,default),fun _ _=>(false,default))
 | n+1=>(zyN ((zlh n).2.1),zjB ((zlh n).2.2.1),zmv ((zlh n).1) ((zlh n).2.2.2),zpd ((zlh n).1))
def zn2 (n:Nat):yC→yC→Bool×Int:=(zlh n).1
def zjO (n:Nat):yD→yD→Bool×Int:=(zlh n).2.1
def zmm (n:Nat):Atom→Atom→Bool×Int:=(zlh n).2.2.1
def zlz (n:Nat):yE→yE→Bool×Int:=(zlh n).2.2.2
theorem zW5 (n:Nat):zn2 (n+1)=zyN (zjO n):=rfl
theorem zKn (n:Nat):zjO (n+1)=zjB (zmm n):=rfl
theorem zOC (n:Nat):zmm (n+1)=zmv (zn2 n) (zlz n):=rfl
theorem zMx (n:Nat):zlz (n+1)=zpd (zn2 n):=rfl
theorem zvJ:∀ n,SdP 89 (zet (zn2 n))∧SdP 34 (zjL (zjO n))∧SdP 53 (zha (zmm n))∧SdP 106 (zk2 (zlz n))
 | 0=>⟨z6 Tryz.call89 (fun _=>rfl),z6 Tryz.call34 (fun _=>rfl),z6 Tryz.call53 (fun _=>rfl),z6 Tryz.call106 (fun _=>rfl)⟩
 | n+1=>by
  have ih:=zvJ n;exact ⟨zPI _ (ih.2.1),zF9 _ (ih.2.2.1),zJ1 _ _ (ih.1) (ih.2.2.2),zHX _ (ih.1)⟩
def zIx:yC→yC→Bool×Int:=zn2 1000
def ref05_Compare_spec:Ab.Spec ty:=zet zIx
theorem zUg:SdP 89 ref05_Compare_spec:=(zvJ 1000).1
def zkY:yD→yD→Bool×Int:=zjO 1000
def ref05_CompareFactors_spec:Ab.Spec ty:=zjL zkY
theorem zxw:SdP 34 ref05_CompareFactors_spec:=(zvJ 1000).2.1
def zjc:Atom→Atom→Bool×Int:=zmm 1000
def ref05_CompareAtom_spec:Ab.Spec ty:=zha zjc
theorem zsJ:SdP 53 ref05_CompareAtom_spec:=(zvJ 1000).2.2.1
def zty:yE→yE→Bool×Int:=zlz 1000
def ref05_CompareItems_spec:Ab.Spec ty:=zk2 zty
theorem zK0:SdP 106 ref05_CompareItems_spec:=(zvJ 1000).2.2.2
abbrev ze1:=yC×Int×Int×Int×Unit×Int×Int×Unit
abbrev zxk:=yC×Int×Int×Int×Int×Atom
abbrev zwR:=yC×Int×Int×Int×Int
abbrev zrj:=yC×Int×Int×Int×Unit
abbrev zwX:=yC×Int×Int
abbrev zry:=yC×Int×Int×Unit
def zml (zB:yC→Bool×Int) (a:yC) (most:Int) (i:Int) (k:Int) (n_:Int) (j:Int) (x_:Atom):Wy ze1 (Atom×Unit) zxk:=.i (decide (j<Int.ofNat x_.Args.length)) (.i (decide (0≤j)&&decide (j<Int.ofNat x_.Args.length)) (.bn (zB (x_.Args.getD j.toNat default)) fun r0=>.h (a,most,i,k,(),(if IntKind.i64.wrap (1+r0)>n_ then IntKind.i64.wrap (1+r0) else n_),(IntKind.i64.wrap (j+1)),()) (x_,())) .d) (.k (a,most,i,k,n_,x_))
def zyp (zB:yC→Bool×Int) (x:ze1) (y:Atom×Unit):Wy ze1 (Atom×Unit) zxk:=zml zB x.1 x.2.1 x.2.2.1 x.2.2.2.1 x.2.2.2.2.2.1 x.2.2.2.2.2.2.1 y.1
def zyE (zB:yC→Bool×Int) (n:Nat) (a:yC) (most:Int) (i:Int) (k:Int) (n_:Int) (j:Int) (x_:Atom):Bool×zxk:=zF (zyp zB) default n (a,most,i,k,(),n_,j,()) (x_,())
def zRv (r:zxk):LTree ty:=.done (.exit 4) [.sl 28 r.1,.lit (.int .i64 r.2.1),.lit (.int .i64 r.2.2.1),.lit (.int .i64 r.2.2.2.1),.ptr 300 0,.lit (.int .i64 r.2.2.2.2.1)] [.box (base.enc 67 r.2.2.2.2.2) false]
def zTD:LL ty ze1:=za (lSl 28) (za lI64 (za lI64 (za lI64 (za (zeJ 300 0) (za lI64 (za lI64 zn))))))
def zUD:BL ty (Atom×Unit):=bBox (zfl (fun x=>(⟨x.1,⟨x.2.1,x.2.2.1⟩,x.2.2.2.1,x.2.2.2.2.1,x.2.2.2.2.2.1,x.2.2.2.2.2.2.1,⟨x.2.2.2.2.2.2.2.1,x.2.2.2.2.2.2.2.2.1,x.2.2.2.2.2.2.2.2.2.1⟩⟩:Atom)) (fun x=>(x.Kind,x.Row.Table,x.Row.Seq,x.Args,x.Func,x.Items,x.Op,x.Bound.Kind,x.Bound.Int,x.Bound.Text,())) (fun _=>rfl) (za (lInt .i64) (za (lInt .i64) (za (lInt .i64) (za (lSl 23) (za (lInt .i64) (za (lSl 100) (za (lInt .i64) (za (lInt .i64) (za (lInt .i64) (za lStr zn))))))))))) false (bNil)
def zme (zB:yC→Bool×Int) (a:yC) (most:Int) (i:Int) (k:Int) (n_:Int) (j:Int) (x_:Atom):Wy ze1 (Atom×Unit) zwR:=.i (decide (j<Int.ofNat x_.Items.length)) (.i (decide (0≤j)&&decide (j<Int.ofNat x_.Items.length)) (.bn (zB (x_.Items.getD j.toNat default).Ann) fun r2=>.h (a,most,i,k,(),(if IntKind.i64.wrap (1+r2)>n_ then IntKind.i64.wrap (1+r2) else n_),(IntKind.i64.wrap (j+1)),()) (x_,())) .d) (.k (a,most,i,k,n_))
def zyn (zB:yC→Bool×Int) (x:ze1) (y:Atom×Unit):Wy ze1 (Atom×Unit) zwR:=zme zB x.1 x.2.1 x.2.2.1 x.2.2.2.1 x.2.2.2.2.2.1 x.2.2.2.2.2.2.1 y.1
def zEY (zB:yC→Bool×Int) (n:Nat) (a:yC) (most:Int) (i:Int) (k:Int) (n_:Int) (j:Int) (x_:Atom):Bool×zwR:=zF (zyn zB) default n (a,most,i,k,(),n_,j,()) (x_,())
def zRb (r:zwR):LTree ty:=.done (.exit 6) [.sl 28 r.1,.lit (.int .i64 r.2.1),.lit (.int .i64 r.2.2.1),.lit (.int .i64 r.2.2.2.1),.lit (.int .i64 r.2.2.2.2)] []
def znI (zB:yC→Bool×Int) (a:yC) (most:Int) (i:Int) (k:Int):Wy zrj (Unit) zwX:=.i (decide (0≤i)&&decide (i<Int.ofNat a.length)) (.i (decide (k<Int.ofNat (a.getD i.toNat default).Factors.length)) (.i (decide (0≤i)&&decide (i<Int.ofNat a.length)) (.i (decide (0≤k)&&decide (k<Int.ofNat (a.getD i.toNat default).Factors.length)) (.i (((a.getD i.toNat default).Factors.getD k.toNat default).Atom.Kind==0) (.h (a,most,i,(IntKind.i64.wrap (k+1)),()) ()) (.bn (zyE zB ((a.length+most.toNat +i.toNat +k.toNat +Int.toNat 1+Int.toNat 0+((a.getD i.toNat default).Factors.getD k.toNat default).Atom.Args.length+((a.getD i.toNat default).Factors.getD k.toNat default).Atom.Items.length+1)+szTs a) a most i k 1 0 (Atom.mk ((a.getD i.toNat default).Factors.getD k.toNat default).Atom.Kind ((a.getD i.toNat default).Factors.getD k.toNat default).Atom.Row ((a.getD i.toNat default).Factors.getD k.toNat default).Atom.Args ((a.getD i.toNat default).Factors.getD k.toNat default).Atom.Func ((a.getD i.toNat default).Factors.getD k.toNat default).Atom.Items ((a.getD i.toNat default).Factors.getD k.toNat default).Atom.Op ((a.getD i.toNat default).Factors.getD k.toNat default).Atom.Bound)) fun r5=>.bn (zEY zB ((r5.1.length+r5.2.1.toNat +r5.2.2.1.toNat +r5.2.2.2.1.toNat +r5.2.2.2.2.1.toNat +Int.toNat 0+r5.2.2.2.2.2.Args.length+r5.2.2.2.2.2.Items.length+1)+szTs r5.1) r5.1 r5.2.1 r5.2.2.1 r5.2.2.2.1 r5.2.2.2.2.1 0 (Atom.mk r5.2.2.2.2.2.Kind r5.2.2.2.2.2.Row r5.2.2.2.2.2.Args r5.2.2.2.2.2.Func r5.2.2.2.2.2.Items r5.2.2.2.2.2.Op r5.2.2.2.2.2.Bound)) fun r4=>.h ((r4.1),(if r4.2.2.2.2>r4.2.1 then r4.2.2.2.2 else r4.2.1),(r4.2.2.1),(IntKind.i64.wrap (r4.2.2.2.1+1)),()) ())) .d) .d) (.k (a,most,i))) .d
def zzV (zB:yC→Bool×Int) (x:zrj) (y:Unit):Wy zrj (Unit) zwX:=znI zB x.1 x.2.1 x.2.2.1 x.2.2.2.1
def zGx (zB:yC→Bool×Int) (n:Nat) (a:yC) (most:Int) (i:Int) (k:Int):Bool×zwX:=zF (zzV zB) default n (a,most,i,k,()) ()
def zTK (r:zwX):LTree ty:=.done (.exit 2) [.sl 28 r.1,.lit (.int .i64 r.2.1),.lit (.int .i64 r.2.2)] []
def zVW:LL ty zrj:=za (lSl 28) (za lI64 (za lI64 (za lI64 zn)))
def zng (zB:yC→Bool×Int) (a:yC) (most:Int) (i:Int):Wy zry (Unit) (Int):=.i (decide (i<Int.ofNat a.length)) (.bn (zGx zB ((a.length+most.toNat +i.toNat +Int.toNat 0+1)+szTs a) a most i 0) fun r8=>.h ((r8.1),(r8.2.1),(IntKind.i64.wrap (r8.2.2+1)),()) ()) (.k most)
def zz8 (zB:yC→Bool×Int) (x:zry) (y:Unit):Wy zry (Unit) (Int):=zng zB x.1 x.2.1 x.2.2.1
def zHs (zB:yC→Bool×Int) (n:Nat) (a:yC) (most:Int) (i:Int):Bool×Int:=zF (zz8 zB) default n (a,most,i,()) ()
def zW4:LL ty zry:=za (lSl 28) (za lI64 (za lI64 zn))
def zSx (x:ze1) (y:Atom×Unit):Nat:=((x.1.length+Int.toNat x.2.1+Int.toNat x.2.2.1+Int.toNat x.2.2.2.1+Int.toNat x.2.2.2.2.2.1+Int.toNat x.2.2.2.2.2.2.1+y.1.Args.length+y.1.Items.length+1)+szTs x.1)
def zTZ (x:zrj) (y:Unit):Nat:=((x.1.length+Int.toNat x.2.1+Int.toNat x.2.2.1+Int.toNat x.2.2.2.1+1)+szTs x.1)
def zTX (x:zry) (y:Unit):Nat:=((x.1.length+Int.toNat x.2.1+Int.toNat x.2.2.1+1)+szTs x.1)
def znk (zB:yC→Bool×Int):Cx ty:=mkCx base 75 [(108,(zoI zB))] [] [(3,(kpL [0,3,4])),(6,(kpL [0,3,4,5])),(12,(kpL [0,3,4,5,6,7,8])),(16,(kpL [0,3,4,5,6,7,9]))] [(3,1,(kpL [3])),(6,3,(kpL [0,3,4])),(12,5,(kpL [0,3,4,5,6,7])),(16,7,(kpL [0,3,4,5,7]))] [(12,spW zTD zUD (zyp zB) default zRv zSx),(16,spW zTD zUD (zyn zB) default zRb zSx),(6,spW zVW z6c (zzV zB) default zTK zTZ),(3,spW zW4 z6c (zz8 zB) default zQr zTX)] []
theorem zSV (zB:yC→Bool×Int):zK (znk zB) (lp (body Tryz.f108) 2):=zu (id:=12) (hl:=rfl)
theorem zSK (zB:yC→Bool×Int):zK (znk zB) (lp (body Tryz.f108) 3):=zu (id:=16) (hl:=rfl)
theorem zTW (zB:yC→Bool×Int):zK (znk zB) (lp (body Tryz.f108) 1):=zu (id:=6) (hl:=rfl)
theorem zUb (zB:yC→Bool×Int):zK (znk zB) (lp (body Tryz.f108) 0):=zu (id:=3) (hl:=rfl)
def zI9 (zB:yC→Bool×Int) (a:yC):Wy0 (Int):=.bn (zHs zB ((a.length+Int.toNat 0+Int.toNat 0+1)+szTs a) a 0 0) fun r10=>.k r10
def zyT (zB:yC→Bool×Int) (a:yC):Bool×Int:=(zI9 zB a).fin default
theorem zQl (zB:yC→Bool×Int) (zZb:SdP 108 (zoI zB)):SdP 108 (zoI (zyT zB)):=
 sW (cx':=(znk zB)) zr zi zk (zj ⟨zZb,trivial⟩) Tryz.call108 Tryz.func108 (c:=body Tryz.f108) (lOK (aC (zUb zB) (aC (zTW zB) (aC (zSV zB) (aC (zSK zB) aN)))))
def zVP:Nat→(yC→Bool×Int)
 | 0=>fun _=>(false,default)
 | n+1=>zyT (zVP n)
def zlr (n:Nat):yC→Bool×Int:=zVP n
theorem zVD (n:Nat):zlr (n+1)=zyT (zlr n):=rfl
theorem zPD:∀ n,SdP 108 (zoI (zlr n))
 | 0=>z6 Tryz.call108 (fun _=>rfl)
 | n+1=>by
  have ih:=zPD n;exact zQl _ (ih)
def zHY:yC→Bool×Int:=zlr 1000
def ref05_Nesting_spec:Ab.Spec ty:=zoI zHY
theorem zUy:SdP 108 ref05_Nesting_spec:=(zPD 1000)
end Go.Proofs.YtljlfiomikifjaaGreatDoor
end
