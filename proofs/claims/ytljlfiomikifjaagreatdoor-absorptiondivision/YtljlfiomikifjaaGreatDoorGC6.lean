/- Texts of this claim, joined (the program, its functions in plain words, and what they compute). -/
import Derived.Test.YtljlfiomikifjaaGreatDoorGC5
set_option autoImplicit false
set_option linter.unusedVariables false
set_option linter.unusedSectionVars false
set_option linter.unusedSimpArgs false
set_option maxRecDepth 1000000
set_option maxHeartbeats 0
noncomputable section
namespace Go.Proofs.YtljlfiomikifjaaGreatDoor
open Go Go.Ab
abbrev zdm:=Unit×((yF×Unit)×Unit)×Int×Int×Unit
abbrev zdn:=yF×Unit
abbrev zed:=Int×yF
def zt9 (del:yF) (i:Int) (j:Int) (s:yF):Wy zdm zdn zed:=.i (decide (j<Int.ofNat s.length)) (.i (decide (0≤j)&&decide (j<Int.ofNat s.length)) (.bn (zwP (s.getD j.toNat default) del) fun r0=>.i (!r0) (.i (decide (0≤i)&&decide (i<Int.ofNat s.length)) (.i (decide (i.toNat<s.length)) (.h ((),((del,()),()),(IntKind.i64.wrap (i+1)),(IntKind.i64.wrap (j+1)),()) ((s.set i.toNat (s.getD j.toNat default)),())) .d) .d) (.h ((),((del,()),()),i,(IntKind.i64.wrap (j+1)),()) (s,()))) .d) (.k (i,s))
def zjT (x:zdm) (y:zdn):Wy zdm zdn zed:=zt9 x.2.1.1.1 x.2.2.1 x.2.2.2.1 y.1
def zuh (n:Nat) (del:yF) (i:Int) (j:Int) (s:yF):Bool×zed:=zJ (zjT) default n ((),((del,()),()),i,j,()) (s,())
def ztb (r:zed):LTree ty:=.done (.exit 0) [.own 168,.lit (.int .i64 r.1)] [.arr 49 r.2 false]
def zt8:LL ty zdm:=za (lOwn 168) (za (lFn 238 (za (zlS (za (lSl 49) zn) 0) zn)) (za lI64 (za lI64 zn)))
def zt6:BL ty zdn:=bArr 49 false (bNil)
def ztr (x:zdm) (y:zdn):Nat:=(x.2.1.1.1.length+Int.toNat x.2.2.1+Int.toNat x.2.2.2.1+y.1.length+1)
def zjQ:Cx ty:=mkCx base 42 [(238,zom),(260,zi9)] [] [(5,(kpL [0,1,5,6]))] [(5,1,(kpL [0,5]))] [(5,spW zt8 zt6 (zjT) default ztb ztr)] []
theorem ztU:zI zjQ (lp (body Tryz.f237) 0):=zt (id:=5) (hl:=rfl)
def zuJ (s:yF) (del:yF):Wy0 (yF):=.bn (zgl s del) fun r3=>.i (r3==(-1:Int)) (.k s) (.bn (zuh (del.length+r3.toNat +(IntKind.i64.wrap (r3+1)).toNat +s.length+1) del r3 (IntKind.i64.wrap (r3+1)) s) fun r2=>.i (decide (0≤r2.1)&&decide (r2.1≤Int.ofNat r2.2.length)&&decide (Int.ofNat r2.2.length≤Int.ofNat r2.2.length)) (.i (decide (r2.1.toNat +((Int.ofNat r2.2.length).toNat - r2.1.toNat)≤r2.2.length)) (.i (decide ((0:Int)≤(0:Int))&&decide (0≤r2.1)&&decide (r2.1≤Int.ofNat (List.take r2.1.toNat r2.2++List.replicate ((Int.ofNat r2.2.length).toNat - r2.1.toNat) (RowID.mk 0 0)++List.drop (r2.1.toNat +((Int.ofNat r2.2.length).toNat - r2.1.toNat)) r2.2).length)) (.k (List.take (r2.1.toNat - Int.toNat 0) (List.take r2.1.toNat r2.2++List.replicate ((Int.ofNat r2.2.length).toNat - r2.1.toNat) (RowID.mk 0 0)++List.drop (r2.1.toNat +((Int.ofNat r2.2.length).toNat - r2.1.toNat)) r2.2))) .d) .d) .d)
def zfY (s:yF) (del:yF):Bool×yF:=(zuJ s del).fin default
def zvd:AL base (yF×((yF×Unit)×Unit)×Unit):=zd (aOwn 49) (zd (ze (vFn 238 (zdj (vBox (zdj (vSl 49) vNil)) vNil))) aNil)
def ziZ:Ab.Spec ty:=zh zvd fun x=>((zfY x.1 x.2.1.1.1).1,zvz (zfY x.1 x.2.1.1.1).2)
theorem zsv:SdP 237 ziZ:=
 sW (cx':=zjQ) zq zi zk (zj ⟨ztu,zsR,trivial⟩) Tryz.call237 Tryz.func237 (c:=body Tryz.f237) (lOK (aC ztU aN)) (sg:=⟨[.own 49],[false]⟩)
def zZp:Cx ty:=mkCx base 11 [(204,zmH),(237,ziZ),(238,zom)] [(237,[true,false])] [] [] [] []
def zZ0 (a:yF) (b:yF):Wy0 (yF):=.bn (zpx a) fun r1=>.bn (zfY r1 b) fun r0=>.k r0
def zIN (a:yF) (b:yF):Bool×yF:=(zZ0 a b).fin default
def zGf:Ab.Spec ty:=zh zyb fun x=>((zIN x.1 x.2.1).1,zN3 (zIN x.1 x.2.1).2)
theorem zS8:SdP 210 zGf:=
 sW (cx':=zZp) zq zi zk (zj ⟨zst,zsv,ztu,trivial⟩) Tryz.call210 Tryz.func210 (c:=body Tryz.f210) (lOK aN) (sg:=⟨[.own 49],[]⟩)
def zXG:Cx ty:=mkCx base 10 [(210,zGf)] [] [] [] [] []
def zYD (a:yF) (b:yF):Wy0 (Bool):=.bn (zIN a b) fun r0=>.k (Int.ofNat r0.length==0)
def zE7 (a:yF) (b:yF):Bool×Bool:=(zYD a b).fin default
def zET:Ab.Spec ty:=zh zyb fun x=>((zE7 x.1 x.2.1).1,zY8 (zE7 x.1 x.2.1).2)
theorem zQE:SdP 172 zET:=
 sW (cx':=zXG) zq zi zk (zj ⟨zS8,trivial⟩) Tryz.call172 Tryz.func172 (c:=body Tryz.f172) (lOK aN)
def zOE:Cx ty:=mkCx base 17 [(172,zET)] [] [] [] [] []
def zRa (k:Int) (p1:Int) (p2:yB) (p3:yF):Wy0 (Bool):=.i (k != p1) (.i (decide (0≤k)&&decide (k<Int.ofNat p2.length)) (.bn (zE7 (p2.getD k.toNat default) p3) fun r0=>.k r0) .d) (.k false)
def zy4 (k:Int) (p1:Int) (p2:yB) (p3:yF):Bool×Bool:=(zRa k p1 p2 p3).fin default
def zQR:AL base (Int×(Int×Unit)×(yB×Unit)×(yF×Unit)×Unit):=zd (ze vI64) (zd (ze (vBox (zdj vI64 vNil))) (zd (ze (vBox (zdj (vSl 43) vNil))) (zd (ze (vBox (zdj (vSl 49) vNil))) aNil)))
def zlw:Ab.Spec ty:=zh zQR fun x=>((zy4 x.1 x.2.1.1 x.2.2.1.1 x.2.2.2.1.1).1,zY8 (zy4 x.1 x.2.1.1 x.2.2.1.1 x.2.2.2.1.1).2)
theorem zq8:SdP 171 zlw:=
 sW (cx':=zOE) zq zi zk (zj ⟨zQE,trivial⟩) Tryz.call171 Tryz.func171 (c:=body Tryz.f171) (lOK aN)
abbrev znf:=Unit×Int×Int×Unit
abbrev znl:=List Int×Unit
def zUA (t8:Int) (t9:Int) (out_:List Int):Wy znf znl (List Int):=.i (decide (t9<t8)) (.i (decide (0≤t9)&&decide (t9<Int.ofNat out_.length)) (.i (decide (t9.toNat<out_.length)) (.h ((),t8,(IntKind.i64.wrap (t9+1)),()) ((out_.set t9.toNat t9),())) .d) .d) (.k out_)
def zGc (x:znf) (y:znl):Wy znf znl (List Int):=zUA x.2.1 x.2.2.1 y.1
def zVO (n:Nat) (t8:Int) (t9:Int) (out_:List Int):Bool×List Int:=zJ (zGc) default n ((),t8,t9,()) (out_,())
def zSb (r:List Int):LTree ty:=.done (.exit 0) [.own 72] [.arr 3 r false]
def zVr:LL ty znf:=za (lOwn 72) (za lI64 (za lI64 zn))
def zVF:BL ty znl:=bArr 3 false (bNil)
def zSp (x:znf) (y:znl):Nat:=(Int.toNat x.2.1+Int.toNat x.2.2.1+y.1.length+1)
def zGg:Cx ty:=mkCx base 18 [] [] [(3,(kpL [3,8,9]))] [(3,1,(kpL [3]))] [(3,spW zVr zVF (zGc) default zSb zSp)] []
theorem zRJ:zI zGg (lp (body Tryz.f174) 0):=zt (id:=3) (hl:=rfl)
def zWq (n_:Int):Wy0 (List Int):=.i (decide (0≤n_)&&decide (n_≤n_)&&decide (n_*Int.ofNat 8≤Int.ofNat zbk)&&decide (n_≤Int.ofNat zbk)) (.bn (zVO ((Int.ofNat (List.replicate n_.toNat (0:Int)).length).toNat +Int.toNat 0+(List.replicate n_.toNat (0:Int)).length+1) (Int.ofNat (List.replicate n_.toNat (0:Int)).length) 0 (List.replicate n_.toNat (0:Int))) fun r0=>.k r0) .d
def zDA (n_:Int):Bool×List Int:=(zWq n_).fin default
def zTE (r:List Int):ARes ty:=⟨[.own 3 r],[]⟩
def zCg:Ab.Spec ty:=zh zU2 fun x=>((zDA x.1).1,zTE (zDA x.1).2)
theorem zOC:SdP 174 zCg:=
 sW (cx':=zGg) zq zi zk (zj trivial) Tryz.call174 Tryz.func174 (c:=body Tryz.f174) (lOK (aC zRJ aN)) (sg:=⟨[.own 3],[]⟩)
abbrev zfG:=List Int×((Int×Unit)×(yB×Unit)×(yF×Unit)×Unit)×Int×Int×Unit
def zCV (s:List Int) (f_0:Int) (f_1:yB) (f_2:yF) (t7:Int) (t8:Int):Wy zfG (Unit) (Int⊕Unit):=.i (decide (t8<t7)) (.i (decide (0≤t8)&&decide (t8<Int.ofNat s.length)) (.bn (zy4 (s.getD t8.toNat default) f_0 f_1 f_2) fun r0=>.i (r0) (.k (.inl t8)) (.h (s,((f_0,()),(f_1,()),(f_2,()),()),t7,(IntKind.i64.wrap (t8+1)),()) ())) .d) (.k (.inr ()))
def ztJ (x:zfG) (y:Unit):Wy zfG (Unit) (Int⊕Unit):=zCV x.1 x.2.1.1.1 x.2.1.2.1.1 x.2.1.2.2.1.1 x.2.2.1 x.2.2.2.1
def zDo (n:Nat) (s:List Int) (f_0:Int) (f_1:yB) (f_2:yF) (t7:Int) (t8:Int):Bool×(Int⊕Unit):=zJ (ztJ) (.inl default) n (s,((f_0,()),(f_1,()),(f_2,()),()),t7,t8,()) ()
def zDr:LL ty zfG:=za (lSl 3) (za (lFn 171 (za (zlS (za lI64 zn) 0) (za (zlS (za (lSl 43) zn) 0) (za (zlS (za (lSl 49) zn) 0) zn)))) (za lI64 (za lI64 zn)))
def zB4 (x:zfG) (y:Unit):Nat:=(x.1.length+Int.toNat x.2.1.1.1+x.2.1.2.1.1.length+x.2.1.2.2.1.1.length+Int.toNat x.2.2.1+Int.toNat x.2.2.2.1+1)
def ztf:Cx ty:=mkCx base 19 [(171,zlw)] [] [(2,(kpL [0,1,7,8]))] [(2,1,[]),(2,0,(kpL [4]))] [(2,spW zDr zSV (ztJ) (.inl default) zq1 zB4)] []
theorem zBR:zI ztf (lp (body Tryz.f211) 0):=zt (id:=2) (hl:=rfl)
def zEG (s:List Int) (f_0:Int) (f_1:yB) (f_2:yF):Wy0 (Int):=.bn (zDo (s.length+f_0.toNat +f_1.length+f_2.length+(Int.ofNat s.length).toNat +Int.toNat 0+1) s f_0 f_1 f_2 (Int.ofNat s.length) 0) fun r2=>.i (isL r2) (.k (getL r2)) (.k (-1:Int))
def znL (s:List Int) (f_0:Int) (f_1:yB) (f_2:yF):Bool×Int:=(zEG s f_0 f_1 f_2).fin default
def zD4:AL base (List Int×((Int×Unit)×(yB×Unit)×(yF×Unit)×Unit)×Unit):=zd (ze (vSl 3)) (zd (ze (vFn 171 (zdj (vBox (zdj vI64 vNil)) (zdj (vBox (zdj (vSl 43) vNil)) (zdj (vBox (zdj (vSl 49) vNil)) vNil))))) aNil)
def zrD:Ab.Spec ty:=zh zD4 fun x=>((znL x.1 x.2.1.1.1 x.2.1.2.1.1 x.2.1.2.2.1.1).1,zVk (znL x.1 x.2.1.1.1 x.2.1.2.1.1 x.2.1.2.2.1.1).2)
theorem zAI:SdP 211 zrD:=
 sW (cx':=ztf) zq zi zk (zj ⟨zq8,trivial⟩) Tryz.call211 Tryz.func211 (c:=body Tryz.f211) (lOK (aC zBR aN))
def zAD:Cx ty:=mkCx base 9 [(171,zlw),(211,zrD)] [] [] [] [] []
def zBj (s:List Int) (f_0:Int) (f_1:yB) (f_2:yF):Wy0 (Bool):=.bn (znL s f_0 f_1 f_2) fun r0=>.k (decide (r0≥0))
def zlr (s:List Int) (f_0:Int) (f_1:yB) (f_2:yF):Bool×Bool:=(zBj s f_0 f_1 f_2).fin default
def zor:Ab.Spec ty:=zh zD4 fun x=>((zlr x.1 x.2.1.1.1 x.2.1.2.1.1 x.2.1.2.2.1.1).1,zY8 (zlr x.1 x.2.1.1.1 x.2.1.2.1.1 x.2.1.2.2.1.1).2)
theorem zyK:SdP 173 zor:=
 sW (cx':=zAD) zq zi zk (zj ⟨zq8,zAI,trivial⟩) Tryz.call173 Tryz.func173 (c:=body Tryz.f173) (lOK aN)
abbrev znq:=Unit×Unit×Unit×Int×Int×Unit
abbrev znr:=(Unit×Unit)×yB×yB×Unit
abbrev znm:=yB
def zUW (t11:Int) (t12:Int) (out_:yB) (t10:yB):Wy znq znr znm:=.i (decide (t12<t11)) (.i (decide (0≤t12)&&decide (t12<Int.ofNat t10.length)) (.bn (zDA (Int.ofNat t10.length)) fun r1=>.bn (zlr r1 t12 t10 (t10.getD t12.toNat default)) fun r0=>.i (!r0) (.i (decide ((out_.length+[t10.getD t12.toNat default].length)*24≤zbk)) (.h ((),(),(),t11,(IntKind.i64.wrap (t12+1)),()) (((),()),(out_++[t10.getD t12.toNat default]),t10,())) .d) (.h ((),(),(),t11,(IntKind.i64.wrap (t12+1)),()) (((),()),out_,t10,()))) .d) (.k out_)
def zF4 (x:znq) (y:znr):Wy znq znr znm:=zUW x.2.2.2.1 x.2.2.2.2.1 y.2.1 y.2.2.1
def zUK (n:Nat) (t11:Int) (t12:Int) (out_:yB) (t10:yB):Bool×yB:=zJ (zF4) default n ((),(),(),t11,t12,()) (((),()),out_,t10,())
def zSm (r:znm):LTree ty:=.done (.exit 0) [.own 120] [.arr 43 r false]
def zVj:LL ty znq:=za (zdC 120 0) (za (lOwn 121) (za (lOwn 122) (za lI64 (za lI64 zn))))
def zUO:BL ty znr:=bBox (za (lOwn 122) zn) false (bArr 43 false (bArr 43 false (bNil)))
def zRG (x:znq) (y:znr):Nat:=(Int.toNat x.2.2.2.1+Int.toNat x.2.2.2.2.1+y.2.1.length+y.2.2.1.length+1)
def zGm:Cx ty:=mkCx base 30 [(170,zx5),(171,zlw),(173,zor),(174,zCg)] [] [(4,[(3,.keep),(4,.own 43),(10,.keep),(11,.keep),(12,.keep)])] [(4,1,(kpL [4]))] [(4,spW zVj zUO (zF4) default zSm zRG)] []
theorem zSt:zI zGm (lp (body Tryz.f143) 0):=zt (id:=4) (hl:=rfl)
def zW1 (l:yB):Wy0 znm:=.bn (zzB l) fun r5=>.bn (zUK ((Int.ofNat r5.length).toNat +Int.toNat 0+0+r5.length+1) (Int.ofNat r5.length) 0 [] r5) fun r4=>.k r4
def zs8 (l:yB):Bool×yB:=(zW1 l).fin default
def zRD (r:znm):ARes ty:=⟨[.own 43 r],[]⟩
def zXH:AL base (yB×Unit):=zd (ze (vSl 43)) aNil
def zCb:Ab.Spec ty:=zh zXH fun x=>((zs8 x.1).1,zRD (zs8 x.1).2)
theorem zOj:SdP 143 zCb:=
 sW (cx':=zGm) zq zi zk (zj ⟨zCi,zq8,zyK,zOC,trivial⟩) Tryz.call143 Tryz.func143 (c:=body Tryz.f143) (lOK (aC zSt aN)) (sg:=⟨[.own 43],[]⟩)
def zYY:Cx ty:=mkCx base 10 [(204,zmH),(212,zf3)] [] [] [] [] []
def zZG (a:yF) (b:yF):Wy0 (yF):=.bn (ze7 a) fun r1=>.i (decide ((r1.length+b.length)*16≤zbk)) (.bn (zpx (r1++b)) fun r0=>.k r0) .d
def zIC (a:yF) (b:yF):Bool×yF:=(zZG a b).fin default
def zF6:Ab.Spec ty:=zh zyb fun x=>((zIC x.1 x.2.1).1,zN3 (zIC x.1 x.2.1).2)
theorem zTf:SdP 175 zF6:=
 sW (cx':=zYY) zq zi zk (zj ⟨zst,zkK,trivial⟩) Tryz.call175 Tryz.func175 (c:=body Tryz.f175) (lOK aN) (sg:=⟨[.own 49],[]⟩)
abbrev zne:=yB×Unit×yF×yB×Int×Int×yB×Int×Int×Unit
abbrev zec:=yB×Unit
abbrev zs1:=yB×yB×Int×Int×yB
abbrev znB:=yB×Unit×yB×Int×Int×Unit
abbrev znC:=yB
def zVD (b:yB) (x_:yF) (t10:yB) (t11:Int) (t12:Int) (t16:yB) (t17:Int) (t18:Int) (out_:yB):Wy zne zec zs1:=.i (decide (t18<t17)) (.i (decide (0≤t18)&&decide (t18<Int.ofNat t16.length)) (.bn (zIC x_ (t16.getD t18.toNat default)) fun r2=>.i (decide ((out_.length+[r2].length)*24≤zbk)) (.h (b,(),x_,t10,t11,t12,t16,t17,(IntKind.i64.wrap (t18+1)),()) ((out_++[r2]),())) .d) .d) (.k (b,t10,t11,t12,out_))
def zGi (x:zne) (y:zec):Wy zne zec zs1:=zVD x.1 x.2.2.1 x.2.2.2.1 x.2.2.2.2.1 x.2.2.2.2.2.1 x.2.2.2.2.2.2.1 x.2.2.2.2.2.2.2.1 x.2.2.2.2.2.2.2.2.1 y.1
def zUJ (n:Nat) (b:yB) (x_:yF) (t10:yB) (t11:Int) (t12:Int) (t16:yB) (t17:Int) (t18:Int) (out_:yB):Bool×zs1:=zJ (zGi) default n (b,(),x_,t10,t11,t12,t16,t17,t18,()) (out_,())
def zTi (r:zs1):LTree ty:=.done (.exit 2) [.sl 43 r.1,.own 128,.sl 43 r.2.1,.lit (.int .i64 r.2.2.1),.lit (.int .i64 r.2.2.2.1)] [.arr 43 r.2.2.2.2 false]
def zVu:LL ty zne:=za (lSl 43) (za (lOwn 128) (za (lSl 49) (za (lSl 43) (za lI64 (za lI64 (za (lSl 43) (za lI64 (za lI64 zn))))))))
def zVM:BL ty zec:=bArr 43 false (bNil)
def zUr (b:yB) (t10:yB) (t11:Int) (t12:Int) (out_:yB):Wy znB zec znC:=.i (decide (t12<t11)) (.i (decide (0≤t12)&&decide (t12<Int.ofNat t10.length)) (.bn (zUJ (b.length+List.length (t10.getD t12.toNat default)+t10.length+t11.toNat +t12.toNat +b.length+(Int.ofNat b.length).toNat +Int.toNat 0+out_.length+1) b (t10.getD t12.toNat default) t10 t11 t12 b (Int.ofNat b.length) 0 out_) fun r4=>.h ((r4.1),(),(r4.2.1),(r4.2.2.1),(IntKind.i64.wrap (r4.2.2.2.1+1)),()) ((r4.2.2.2.2),())) .d) (.k out_)
def zGp (x:znB) (y:zec):Wy znB zec znC:=zUr x.1 x.2.2.1 x.2.2.2.1 x.2.2.2.2.1 y.1
def zUi (n:Nat) (b:yB) (t10:yB) (t11:Int) (t12:Int) (out_:yB):Bool×yB:=zJ (zGp) default n (b,(),t10,t11,t12,()) (out_,())
def zTo (r:znC):LTree ty:=.done (.exit 0) [.own 128] [.arr 43 r false]
def zVm:LL ty znB:=za (lSl 43) (za (lOwn 128) (za (lSl 43) (za lI64 (za lI64 zn))))
def zRL (x:zne) (y:zec):Nat:=(x.1.length+x.2.2.1.length+x.2.2.2.1.length+Int.toNat x.2.2.2.2.1+Int.toNat x.2.2.2.2.2.1+x.2.2.2.2.2.2.1.length+Int.toNat x.2.2.2.2.2.2.2.1+Int.toNat x.2.2.2.2.2.2.2.2.1+y.1.length+1)
def zRK (x:znB) (y:zec):Nat:=(x.1.length+x.2.2.1.length+Int.toNat x.2.2.2.1+Int.toNat x.2.2.2.2.1+y.1.length+1)
def zy1:Cx ty:=mkCx base 32 [(170,zx5),(175,zF6)] [] [(3,[(1,.keep),(5,.own 43),(10,.keep),(11,.keep),(12,.keep)]),(6,[(1,.keep),(5,.own 43),(7,.keep),(10,.keep),(11,.keep),(12,.keep),(16,.keep),(17,.keep),(18,.keep)])] [(3,1,(kpL [5])),(6,3,(kpL [1,5,10,11,12]))] [(6,spW zVu zVM (zGi) default zTi zRL),(3,spW zVm zVM (zGp) default zTo zRK)] []
theorem zSf:zI zy1 (lp (body Tryz.f144) 1):=zt (id:=6) (hl:=rfl)
theorem zTm:zI zy1 (lp (body Tryz.f144) 0):=zt (id:=3) (hl:=rfl)
def zWy (a:yB) (b:yB):Wy0 znC:=.bn (zUi (b.length+a.length+(Int.ofNat a.length).toNat +Int.toNat 0+0+1) b a (Int.ofNat a.length) 0 []) fun r7=>.bn (zzB r7) fun r6=>.k r6
def zyr (a:yB) (b:yB):Bool×yB:=(zWy a b).fin default
def zTF (r:znC):ARes ty:=⟨[.own 43 r],[]⟩
def zXs:AL base (yB×yB×Unit):=zd (ze (vSl 43)) (zd (ze (vSl 43)) aNil)
def zCv:Ab.Spec ty:=zh zXs fun x=>((zyr x.1 x.2.1).1,zTF (zyr x.1 x.2.1).2)
theorem zPt:SdP 144 zCv:=
 sW (cx':=zy1) zq zi zk (zj ⟨zCi,zTf,trivial⟩) Tryz.call144 Tryz.func144 (c:=body Tryz.f144) (lOK (aC zTm (aC zSf aN))) (sg:=⟨[.own 43],[]⟩)
abbrev zh1:=Unit×Unit×yC×Int×Int×yD×Int×Int×Unit
abbrev zhR:=yB×yB×Unit
abbrev zkU:=yC×Int×Int×yB×yB
abbrev zhO:=Unit×yC×Int×Int×Unit
abbrev zhX:=yB×Unit
abbrev zkT:=yB
def zG2 (zL:yC→Bool×yB) (t10:yC) (t11:Int) (t12:Int) (t19:yD) (t20:Int) (t21:Int) (all:yB) (sets:yB):Wy zh1 zhR zkU:=.i (decide (t21<t20)) (.i (decide (0≤t21)&&decide (t21<Int.ofNat t19.length)) (.i ((t19.getD t21.toNat default).Atom.Kind==2) (.i (decide ((0:Int)≤(0:Int))&&decide (0<Int.ofNat (t19.getD t21.toNat default).Atom.Args.length)) (.bn (zL ((t19.getD t21.toNat default).Atom.Args.getD (Int.toNat 0) default)) fun r12=>.bn (zyr sets r12) fun r11=>.bn (zs8 r11) fun r10=>.h ((),(),t10,t11,t12,t19,t20,(IntKind.i64.wrap (t21+1)),()) (all,(r10),())) .d) (.bn (zyr sets [[(t19.getD t21.toNat default).Atom.Row]]) fun r14=>.bn (zs8 r14) fun r13=>.h ((),(),t10,t11,t12,t19,t20,(IntKind.i64.wrap (t21+1)),()) (all,(r13),()))) .d) (.k (t10,t11,t12,all,sets))
def zwB (zL:yC→Bool×yB) (x:zh1) (y:zhR):Wy zh1 zhR zkU:=zG2 zL x.2.2.1 x.2.2.2.1 x.2.2.2.2.1 x.2.2.2.2.2.1 x.2.2.2.2.2.2.1 x.2.2.2.2.2.2.2.1 y.1 y.2.1
def zG8 (zL:yC→Bool×yB) (n:Nat) (t10:yC) (t11:Int) (t12:Int) (t19:yD) (t20:Int) (t21:Int) (all:yB) (sets:yB):Bool×zkU:=zJ (zwB zL) default n ((),(),t10,t11,t12,t19,t20,t21,()) (all,sets,())
def zE0 (r:zkU):LTree ty:=.done (.exit 2) [.own 204,.own 205,.sl 28 r.1,.lit (.int .i64 r.2.1),.lit (.int .i64 r.2.2.1)] [.arr 43 r.2.2.2.1 false,.arr 43 r.2.2.2.2 false]
def zG0:LL ty zh1:=za (lOwn 204) (za (lOwn 205) (za (lSl 28) (za lI64 (za lI64 (za (lSl 69) (za lI64 (za lI64 zn)))))))
def zG9:BL ty zhR:=bArr 43 false (bArr 43 false (bNil))
def zHm (zL:yC→Bool×yB) (t10:yC) (t11:Int) (t12:Int) (all:yB):Wy zhO zhX zkT:=.i (decide (t12<t11)) (.i (decide (0≤t12)&&decide (t12<Int.ofNat t10.length)) (.bn (zG8 zL (t10.length+t11.toNat +t12.toNat +(t10.getD t12.toNat default).Factors.length+(Int.ofNat (t10.getD t12.toNat default).Factors.length).toNat +Int.toNat 0+all.length+1+1000) t10 t11 t12 (t10.getD t12.toNat default).Factors (Int.ofNat (t10.getD t12.toNat default).Factors.length) 0 all [[]]) fun r20=>.i (decide ((r20.2.2.2.1.length+r20.2.2.2.2.length)*24≤zbk)) (.h ((),(r20.1),(r20.2.1),(IntKind.i64.wrap (r20.2.2.1+1)),()) ((r20.2.2.2.1++r20.2.2.2.2),())) .d) .d) (.k all)
def zwC (zL:yC→Bool×yB) (x:zhO) (y:zhX):Wy zhO zhX zkT:=zHm zL x.2.1 x.2.2.1 x.2.2.2.1 y.1
def zHq (zL:yC→Bool×yB) (n:Nat) (t10:yC) (t11:Int) (t12:Int) (all:yB):Bool×yB:=zJ (zwC zL) default n ((),t10,t11,t12,()) (all,())
def zFb (r:zkT):LTree ty:=.done (.exit 0) [.own 204] [.arr 43 r false]
def zG6:LL ty zhO:=za (lOwn 204) (za (lSl 28) (za lI64 (za lI64 zn)))
def zGN:BL ty zhX:=bArr 43 false (bNil)
def zE5 (x:zh1) (y:zhR):Nat:=(x.2.2.1.length+Int.toNat x.2.2.2.1+Int.toNat x.2.2.2.2.1+x.2.2.2.2.2.1.length+Int.toNat x.2.2.2.2.2.2.1+Int.toNat x.2.2.2.2.2.2.2.1+y.1.length+y.2.1.length+1000)
def zFH (x:zhO) (y:zhX):Nat:=(x.2.1.length+Int.toNat x.2.2.1+Int.toNat x.2.2.2.1+y.1.length+1000)
def znT (zL:yC→Bool×yB):Cx ty:=mkCx base 51 [(74,(ziO zL)),(143,zCb),(144,zCv)] [] [(3,[(3,.own 43),(10,.keep),(11,.keep),(12,.keep)]),(7,(kpL [3,6,10,11,12,19,20,21]))] [(3,1,(kpL [3])),(7,3,(kpL [3,6,10,11,12]))] [(7,spW zG0 zG9 (zwB zL) default zE0 zE5),(3,spW zG6 zGN (zwC zL) default zFb zFH)] []
theorem zEZ (zL:yC→Bool×yB):zI (znT zL) (lp (body Tryz.f74) 1):=zt (id:=7) (hl:=rfl)
theorem zFd (zL:yC→Bool×yB):zI (znT zL) (lp (body Tryz.f74) 0):=zt (id:=3) (hl:=rfl)
def zIR (zL:yC→Bool×yB) (a:yC):Wy0 zkT:=.bn (zHq zL (a.length+(Int.ofNat a.length).toNat +Int.toNat 0+0+1000) a (Int.ofNat a.length) 0 []) fun r23=>.bn (zs8 r23) fun r22=>.k r22
def zzo (zL:yC→Bool×yB) (a:yC):Bool×yB:=(zIR zL a).fin default
theorem zDn (zL:yC→Bool×yB) (zIl:SdP 74 (ziO zL)):SdP 74 (ziO (zzo zL)):=
 sW (cx':=(znT zL)) zq zi zk (zj ⟨zIl,zOj,zPt,trivial⟩) Tryz.call74 Tryz.func74 (c:=body Tryz.f74) (lOK (aC (zFd zL) (aC (zEZ zL) aN))) (sg:=⟨[.own 43],[]⟩)
def zP3:Nat→(yC→Bool×yB)
 | 0=>fun _=>(false,default)
 | n+1=>zzo (zP3 n)
def zze (n:Nat):yC→Bool×yB:=zP3 n
theorem zKm:∀ n,SdP 74 (ziO (zze n))
 | 0=>zY Tryz.call74 (fun _=>rfl)
 | n+1=>by
  have ih:=zKm n;exact zDn _ (ih)
def zA0:yC→Bool×yB:=zze 1000
def absorption_witnesses_spec:Ab.Spec ty:=ziO zA0
theorem zFi:SdP 74 absorption_witnesses_spec:=(zKm 1000)
def zJT:Cx ty:=mkCx base 17 [(20,annotation_Valid_spec),(73,absorption_explained_spec),(74,absorption_witnesses_spec)] [] [] [] [] []
def zL9 (a:yC):Wy0 (yB×Int):=.bn (zce a) fun r2=>.i (!r2) (.k ([],1)) (.bn (zAU a) fun r1=>.i (!r1) (.k ([],13)) (.bn (zA0 a) fun r0=>.i (decide (Int.ofNat r0.length>512)) (.k ([],6)) (.k (r0,0))))
def zA2 (a:yC):Bool×(yB×Int):=(zL9 a).fin default
def zJg (r:yB×Int):ARes ty:=⟨[.own 43 r.1,.pure (.lit (.int .i64 r.2))],[]⟩
def zwz:Ab.Spec ty:=zh z1A fun x=>((zA2 x.1).1,zJg (zA2 x.1).2)
theorem zFs:SdP 24 zwz:=
 sW (cx':=zJT) zq zi zk (zj ⟨zco,zFJ,zFi,trivial⟩) Tryz.call24 Tryz.func24 (c:=body Tryz.f24) (lOK aN) (sg:=⟨[.own 43,.pure],[]⟩)
def z1l:Cx ty:=mkCx base 8 [] [] [] [] [] []
def z2C (x_:Atom):Wy0 (yC):=.k [TermOf.mk 1 [FactorOf.mk (Atom.mk x_.Kind x_.Row x_.Args x_.Func x_.Items x_.Op x_.Bound) 1]]
def zA5 (x_:Atom):Bool×yC:=(z2C x_).fin default
def zA1:Ab.Spec ty:=zh zUv fun x=>((zA5 x.1).1,zFD (zA5 x.1).2)
theorem zH0:SdP 102 zA1:=
 sW (cx':=z1l) zq zi zk (zj trivial) Tryz.call102 Tryz.func102 (c:=body Tryz.f102) (lOK aN) (sg:=⟨[.own 28],[]⟩)
def z3t:Cx ty:=mkCx base 14 [(102,zA1)] [] [] [] [] []
def z4i (id:RowID):Wy0 (yC):=.i (decide (id.Table<1)) (.k []) (.i (decide (id.Seq<1)) (.k []) (.k ((zA5 (Atom.mk 0 id [] 0 [] 0 (Value.mk 0 0 (ByteArray.mk #[])))).2)))
def zRN (id:RowID):Bool×yC:=(z4i id).fin default
def zNK:Ab.Spec ty:=zh zZS fun x=>((zRN x.1).1,zFD (zRN x.1).2)
theorem zYP:SdP 98 zNK:=
 sW (cx':=z3t) zq zi zk (zj ⟨zH0,trivial⟩) Tryz.call98 Tryz.func98 (c:=body Tryz.f98) (lOK aN) (sg:=⟨[.own 28],[]⟩)
def zUy:Cx ty:=mkCx base 6 [(98,zNK)] [] [] [] [] []
def zW5 (seq:Int):Wy0 (yC):=.bn (zRN (RowID.mk 1 seq)) fun r0=>.k r0
def zND (seq:Int):Bool×yC:=(zW5 seq).fin default
def zCa:Ab.Spec ty:=zh zU2 fun x=>((zND x.1).1,zFD (zND x.1).2)
theorem zPk:SdP 44 zCa:=
 sW (cx':=zUy) zq zi zk (zj ⟨zYP,trivial⟩) Tryz.call44 Tryz.func44 (c:=body Tryz.f44) (lOK aN) (sg:=⟨[.own 28],[]⟩)
def z0w:Cx ty:=mkCx base 9 [] [] [] [] [] []
def z1I (n_:Int):Wy0 (yC):=.i (decide (n_<1)) (.k []) (.k [TermOf.mk (if 1152921504606846976<n_ then 1152921504606846976 else n_) []])
def zVT (n_:Int):Bool×yC:=(z1I n_).fin default
def zH5:Ab.Spec ty:=zh zU2 fun x=>((zVT x.1).1,zFD (zVT x.1).2)
theorem zVi:SdP 46 zH5:=
 sW (cx':=z0w) zq zi zk (zj trivial) Tryz.call46 Tryz.func46 (c:=body Tryz.f46) (lOK aN) (sg:=⟨[.own 28],[]⟩)
def z2T:Cx ty:=mkCx base 3 [] [] [] [] [] []
def z38:Wy0 (yC):=.k [TermOf.mk 1 []]
def zRC:Bool×yC:=(z38).fin default
def zNI:Ab.Spec ty:=zh zLs fun x=>((zRC ).1,zFD (zRC ).2)
theorem zXV:SdP 77 zNI:=
 sW (cx':=z2T) zq zi zk (zj trivial) Tryz.call77 Tryz.func77 (c:=body Tryz.f77) (lOK aN) (sg:=⟨[.own 28],[]⟩)
def z3e:Cx ty:=mkCx base 8 [(54,zBe)] [] [] [] [] []
def z4a (a:yC):Wy0 (yC×Int):=.bn (zyl a) fun r0=>.i (!r0) (.k ([],6)) (.k (a,0))
def zKq (a:yC):Bool×(yC×Int):=(z4a a).fin default
def z1u (r:yC×Int):ARes ty:=⟨[.pure (.sl 28 r.1),.pure (.lit (.int .i64 r.2))],[]⟩
def zMg:Ab.Spec ty:=zh z1A fun x=>((zKq x.1).1,z1u (zKq x.1).2)
theorem zXN:SdP 101 zMg:=
 sW (cx':=z3e) zq zi zk (zj ⟨zIJ,trivial⟩) Tryz.call101 Tryz.func101 (c:=body Tryz.f101) (lOK aN) (sg:=⟨[.pure,.pure],[]⟩)
def z0p:Cx ty:=mkCx base 30 [(16,ref05_Valid_spec),(77,zNI),(99,zyI),(100,zwi),(101,zMg),(102,zA1)] [] [] [] [] []
def z1h (a:yC):Wy0 (yC×Int):=.bn (zv9 a) fun r4=>.i (!r4) (.k ([],1)) (.i (Int.ofNat a.length==0) (.k (a,0)) (.bn (zpv a) fun r3=>.i (r3) (.k (a,0)) (.i (Int.ofNat a.length==1) (.bn (zjy a) fun r1=>.i (r1) (.k (zRC.2,0)) (.bn (zKq (zA5 (Atom.mk 2 (RowID.mk 0 0) [a] 0 [] 0 (Value.mk 0 0 (ByteArray.mk #[])))).2) fun r0=>.k (r0.1,r0.2))) (.bn (zKq (zA5 (Atom.mk 2 (RowID.mk 0 0) [a] 0 [] 0 (Value.mk 0 0 (ByteArray.mk #[])))).2) fun r2=>.k (r2.1,r2.2)))))
def zV5 (a:yC):Bool×(yC×Int):=(z1h a).fin default
def zIG:Ab.Spec ty:=zh z1A fun x=>((zV5 x.1).1,z1u (zV5 x.1).2)
theorem zUz:SdP 47 zIG:=
 sW (cx':=z0p) zq zi zk (zj ⟨zGk,zXV,zEj,zBs,zXN,zH0,trivial⟩) Tryz.call47 Tryz.func47 (c:=body Tryz.f47) (lOK aN) (sg:=⟨[.pure,.pure],[]⟩)
def z1p:Cx ty:=mkCx base 9 [] [] [] [] [] []
def zRu (a:Int) (b:Int):Wy0 (Int):=.k (if 1152921504606846976<IntKind.i64.wrap (a+b) then 1152921504606846976 else IntKind.i64.wrap (a+b))
def zva (a:Int) (b:Int):Bool×Int:=(zRu a b).fin default
def zKt:Ab.Spec ty:=zh z0o fun x=>((zva x.1 x.2.1).1,zVk (zva x.1 x.2.1).2)
theorem zW3:SdP 112 zKt:=
 sW (cx':=z1p) zq zi zk (zj trivial) Tryz.call112 Tryz.func112 (c:=body Tryz.f112) (lOK aN)
abbrev zxy:=yC×Unit×Int×Unit
abbrev zBG:=yC×Int×Term
def zxX (a:yC) (i:Int) (t:Term):Wy zxy (Term×Unit) zBG:=.i (decide (i<Int.ofNat a.length)) (.i (decide (0≤i)&&decide (i<Int.ofNat a.length)) (.bn (zkz (a.getD i.toNat default).Factors t.Factors) fun r0=>.i (decide (r0<0)) (.h (a,(),(IntKind.i64.wrap (i+1)),()) (t,())) (.k (a,i,t))) .d) (.k (a,i,t))
def zIW (x:zxy) (y:Term×Unit):Wy zxy (Term×Unit) zBG:=zxX x.1 x.2.2.1 y.1
def zTU (n:Nat) (a:yC) (i:Int) (t:Term):Bool×zBG:=zJ (zIW) default n (a,(),i,()) (t,())
def z1U (r:zBG):LTree ty:=.done (.exit 0) [.sl 28 r.1,.ptr 288 0,.lit (.int .i64 r.2.1)] [.box (base.enc 28 r.2.2) false]
def z2o:LL ty zxy:=za (lSl 28) (za (zdC 288 0) (za lI64 zn))
def z1N (x:zxy) (y:Term×Unit):Nat:=(x.1.length+Int.toNat x.2.2.1+y.1.Factors.length+1)
def zS5:Cx ty:=mkCx base 72 [(34,ref05_CompareFactors_spec),(112,zKt)] [] [(2,(kpL [0,3,5]))] [(2,1,(kpL [0,3,5]))] [(2,spW z2o zUU (zIW) default z1U z1N)] []
theorem z1k:zI zS5 (lp (body Tryz.f58) 0):=zt (id:=2) (hl:=rfl)
def zWd (a:yC) (t:Term):Wy0 (yC):=.bn (zTU (a.length+Int.toNat 0+t.Factors.length+1) a 0 t) fun r3=>.i (decide ((0:Int)≤(0:Int))&&decide (0≤r3.2.1)&&decide (r3.2.1≤Int.ofNat r3.1.length)) (.i (decide ((0+(List.take (r3.2.1.toNat - Int.toNat 0) (List.drop (Int.toNat 0) r3.1)).length)*32≤zbk)) (.i (decide (r3.2.1<Int.ofNat r3.1.length)) (.i (decide (0≤r3.2.1)&&decide (r3.2.1<Int.ofNat r3.1.length)) (.bn (zkz (r3.1.getD r3.2.1.toNat default).Factors r3.2.2.Factors) fun r2=>.i (r2==0) (.i (decide (0≤r3.2.1)&&decide (r3.2.1<Int.ofNat r3.1.length)) (.i (decide ((([]++List.take (r3.2.1.toNat - Int.toNat 0) (List.drop (Int.toNat 0) r3.1)).length+[TermOf.mk (zva (r3.1.getD r3.2.1.toNat default).Coeff r3.2.2.Coeff).2 r3.2.2.Factors].length)*32≤zbk)) (.i (decide (0≤IntKind.i64.wrap (r3.2.1+1))&&decide (IntKind.i64.wrap (r3.2.1+1)≤Int.ofNat r3.1.length)&&decide (Int.ofNat r3.1.length≤Int.ofNat r3.1.length)) (.i (decide ((([]++List.take (r3.2.1.toNat - Int.toNat 0) (List.drop (Int.toNat 0) r3.1)++[TermOf.mk (zva (r3.1.getD r3.2.1.toNat default).Coeff r3.2.2.Coeff).2 r3.2.2.Factors]).length+(List.take ((Int.ofNat r3.1.length).toNat - (IntKind.i64.wrap (r3.2.1+1)).toNat) (List.drop (IntKind.i64.wrap (r3.2.1+1)).toNat r3.1)).length)*32≤zbk)) (.k ([]++List.take (r3.2.1.toNat - Int.toNat 0) (List.drop (Int.toNat 0) r3.1)++[TermOf.mk (zva (r3.1.getD r3.2.1.toNat default).Coeff r3.2.2.Coeff).2 r3.2.2.Factors]++List.take ((Int.ofNat r3.1.length).toNat - (IntKind.i64.wrap (r3.2.1+1)).toNat) (List.drop (IntKind.i64.wrap (r3.2.1+1)).toNat r3.1))) .d) .d) .d) .d) (.i (decide ((([]++List.take (r3.2.1.toNat - Int.toNat 0) (List.drop (Int.toNat 0) r3.1)).length+[r3.2.2].length)*32≤zbk)) (.i (decide (0≤r3.2.1)&&decide (r3.2.1≤Int.ofNat r3.1.length)&&decide (Int.ofNat r3.1.length≤Int.ofNat r3.1.length)) (.i (decide ((([]++List.take (r3.2.1.toNat - Int.toNat 0) (List.drop (Int.toNat 0) r3.1)++[r3.2.2]).length+(List.take ((Int.ofNat r3.1.length).toNat - r3.2.1.toNat) (List.drop r3.2.1.toNat r3.1)).length)*32≤zbk)) (.k ([]++List.take (r3.2.1.toNat - Int.toNat 0) (List.drop (Int.toNat 0) r3.1)++[r3.2.2]++List.take ((Int.ofNat r3.1.length).toNat - r3.2.1.toNat) (List.drop r3.2.1.toNat r3.1))) .d) .d) .d)) .d) (.i (decide ((([]++List.take (r3.2.1.toNat - Int.toNat 0) (List.drop (Int.toNat 0) r3.1)).length+[r3.2.2].length)*32≤zbk)) (.i (decide (0≤r3.2.1)&&decide (r3.2.1≤Int.ofNat r3.1.length)&&decide (Int.ofNat r3.1.length≤Int.ofNat r3.1.length)) (.i (decide ((([]++List.take (r3.2.1.toNat - Int.toNat 0) (List.drop (Int.toNat 0) r3.1)++[r3.2.2]).length+(List.take ((Int.ofNat r3.1.length).toNat - r3.2.1.toNat) (List.drop r3.2.1.toNat r3.1)).length)*32≤zbk)) (.k ([]++List.take (r3.2.1.toNat - Int.toNat 0) (List.drop (Int.toNat 0) r3.1)++[r3.2.2]++List.take ((Int.ofNat r3.1.length).toNat - r3.2.1.toNat) (List.drop r3.2.1.toNat r3.1))) .d) .d) .d)) .d) .d
def zAi (a:yC) (t:Term):Bool×yC:=(zWd a t).fin default
def z3W:AL base (yC×Term×Unit):=zd (ze (vSl 28)) (zd (ze (vAgg 28)) aNil)
def zCQ:Ab.Spec ty:=zh z3W fun x=>((zAi x.1 x.2.1).1,zFD (zAi x.1 x.2.1).2)
theorem zKs:SdP 58 zCQ:=
 sW (cx':=zS5) zq zi zk (zj ⟨zvG,zW3,trivial⟩) Tryz.call58 Tryz.func58 (c:=body Tryz.f58) (lOK (aC z1k aN)) (sg:=⟨[.own 28],[]⟩)
abbrev zr1:=yD×Unit×Int×Unit
abbrev zwE:=yD×Int×Factor
def zrI (l:yD) (i:Int) (f:Factor):Wy zr1 (Factor×Unit) zwE:=.i (decide (i<Int.ofNat l.length)) (.i (decide (0≤i)&&decide (i<Int.ofNat l.length)) (.bn (zh5 (Atom.mk (l.getD i.toNat default).Atom.Kind (l.getD i.toNat default).Atom.Row (l.getD i.toNat default).Atom.Args (l.getD i.toNat default).Atom.Func (l.getD i.toNat default).Atom.Items (l.getD i.toNat default).Atom.Op (l.getD i.toNat default).Atom.Bound) (Atom.mk f.Atom.Kind f.Atom.Row f.Atom.Args f.Atom.Func f.Atom.Items f.Atom.Op f.Atom.Bound)) fun r0=>.i (decide (r0<0)) (.h (l,(),(IntKind.i64.wrap (i+1)),()) (f,())) (.k (l,i,f))) .d) (.k (l,i,f))
def zBk (x:zr1) (y:Factor×Unit):Wy zr1 (Factor×Unit) zwE:=zrI x.1 x.2.2.1 y.1
def zKi (n:Nat) (l:yD) (i:Int) (f:Factor):Bool×zwE:=zJ (zBk) default n (l,(),i,()) (f,())
def zWT (r:zwE):LTree ty:=.done (.exit 0) [.sl 69 r.1,.ptr 296 0,.lit (.int .i64 r.2.1)] [.box (base.enc 69 r.2.2) false]
def zZk:LL ty zr1:=za (lSl 69) (za (zdC 296 0) (za lI64 zn))
def zW7 (x:zr1) (y:Factor×Unit):Nat:=(x.1.length+Int.toNat x.2.2.1+y.1.Atom.Args.length+y.1.Atom.Items.length+1)
def zKk:Cx ty:=mkCx base 74 [(53,ref05_CompareAtom_spec)] [] [(2,(kpL [0,3,5]))] [(2,1,(kpL [0,3,5]))] [(2,spW zZk zM2 (zBk) default zWT zW7)] []
theorem zXb:zI zKk (lp (body Tryz.f57) 0):=zt (id:=2) (hl:=rfl)
def zNC (l:yD) (f:Factor):Wy0 (yD):=.bn (zKi (l.length+Int.toNat 0+f.Atom.Args.length+f.Atom.Items.length+1) l 0 (FactorOf.mk (Atom.mk f.Atom.Kind f.Atom.Row f.Atom.Args f.Atom.Func f.Atom.Items f.Atom.Op f.Atom.Bound) f.Exp)) fun r3=>.i (decide ((0:Int)≤(0:Int))&&decide (0≤r3.2.1)&&decide (r3.2.1≤Int.ofNat r3.1.length)) (.i (decide ((0+(List.take (r3.2.1.toNat - Int.toNat 0) (List.drop (Int.toNat 0) r3.1)).length)*128≤zbk)) (.i (decide (r3.2.1<Int.ofNat r3.1.length)) (.i (decide (0≤r3.2.1)&&decide (r3.2.1<Int.ofNat r3.1.length)) (.bn (zh5 (Atom.mk (r3.1.getD r3.2.1.toNat default).Atom.Kind (r3.1.getD r3.2.1.toNat default).Atom.Row (r3.1.getD r3.2.1.toNat default).Atom.Args (r3.1.getD r3.2.1.toNat default).Atom.Func (r3.1.getD r3.2.1.toNat default).Atom.Items (r3.1.getD r3.2.1.toNat default).Atom.Op (r3.1.getD r3.2.1.toNat default).Atom.Bound) (Atom.mk r3.2.2.Atom.Kind r3.2.2.Atom.Row r3.2.2.Atom.Args r3.2.2.Atom.Func r3.2.2.Atom.Items r3.2.2.Atom.Op r3.2.2.Atom.Bound)) fun r2=>.i (r2==0) (.i (decide (r3.2.2.Atom.Kind<3)) (.i (decide (0≤r3.2.1)&&decide (r3.2.1<Int.ofNat r3.1.length)) (.i (decide ((([]++List.take (r3.2.1.toNat - Int.toNat 0) (List.drop (Int.toNat 0) r3.1)).length+[FactorOf.mk (Atom.mk r3.2.2.Atom.Kind r3.2.2.Atom.Row r3.2.2.Atom.Args r3.2.2.Atom.Func r3.2.2.Atom.Items r3.2.2.Atom.Op r3.2.2.Atom.Bound) (IntKind.i64.wrap ((r3.1.getD r3.2.1.toNat default).Exp+r3.2.2.Exp))].length)*128≤zbk)) (.i (decide (0≤IntKind.i64.wrap (r3.2.1+1))&&decide (IntKind.i64.wrap (r3.2.1+1)≤Int.ofNat r3.1.length)&&decide (Int.ofNat r3.1.length≤Int.ofNat r3.1.length)) (.i (decide ((([]++List.take (r3.2.1.toNat - Int.toNat 0) (List.drop (Int.toNat 0) r3.1)++[FactorOf.mk (Atom.mk r3.2.2.Atom.Kind r3.2.2.Atom.Row r3.2.2.Atom.Args r3.2.2.Atom.Func r3.2.2.Atom.Items r3.2.2.Atom.Op r3.2.2.Atom.Bound) (IntKind.i64.wrap ((r3.1.getD r3.2.1.toNat default).Exp+r3.2.2.Exp))]).length+(List.take ((Int.ofNat r3.1.length).toNat - (IntKind.i64.wrap (r3.2.1+1)).toNat) (List.drop (IntKind.i64.wrap (r3.2.1+1)).toNat r3.1)).length)*128≤zbk)) (.k ([]++List.take (r3.2.1.toNat - Int.toNat 0) (List.drop (Int.toNat 0) r3.1)++[FactorOf.mk (Atom.mk r3.2.2.Atom.Kind r3.2.2.Atom.Row r3.2.2.Atom.Args r3.2.2.Atom.Func r3.2.2.Atom.Items r3.2.2.Atom.Op r3.2.2.Atom.Bound) (IntKind.i64.wrap ((r3.1.getD r3.2.1.toNat default).Exp+r3.2.2.Exp))]++List.take ((Int.ofNat r3.1.length).toNat - (IntKind.i64.wrap (r3.2.1+1)).toNat) (List.drop (IntKind.i64.wrap (r3.2.1+1)).toNat r3.1))) .d) .d) .d) .d) (.i (decide ((([]++List.take (r3.2.1.toNat - Int.toNat 0) (List.drop (Int.toNat 0) r3.1)).length+[FactorOf.mk (Atom.mk r3.2.2.Atom.Kind r3.2.2.Atom.Row r3.2.2.Atom.Args r3.2.2.Atom.Func r3.2.2.Atom.Items r3.2.2.Atom.Op r3.2.2.Atom.Bound) r3.2.2.Exp].length)*128≤zbk)) (.i (decide (0≤IntKind.i64.wrap (r3.2.1+1))&&decide (IntKind.i64.wrap (r3.2.1+1)≤Int.ofNat r3.1.length)&&decide (Int.ofNat r3.1.length≤Int.ofNat r3.1.length)) (.i (decide ((([]++List.take (r3.2.1.toNat - Int.toNat 0) (List.drop (Int.toNat 0) r3.1)++[FactorOf.mk (Atom.mk r3.2.2.Atom.Kind r3.2.2.Atom.Row r3.2.2.Atom.Args r3.2.2.Atom.Func r3.2.2.Atom.Items r3.2.2.Atom.Op r3.2.2.Atom.Bound) r3.2.2.Exp]).length+(List.take ((Int.ofNat r3.1.length).toNat - (IntKind.i64.wrap (r3.2.1+1)).toNat) (List.drop (IntKind.i64.wrap (r3.2.1+1)).toNat r3.1)).length)*128≤zbk)) (.k ([]++List.take (r3.2.1.toNat - Int.toNat 0) (List.drop (Int.toNat 0) r3.1)++[FactorOf.mk (Atom.mk r3.2.2.Atom.Kind r3.2.2.Atom.Row r3.2.2.Atom.Args r3.2.2.Atom.Func r3.2.2.Atom.Items r3.2.2.Atom.Op r3.2.2.Atom.Bound) r3.2.2.Exp]++List.take ((Int.ofNat r3.1.length).toNat - (IntKind.i64.wrap (r3.2.1+1)).toNat) (List.drop (IntKind.i64.wrap (r3.2.1+1)).toNat r3.1))) .d) .d) .d)) (.i (decide ((([]++List.take (r3.2.1.toNat - Int.toNat 0) (List.drop (Int.toNat 0) r3.1)).length+[FactorOf.mk (Atom.mk r3.2.2.Atom.Kind r3.2.2.Atom.Row r3.2.2.Atom.Args r3.2.2.Atom.Func r3.2.2.Atom.Items r3.2.2.Atom.Op r3.2.2.Atom.Bound) r3.2.2.Exp].length)*128≤zbk)) (.i (decide (0≤r3.2.1)&&decide (r3.2.1≤Int.ofNat r3.1.length)&&decide (Int.ofNat r3.1.length≤Int.ofNat r3.1.length)) (.i (decide ((([]++List.take (r3.2.1.toNat - Int.toNat 0) (List.drop (Int.toNat 0) r3.1)++[FactorOf.mk (Atom.mk r3.2.2.Atom.Kind r3.2.2.Atom.Row r3.2.2.Atom.Args r3.2.2.Atom.Func r3.2.2.Atom.Items r3.2.2.Atom.Op r3.2.2.Atom.Bound) r3.2.2.Exp]).length+(List.take ((Int.ofNat r3.1.length).toNat - r3.2.1.toNat) (List.drop r3.2.1.toNat r3.1)).length)*128≤zbk)) (.k ([]++List.take (r3.2.1.toNat - Int.toNat 0) (List.drop (Int.toNat 0) r3.1)++[FactorOf.mk (Atom.mk r3.2.2.Atom.Kind r3.2.2.Atom.Row r3.2.2.Atom.Args r3.2.2.Atom.Func r3.2.2.Atom.Items r3.2.2.Atom.Op r3.2.2.Atom.Bound) r3.2.2.Exp]++List.take ((Int.ofNat r3.1.length).toNat - r3.2.1.toNat) (List.drop r3.2.1.toNat r3.1))) .d) .d) .d)) .d) (.i (decide ((([]++List.take (r3.2.1.toNat - Int.toNat 0) (List.drop (Int.toNat 0) r3.1)).length+[FactorOf.mk (Atom.mk r3.2.2.Atom.Kind r3.2.2.Atom.Row r3.2.2.Atom.Args r3.2.2.Atom.Func r3.2.2.Atom.Items r3.2.2.Atom.Op r3.2.2.Atom.Bound) r3.2.2.Exp].length)*128≤zbk)) (.i (decide (0≤r3.2.1)&&decide (r3.2.1≤Int.ofNat r3.1.length)&&decide (Int.ofNat r3.1.length≤Int.ofNat r3.1.length)) (.i (decide ((([]++List.take (r3.2.1.toNat - Int.toNat 0) (List.drop (Int.toNat 0) r3.1)++[FactorOf.mk (Atom.mk r3.2.2.Atom.Kind r3.2.2.Atom.Row r3.2.2.Atom.Args r3.2.2.Atom.Func r3.2.2.Atom.Items r3.2.2.Atom.Op r3.2.2.Atom.Bound) r3.2.2.Exp]).length+(List.take ((Int.ofNat r3.1.length).toNat - r3.2.1.toNat) (List.drop r3.2.1.toNat r3.1)).length)*128≤zbk)) (.k ([]++List.take (r3.2.1.toNat - Int.toNat 0) (List.drop (Int.toNat 0) r3.1)++[FactorOf.mk (Atom.mk r3.2.2.Atom.Kind r3.2.2.Atom.Row r3.2.2.Atom.Args r3.2.2.Atom.Func r3.2.2.Atom.Items r3.2.2.Atom.Op r3.2.2.Atom.Bound) r3.2.2.Exp]++List.take ((Int.ofNat r3.1.length).toNat - r3.2.1.toNat) (List.drop r3.2.1.toNat r3.1))) .d) .d) .d)) .d) .d
def zxG (l:yD) (f:Factor):Bool×yD:=(zNC l f).fin default
def zW6 (r:yD):ARes ty:=⟨[.pure (.sl 69 r)],[]⟩
def zZK:AL base (yD×Factor×Unit):=zd (ze (vSl 69)) (zd (ze (vAgg 69)) aNil)
def zGa:Ab.Spec ty:=zh zZK fun x=>((zxG x.1 x.2.1).1,zW6 (zxG x.1 x.2.1).2)
theorem zS6:SdP 57 zGa:=
 sW (cx':=zKk) zq zi zk (zj ⟨zqK,trivial⟩) Tryz.call57 Tryz.func57 (c:=body Tryz.f57) (lOK (aC zXb aN))
def zZI:Cx ty:=mkCx base 12 [] [] [] [] [] []
def zPO (a:Int) (b:Int):Wy0 (Int):=.i (!decide (b=0)) (.i (decide (a>IntKind.i64.wrap (Int.tdiv 1152921504606846976 b))) (.k 1152921504606846976) (.k (IntKind.i64.wrap (a*b)))) .d
def zy7 (a:Int) (b:Int):Bool×Int:=(zPO a b).fin default
def zJj:Ab.Spec ty:=zh z0o fun x=>((zy7 x.1 x.2.1).1,zVk (zy7 x.1 x.2.1).2)
theorem zVd:SdP 56 zJj:=
 sW (cx':=zZI) zq zi zk (zj trivial) Tryz.call56 Tryz.func56 (c:=body Tryz.f56) (lOK aN)
abbrev zpA:=yC×yC×Unit×Int×Int×Unit×Int×Unit
abbrev zpr:=yC×(Int×yD×Unit)×Unit
abbrev zuK:=yC×yC×Int×Int×yC×Int×yD
abbrev zpM:=yC×yC×Unit×Int×Int×Unit
abbrev zet:=yC×Unit
abbrev zuE:=yC×yC×Int×yC
abbrev zpj:=yC×yC×Unit×Int×Unit
def znh (a:yC) (b:yC) (i:Int) (k:Int) (j:Int) (out_:yC) (t_0:Int) (t_1:yD):Wy zpA zpr zuK:=.i (decide (0≤k)&&decide (k<Int.ofNat b.length)) (.i (decide (j<Int.ofNat (b.getD k.toNat default).Factors.length)) (.i (decide (0≤k)&&decide (k<Int.ofNat b.length)) (.i (decide (0≤j)&&decide (j<Int.ofNat (b.getD k.toNat default).Factors.length)) (.bn (zxG t_1 (FactorOf.mk (Atom.mk ((b.getD k.toNat default).Factors.getD j.toNat default).Atom.Kind ((b.getD k.toNat default).Factors.getD j.toNat default).Atom.Row ((b.getD k.toNat default).Factors.getD j.toNat default).Atom.Args ((b.getD k.toNat default).Factors.getD j.toNat default).Atom.Func ((b.getD k.toNat default).Factors.getD j.toNat default).Atom.Items ((b.getD k.toNat default).Factors.getD j.toNat default).Atom.Op ((b.getD k.toNat default).Factors.getD j.toNat default).Atom.Bound) ((b.getD k.toNat default).Factors.getD j.toNat default).Exp)) fun r0=>.h (a,b,(),i,k,(),(IntKind.i64.wrap (j+1)),()) (out_,(t_0,(r0),()),())) .d) .d) (.k (a,b,i,k,out_,t_0,t_1))) .d
def zyL (x:zpA) (y:zpr):Wy zpA zpr zuK:=znh x.1 x.2.1 x.2.2.2.1 x.2.2.2.2.1 x.2.2.2.2.2.2.1 y.1 y.2.1.1 y.2.1.2.1
def zGb (n:Nat) (a:yC) (b:yC) (i:Int) (k:Int) (j:Int) (out_:yC) (t_0:Int) (t_1:yD):Bool×zuK:=zJ (zyL) default n (a,b,(),i,k,(),j,()) (out_,(t_0,t_1,()),())
def zS4 (r:zuK):LTree ty:=.done (.exit 4) [.sl 28 r.1,.sl 28 r.2.1,.own 264,.lit (.int .i64 r.2.2.1),.lit (.int .i64 r.2.2.2.1),.ptr 265 0] [.arr 28 r.2.2.2.2.1 false,.box ([.lit (.int .i64 r.2.2.2.2.2.1),.sl 69 r.2.2.2.2.2.2]) false]
def zUD:LL ty zpA:=za (lSl 28) (za (lSl 28) (za (lOwn 264) (za lI64 (za lI64 (za (zdC 265 0) (za lI64 zn))))))
def zUN:BL ty zpr:=bArr 28 false (bBox (za (lInt .i64) (za (lSl 69) zn)) false (bNil))
def zo7 (a:yC) (b:yC) (i:Int) (k:Int) (out_:yC):Wy zpM zet zuE:=.i (decide (k<Int.ofNat b.length)) (.i (decide (0≤i)&&decide (i<Int.ofNat a.length)) (.i (decide (0≤k)&&decide (k<Int.ofNat b.length)) (.bn (zy7 (a.getD i.toNat default).Coeff (b.getD k.toNat default).Coeff) fun r4=>.i (decide (0≤i)&&decide (i<Int.ofNat a.length)) (.bn (zGb ((a.length+b.length+i.toNat +k.toNat +Int.toNat 0+out_.length+r4.toNat +(a.getD i.toNat default).Factors.length+1)+szTs a+szTs b+szTs out_+szFs (a.getD i.toNat default).Factors) a b i k 0 out_ r4 (a.getD i.toNat default).Factors) fun r3=>.bn (zAi r3.2.2.2.2.1 (TermOf.mk r3.2.2.2.2.2.1 r3.2.2.2.2.2.2)) fun r2=>.h ((r3.1),(r3.2.1),(),(r3.2.2.1),(IntKind.i64.wrap (r3.2.2.2.1+1)),()) ((r2),())) .d) .d) .d) (.k (a,b,i,out_))
def zzO (x:zpM) (y:zet):Wy zpM zet zuE:=zo7 x.1 x.2.1 x.2.2.2.1 x.2.2.2.2.1 y.1
def zIx (n:Nat) (a:yC) (b:yC) (i:Int) (k:Int) (out_:yC):Bool×zuE:=zJ (zzO) default n (a,b,(),i,k,()) (out_,())
def zUM (r:zuE):LTree ty:=.done (.exit 2) [.sl 28 r.1,.sl 28 r.2.1,.own 264,.lit (.int .i64 r.2.2.1)] [.arr 28 r.2.2.2 false]
def zXt:LL ty zpM:=za (lSl 28) (za (lSl 28) (za (lOwn 264) (za lI64 (za lI64 zn))))
def zWO:BL ty zet:=bArr 28 false (bNil)
def zpa (a:yC) (b:yC) (i:Int) (out_:yC):Wy zpj zet (yC):=.i (decide (i<Int.ofNat a.length)) (.bn (zIx ((a.length+b.length+i.toNat +Int.toNat 0+out_.length+1)+szTs a+szTs b+szTs out_) a b i 0 out_) fun r8=>.h ((r8.1),(r8.2.1),(),(IntKind.i64.wrap (r8.2.2.1+1)),()) ((r8.2.2.2),())) (.k out_)
def zz1 (x:zpj) (y:zet):Wy zpj zet (yC):=zpa x.1 x.2.1 x.2.2.2.1 y.1
def zJn (n:Nat) (a:yC) (b:yC) (i:Int) (out_:yC):Bool×yC:=zJ (zz1) default n (a,b,(),i,()) (out_,())
def zVs (r:yC):LTree ty:=.done (.exit 0) [.own 264] [.arr 28 r false]
def zWM:LL ty zpj:=za (lSl 28) (za (lSl 28) (za (lOwn 264) (za lI64 zn)))
def zTH (x:zpA) (y:zpr):Nat:=((x.1.length+x.2.1.length+Int.toNat x.2.2.2.1+Int.toNat x.2.2.2.2.1+Int.toNat x.2.2.2.2.2.2.1+y.1.length+Int.toNat y.2.1.1+y.2.1.2.1.length+1)+szTs x.1+szTs x.2.1+szTs y.1+szFs y.2.1.2.1)
def zUo (x:zpM) (y:zet):Nat:=((x.1.length+x.2.1.length+Int.toNat x.2.2.2.1+Int.toNat x.2.2.2.2.1+y.1.length+1)+szTs x.1+szTs x.2.1+szTs y.1)
def zUG (x:zpj) (y:zet):Nat:=((x.1.length+x.2.1.length+Int.toNat x.2.2.2.1+y.1.length+1)+szTs x.1+szTs x.2.1+szTs y.1)
def zu9:Cx ty:=mkCx base 66 [(56,zJj),(57,zGa),(58,zCQ)] [] [(3,(kpL [0,1,5,6])),(6,(kpL [0,1,5,6,7])),(10,(kpL [0,1,5,6,7,8,9]))] [(3,1,(kpL [5])),(6,3,(kpL [0,1,5,6])),(10,5,(kpL [0,1,5,6,7,8]))] [(10,spW zUD zUN (zyL) default zS4 zTH),(6,spW zXt zWO (zzO) default zUM zUo),(3,spW zWM zWO (zz1) default zVs zUG)] []
theorem zRV:zI zu9 (lp (body Tryz.f17) 2):=zt (id:=10) (hl:=rfl)
theorem zU8:zI zu9 (lp (body Tryz.f17) 1):=zt (id:=6) (hl:=rfl)
theorem zUh:zI zu9 (lp (body Tryz.f17) 0):=zt (id:=3) (hl:=rfl)
def zKN (a:yC) (b:yC):Wy0 (yC):=.bn (zJn ((a.length+b.length+Int.toNat 0+0+1)+szTs a+szTs b+szTs []) a b 0 []) fun r10=>.k r10
def zmS (a:yC) (b:yC):Bool×yC:=(zKN a b).fin default
def zx1:Ab.Spec ty:=zh zYr fun x=>((zmS x.1 x.2.1).1,zFD (zmS x.1 x.2.1).2)
theorem zCd:SdP 17 zx1:=
 sW (cx':=zu9) zq zi zk (zj ⟨zVd,zS6,zKs,trivial⟩) Tryz.call17 Tryz.func17 (c:=body Tryz.f17) (lOK (aC zUh (aC zU8 (aC zRV aN)))) (sg:=⟨[.own 28],[]⟩)
abbrev zxN:=yC×yC×Int×Unit
def z2R (a:yC) (b:yC) (i:Int):Wy zxN (Unit) (yC):=.i (decide (i<Int.ofNat b.length)) (.i (decide (0≤i)&&decide (i<Int.ofNat b.length)) (.bn (zAi a (b.getD i.toNat default)) fun r0=>.h ((r0),b,(IntKind.i64.wrap (i+1)),()) ()) .d) (.k a)
def zS3 (x:zxN) (y:Unit):Wy zxN (Unit) (yC):=z2R x.1 x.2.1 x.2.2.1
def z2q (n:Nat) (a:yC) (b:yC) (i:Int):Bool×yC:=zJ (zS3) default n (a,b,i,()) ()
def z1L (r:yC):LTree ty:=.done (.exit 0) [.sl 28 r] []
def z2s:LL ty zxN:=za (lSl 28) (za (lSl 28) (za lI64 zn))
def z1B (x:zxN) (y:Unit):Nat:=(x.1.length+x.2.1.length+Int.toNat x.2.2.1+1)
def zRQ:Cx ty:=mkCx base 19 [(58,zCQ)] [] [(2,[(0,.sl 28),(1,.keep),(5,.keep)])] [(2,1,(kpL [0]))] [(2,spW z2s zSV (zS3) default z1L z1B)] []
theorem z1S:zI zRQ (lp (body Tryz.f45) 0):=zt (id:=2) (hl:=rfl)
def z4k (a:yC) (b:yC):Wy0 (yC):=.bn (z2q (a.length+b.length+Int.toNat 0+1) a b 0) fun r2=>.k r2
def zRz (a:yC) (b:yC):Bool×yC:=(z4k a b).fin default
def z16 (r:yC):ARes ty:=⟨[.pure (.sl 28 r)],[]⟩
def zNV:Ab.Spec ty:=zh zYr fun x=>((zRz x.1 x.2.1).1,z16 (zRz x.1 x.2.1).2)
theorem zYO:SdP 45 zNV:=
 sW (cx':=zRQ) zq zi zk (zj ⟨zKs,trivial⟩) Tryz.call45 Tryz.func45 (c:=body Tryz.f45) (lOK (aC z1S aN))
abbrev zj3:=yF×yF×Int×Unit
abbrev zok:=Int⊕(yF×yF)
def zOw (a:yF) (b:yF) (i:Int):Wy zj3 (Unit) zok:=.i (decide (i<Int.ofNat a.length)) (.i (decide (i<Int.ofNat b.length)) (.i (decide (0≤i)&&decide (i<Int.ofNat a.length)) (.i (decide (0≤i)&&decide (i<Int.ofNat b.length)) (.bn (zlm (a.getD i.toNat default) (b.getD i.toNat default)) fun r0=>.i (r0 != 0) (.k (.inl (r0))) (.h (a,b,(IntKind.i64.wrap (i+1)),()) ())) .d) .d) (.k (.inr (a,b)))) (.k (.inr (a,b)))
def zBw (x:zj3) (y:Unit):Wy zj3 (Unit) zok:=zOw x.1 x.2.1 x.2.2.1
def zOI (n:Nat) (a:yF) (b:yF) (i:Int):Bool×zok:=zJ (zBw) (.inl default) n (a,b,i,()) ()
def zNu (r:zok):LTree ty:=.ite (isL r) (.done .ret [.lit (.int .i64 (getL r))] []) (.done (.exit 0) [.sl 49 (getR r).1,.sl 49 (getR r).2] [])
def zPi:LL ty zj3:=za (lSl 49) (za (lSl 49) (za lI64 zn))
def zMt (x:zj3) (y:Unit):Nat:=(x.1.length+x.2.1.length+Int.toNat x.2.2.1+1000)
def zBA:Cx ty:=mkCx base 41 [(105,ztT)] [] [(2,(kpL [0,1,5]))] [(2,1,(kpL [0,1])),(2,0,(kpL [4]))] [(2,spW zPi zSV (zBw) (.inl default) zNu zMt)] []
theorem zNt:zI zBA (lp (body Tryz.f76) 0):=zt (id:=2) (hl:=rfl)
def zRg (a:yF) (b:yF):Wy0 (Int):=.bn (zOI (a.length+b.length+Int.toNat 0+1000) a b 0) fun r2=>.i (isL r2) (.k (getL r2)) (.i (Int.ofNat (getR r2).1.length==Int.ofNat (getR r2).2.length) (.k 0) (.i (decide (Int.ofNat (getR r2).1.length<Int.ofNat (getR r2).2.length)) (.k (-1:Int)) (.k 1)))
def zyZ (a:yF) (b:yF):Bool×Int:=(zRg a b).fin default
def zy8:Ab.Spec ty:=zh zyb fun x=>((zyZ x.1 x.2.1).1,zVk (zyZ x.1 x.2.1).2)
theorem zJt:SdP 76 zy8:=
 sW (cx':=zBA) zq zi zk (zj ⟨zzd,trivial⟩) Tryz.call76 Tryz.func76 (c:=body Tryz.f76) (lOK (aC zNt aN))
abbrev zvR:=yB×yB×Int×Unit
def z1C (a:yB) (b:yB) (i:Int):Wy zvR (Unit) (Bool⊕Unit):=.i (decide (i<Int.ofNat a.length)) (.i (decide (0≤i)&&decide (i<Int.ofNat a.length)) (.i (decide (0≤i)&&decide (i<Int.ofNat b.length)) (.bn (zyZ (a.getD i.toNat default) (b.getD i.toNat default)) fun r0=>.i (r0 != 0) (.k (.inl false)) (.h (a,b,(IntKind.i64.wrap (i+1)),()) ())) .d) .d) (.k (.inr ()))
def zPV (x:zvR) (y:Unit):Wy zvR (Unit) (Bool⊕Unit):=z1C x.1 x.2.1 x.2.2.1
def z1i (n:Nat) (a:yB) (b:yB) (i:Int):Bool×(Bool⊕Unit):=zJ (zPV) (.inl default) n (a,b,i,()) ()
def z1t:LL ty zvR:=za (lSl 43) (za (lSl 43) (za lI64 zn))
def zZx (x:zvR) (y:Unit):Nat:=(x.1.length+x.2.1.length+Int.toNat x.2.2.1+1000)
def zPS:Cx ty:=mkCx base 27 [(76,zy8)] [] [(4,(kpL [0,1,5]))] [(4,1,[]),(4,0,(kpL [4]))] [(4,spW z1t zSV (zPV) (.inl default) z0q zZx)] []
theorem zZL:zI zPS (lp (body Tryz.f26) 0):=zt (id:=4) (hl:=rfl)
def z28 (a:yB) (b:yB):Wy0 (Bool):=.i (Int.ofNat a.length != Int.ofNat b.length) (.k false) (.bn (z1i (a.length+b.length+Int.toNat 0+1000) a b 0) fun r2=>.i (isL r2) (.k (getL r2)) (.k true))
def zO3 (a:yB) (b:yB):Bool×Bool:=(z28 a b).fin default
def zKr:Ab.Spec ty:=zh zXs fun x=>((zO3 x.1 x.2.1).1,zY8 (zO3 x.1 x.2.1).2)
theorem zXB:SdP 26 zKr:=
 sW (cx':=zPS) zq zi zk (zj ⟨zJt,trivial⟩) Tryz.call26 Tryz.func26 (c:=body Tryz.f26) (lOK (aC zZL aN))
abbrev zyk:=yC×yC×yC×Unit×Int×Unit×Unit×Unit×Unit
abbrev zym:=yB×(Int×Int×Unit)×(Int×Int×Unit)×(Int×Int×Unit)×Unit
def zZN (x_:yC) (y_:yC) (a:yC) (e:Int) (l:yB) (one_0:Int) (one_1:Int) (two_0:Int) (two_1:Int) (three_0:Int) (three_1:Int):Wy zyk zym (Bool):=.bn (zyY a) fun r7=>.bn (zmS y_ y_) fun r6=>.bn (zRz x_ r6) fun r5=>.bn (zuT r7 r5) fun r4=>.i (r4) (.i (e==0) (.bn (zO3 l [[RowID.mk one_0 one_1,RowID.mk two_0 two_1],[RowID.mk one_0 one_1,RowID.mk three_0 three_1]]) fun r3=>.i (r3) (.bn (zyS a a) fun r2=>.i (r2) (.i (decide ((0:Int)≤(0:Int))&&decide (0<Int.ofNat x_.length)) (.bn (zmS x_ y_) fun r1=>.i (decide ((0:Int)≤(0:Int))&&decide (0<Int.ofNat r1.length)) (.bn (zci (x_.getD (Int.toNat 0) default) (r1.getD (Int.toNat 0) default)) fun r0=>.k r0) .d) .d) (.k false)) (.k false)) (.k false)) (.k false)
def zZH (x:zyk) (y:zym):Wy zyk zym (Bool):=zZN x.1 x.2.1 x.2.2.1 x.2.2.2.2.1 y.1 y.2.1.1 y.2.1.2.1 y.2.2.1.1 y.2.2.1.2.1 y.2.2.2.1.1 y.2.2.2.1.2.1
def zXU (r:Bool):LTree ty:=.done .ret [.lit (.bool r)] []
def zZA:LL ty zyk:=za (lSl 28) (za (lSl 28) (za (lSl 28) (za (lOwn 328) (za lI64 (za (zdC 329 0) (za (zdC 330 0) (za (zdC 331 0) zn)))))))
def zZZ:BL ty zym:=bArr 43 false (bBox (za (lInt .i64) (za (lInt .i64) zn)) false (bBox (za (lInt .i64) (za (lInt .i64) zn)) false (bBox (za (lInt .i64) (za (lInt .i64) zn)) false (bNil))))
def zMJ:Cx ty:=z2e base0 82 [(14,zh0),(17,zx1),(18,zzs),(22,zzn),(24,zwz),(26,zKr),(30,zA7),(44,zCa),(45,zNV),(46,zH5),(47,zIG)] [] [(6,[(1,.sl 28),(2,.sl 28),(4,.sl 28),(7,.keep),(8,.keep),(9,.keep),(10,.keep),(11,.keep)])] [(6,0,(kpL [0]))] [] [] [(6,spW zZA zZZ (zZH) default zXU fun x y=>(1))]
theorem zYX:zEO zMJ (jn (body Tryz.f12) 6):=zIX (id:=6) (hl:=rfl)
def z15:Wy0 (Bool):=.k true
def zV2:Bool×Bool:=(z15).fin default
def z1J:AL base0 (Unit):=aNil
def zHP:Ab.Spec ty:=zh z1J fun x=>((zV2 ).1,zY8 (zV2 ).2)
theorem zUx:Sound Tryz.prog base0 12 zHP:=
 zT8 (cx':=zMJ) zq zh8 z40 (z3Q ⟨zkk.nodr,zCd.nodr,zJO.nodr,zJM,zFs.nodr,zXB.nodr,zIE.nodr,zPk.nodr,zYO.nodr,zVi.nodr,zUz.nodr,trivial⟩) Tryz.call12 Tryz.func12 (c:=body Tryz.f12) (by kernel_rfl) (zP5 (l:=[]) (by kernel_rfl) trivial (js:=[jn (body Tryz.f12) 6]) (by kernel_rfl) ⟨zYX,trivial⟩) (sg:=⟨[.pure],[]⟩)
def zZB:AL base (yC×Int×Int×Unit):=zd (ze (vSl 28)) (zd (ze (vInt .i64)) (zd (ze (vInt .i64)) aNil))
def ztO (F:yC→Int→Int→Bool×Int):Ab.Spec ty:=zh zZB fun x=>((F x.1 x.2.1 x.2.2.1).1,zVk (F x.1 x.2.1 x.2.2.1).2)
abbrev ze8:=yC×Int×Int×Int×Int×Int×Unit×Int×Unit
abbrev zwU:=yC×Int×Int×Int×Int×Int×Atom
abbrev zwJ:=yC×Int×Int×Int×Int×Int
abbrev zrF:=yC×Int×Int×Int×Int×Int×Unit
abbrev zwG:=yC×Int×Int×Int×Int
abbrev zr6:=yC×Int×Int×Int×Int×Unit
def zxx (zF:yC→Int→Int→Bool×Int) (a:yC) (limit:Int) (deep:Int) (n_:Int) (i:Int) (k:Int) (j:Int) (x_:Atom):Wy ze8 (Atom×Unit) zwU:=.i (decide (j<Int.ofNat x_.Args.length)) (.i (decide (n_≤limit)) (.i (decide (0≤j)&&decide (j<Int.ofNat x_.Args.length)) (.bn (zF (x_.Args.getD j.toNat default) (IntKind.i64.wrap (limit - n_)) (IntKind.i64.wrap (deep - 1))) fun r0=>.h (a,limit,deep,(IntKind.i64.wrap (n_+r0)),i,k,(),(IntKind.i64.wrap (j+1)),()) (x_,())) .d) (.k (a,limit,deep,n_,i,k,x_))) (.k (a,limit,deep,n_,i,k,x_))
def zD9 (zF:yC→Int→Int→Bool×Int) (x:ze8) (y:Atom×Unit):Wy ze8 (Atom×Unit) zwU:=zxx zF x.1 x.2.1 x.2.2.1 x.2.2.2.1 x.2.2.2.2.1 x.2.2.2.2.2.1 x.2.2.2.2.2.2.2.1 y.1
def zx6 (zF:yC→Int→Int→Bool×Int) (n:Nat) (a:yC) (limit:Int) (deep:Int) (n_:Int) (i:Int) (k:Int) (j:Int) (x_:Atom):Bool×zwU:=zJ (zD9 zF) default n (a,limit,deep,n_,i,k,(),j,()) (x_,())
def zQh (r:zwU):LTree ty:=.done (.exit 4) [.sl 28 r.1,.lit (.int .i64 r.2.1),.lit (.int .i64 r.2.2.1),.lit (.int .i64 r.2.2.2.1),.lit (.int .i64 r.2.2.2.2.1),.lit (.int .i64 r.2.2.2.2.2.1),.ptr 544 0] [.box (base.enc 67 r.2.2.2.2.2.2) false]
def zSn:LL ty ze8:=za (lSl 28) (za lI64 (za lI64 (za lI64 (za lI64 (za lI64 (za (zdC 544 0) (za lI64 zn)))))))
def zxA (zF:yC→Int→Int→Bool×Int) (a:yC) (limit:Int) (deep:Int) (n_:Int) (i:Int) (k:Int) (j:Int) (x_:Atom):Wy ze8 (Atom×Unit) zwJ:=.i (decide (j<Int.ofNat x_.Items.length)) (.i (decide (n_≤limit)) (.i (decide (0≤j)&&decide (j<Int.ofNat x_.Items.length)) (.i (decide (0≤j)&&decide (j<Int.ofNat x_.Items.length)) (.bn (zF (x_.Items.getD j.toNat default).Ann (IntKind.i64.wrap (limit - n_)) (IntKind.i64.wrap (deep - 1))) fun r2=>.h (a,limit,deep,(IntKind.i64.wrap (IntKind.i64.wrap (n_+Int.ofNat (x_.Items.getD j.toNat default).Value.Text.size)+r2)),i,k,(),(IntKind.i64.wrap (j+1)),()) (x_,())) .d) .d) (.k (a,limit,deep,n_,i,k))) (.k (a,limit,deep,n_,i,k))
def zEE (zF:yC→Int→Int→Bool×Int) (x:ze8) (y:Atom×Unit):Wy ze8 (Atom×Unit) zwJ:=zxA zF x.1 x.2.1 x.2.2.1 x.2.2.2.1 x.2.2.2.2.1 x.2.2.2.2.2.1 x.2.2.2.2.2.2.2.1 y.1
def zx7 (zF:yC→Int→Int→Bool×Int) (n:Nat) (a:yC) (limit:Int) (deep:Int) (n_:Int) (i:Int) (k:Int) (j:Int) (x_:Atom):Bool×zwJ:=zJ (zEE zF) default n (a,limit,deep,n_,i,k,(),j,()) (x_,())
def zQG (r:zwJ):LTree ty:=.done (.exit 6) [.sl 28 r.1,.lit (.int .i64 r.2.1),.lit (.int .i64 r.2.2.1),.lit (.int .i64 r.2.2.2.1),.lit (.int .i64 r.2.2.2.2.1),.lit (.int .i64 r.2.2.2.2.2)] []
def zyR (zF:yC→Int→Int→Bool×Int) (a:yC) (limit:Int) (deep:Int) (n_:Int) (i:Int) (k:Int):Wy zrF (Unit) zwG:=.i (decide (0≤i)&&decide (i<Int.ofNat a.length)) (.i (decide (k<Int.ofNat (a.getD i.toNat default).Factors.length)) (.i (decide (n_≤limit)) (.i (decide (0≤i)&&decide (i<Int.ofNat a.length)) (.i (decide (0≤k)&&decide (k<Int.ofNat (a.getD i.toNat default).Factors.length)) (.bn (zx6 zF (a.length+limit.toNat +deep.toNat +(IntKind.i64.wrap (IntKind.i64.wrap (IntKind.i64.wrap (n_+Int.ofNat ((a.getD i.toNat default).Factors.getD k.toNat default).Atom.Items.length)+Int.ofNat ((a.getD i.toNat default).Factors.getD k.toNat default).Atom.Args.length)+Int.ofNat ((a.getD i.toNat default).Factors.getD k.toNat default).Atom.Bound.Text.size)).toNat +i.toNat +k.toNat +Int.toNat 0+((a.getD i.toNat default).Factors.getD k.toNat default).Atom.Args.length+((a.getD i.toNat default).Factors.getD k.toNat default).Atom.Items.length+1) a limit deep (IntKind.i64.wrap (IntKind.i64.wrap (IntKind.i64.wrap (n_+Int.ofNat ((a.getD i.toNat default).Factors.getD k.toNat default).Atom.Items.length)+Int.ofNat ((a.getD i.toNat default).Factors.getD k.toNat default).Atom.Args.length)+Int.ofNat ((a.getD i.toNat default).Factors.getD k.toNat default).Atom.Bound.Text.size)) i k 0 (Atom.mk ((a.getD i.toNat default).Factors.getD k.toNat default).Atom.Kind ((a.getD i.toNat default).Factors.getD k.toNat default).Atom.Row ((a.getD i.toNat default).Factors.getD k.toNat default).Atom.Args ((a.getD i.toNat default).Factors.getD k.toNat default).Atom.Func ((a.getD i.toNat default).Factors.getD k.toNat default).Atom.Items ((a.getD i.toNat default).Factors.getD k.toNat default).Atom.Op ((a.getD i.toNat default).Factors.getD k.toNat default).Atom.Bound)) fun r5=>.bn (zx7 zF (r5.1.length+r5.2.1.toNat +r5.2.2.1.toNat +r5.2.2.2.1.toNat +r5.2.2.2.2.1.toNat +r5.2.2.2.2.2.1.toNat +Int.toNat 0+r5.2.2.2.2.2.2.Args.length+r5.2.2.2.2.2.2.Items.length+1) r5.1 r5.2.1 r5.2.2.1 r5.2.2.2.1 r5.2.2.2.2.1 r5.2.2.2.2.2.1 0 (Atom.mk r5.2.2.2.2.2.2.Kind r5.2.2.2.2.2.2.Row r5.2.2.2.2.2.2.Args r5.2.2.2.2.2.2.Func r5.2.2.2.2.2.2.Items r5.2.2.2.2.2.2.Op r5.2.2.2.2.2.2.Bound)) fun r4=>.h ((r4.1),(r4.2.1),(r4.2.2.1),(r4.2.2.2.1),(r4.2.2.2.2.1),(IntKind.i64.wrap (r4.2.2.2.2.2+1)),()) ()) .d) .d) (.k (a,limit,deep,n_,i))) (.k (a,limit,deep,n_,i))) .d
def zGj (zF:yC→Int→Int→Bool×Int) (x:zrF) (y:Unit):Wy zrF (Unit) zwG:=zyR zF x.1 x.2.1 x.2.2.1 x.2.2.2.1 x.2.2.2.2.1 x.2.2.2.2.2.1
def zyJ (zF:yC→Int→Int→Bool×Int) (n:Nat) (a:yC) (limit:Int) (deep:Int) (n_:Int) (i:Int) (k:Int):Bool×zwG:=zJ (zGj zF) default n (a,limit,deep,n_,i,k,()) ()
def zRX (r:zwG):LTree ty:=.done (.exit 2) [.sl 28 r.1,.lit (.int .i64 r.2.1),.lit (.int .i64 r.2.2.1),.lit (.int .i64 r.2.2.2.1),.lit (.int .i64 r.2.2.2.2)] []
def zVn:LL ty zrF:=za (lSl 28) (za lI64 (za lI64 (za lI64 (za lI64 (za lI64 zn)))))
def zy2 (zF:yC→Int→Int→Bool×Int) (a:yC) (limit:Int) (deep:Int) (n_:Int) (i:Int):Wy zr6 (Unit) (Int):=.i (decide (i<Int.ofNat a.length)) (.i (decide (n_≤limit)) (.i (decide (0≤i)&&decide (i<Int.ofNat a.length)) (.bn (zyJ zF (a.length+limit.toNat +deep.toNat +(IntKind.i64.wrap (IntKind.i64.wrap (n_+1)+Int.ofNat (a.getD i.toNat default).Factors.length)).toNat +i.toNat +Int.toNat 0+1) a limit deep (IntKind.i64.wrap (IntKind.i64.wrap (n_+1)+Int.ofNat (a.getD i.toNat default).Factors.length)) i 0) fun r8=>.h ((r8.1),(r8.2.1),(r8.2.2.1),(r8.2.2.2.1),(IntKind.i64.wrap (r8.2.2.2.2+1)),()) ()) .d) (.k n_)) (.k n_)
def zGl (zF:yC→Int→Int→Bool×Int) (x:zr6) (y:Unit):Wy zr6 (Unit) (Int):=zy2 zF x.1 x.2.1 x.2.2.1 x.2.2.2.1 x.2.2.2.2.1
def zyT (zF:yC→Int→Int→Bool×Int) (n:Nat) (a:yC) (limit:Int) (deep:Int) (n_:Int) (i:Int):Bool×Int:=zJ (zGl zF) default n (a,limit,deep,n_,i,()) ()
def zVl:LL ty zr6:=za (lSl 28) (za lI64 (za lI64 (za lI64 (za lI64 zn))))
def zQX (x:ze8) (y:Atom×Unit):Nat:=(x.1.length+Int.toNat x.2.1+Int.toNat x.2.2.1+Int.toNat x.2.2.2.1+Int.toNat x.2.2.2.2.1+Int.toNat x.2.2.2.2.2.1+Int.toNat x.2.2.2.2.2.2.2.1+y.1.Args.length+y.1.Items.length+1)
def zSX (x:zrF) (y:Unit):Nat:=(x.1.length+Int.toNat x.2.1+Int.toNat x.2.2.1+Int.toNat x.2.2.2.1+Int.toNat x.2.2.2.2.1+Int.toNat x.2.2.2.2.2.1+1)
def zSs (x:zr6) (y:Unit):Nat:=(x.1.length+Int.toNat x.2.1+Int.toNat x.2.2.1+Int.toNat x.2.2.2.1+Int.toNat x.2.2.2.2.1+1)
def zny (zF:yC→Int→Int→Bool×Int):Cx ty:=mkCx base 136 [(48,(ztO zF))] [] [(5,(kpL [0,1,2,7,8])),(9,(kpL [0,1,2,7,8,9])),(14,(kpL [0,1,2,7,8,9,10,11])),(18,(kpL [0,1,2,7,8,9,10,12]))] [(5,1,(kpL [7])),(9,3,(kpL [0,1,2,7,8])),(14,5,(kpL [0,1,2,7,8,9,10])),(18,7,(kpL [0,1,2,7,8,9]))] [(14,spW zSn zQI (zD9 zF) default zQh zQX),(18,spW zSn zQI (zEE zF) default zQG zQX),(9,spW zVn zSV (zGj zF) default zRX zSX),(5,spW zVl zSV (zGl zF) default zQS zSs)] []
theorem zQu (zF:yC→Int→Int→Bool×Int):zI (zny zF) (lp (body Tryz.f48) 2):=zt (id:=14) (hl:=rfl)
theorem zQl (zF:yC→Int→Int→Bool×Int):zI (zny zF) (lp (body Tryz.f48) 3):=zt (id:=18) (hl:=rfl)
theorem zTO (zF:yC→Int→Int→Bool×Int):zI (zny zF) (lp (body Tryz.f48) 1):=zt (id:=9) (hl:=rfl)
theorem zRq (zF:yC→Int→Int→Bool×Int):zI (zny zF) (lp (body Tryz.f48) 0):=zt (id:=5) (hl:=rfl)
def zzV (zF:yC→Int→Int→Bool×Int) (a:yC) (limit:Int) (deep:Int):Wy0 (Int):=.i (deep==0) (.k (IntKind.i64.wrap (limit+1))) (.bn (zyT zF (a.length+limit.toNat +deep.toNat +Int.toNat 0+Int.toNat 0+1) a limit deep 0 0) fun r10=>.k r10)
def ztW (zF:yC→Int→Int→Bool×Int) (a:yC) (limit:Int) (deep:Int):Bool×Int:=(zzV zF a limit deep).fin default
theorem zO0 (zF:yC→Int→Int→Bool×Int) (zXE:SdP 48 (ztO zF)):SdP 48 (ztO (ztW zF)):=
 sW (cx':=(zny zF)) zq zi zk (zj ⟨zXE,trivial⟩) Tryz.call48 Tryz.func48 (c:=body Tryz.f48) (lOK (aC (zRq zF) (aC (zTO zF) (aC (zQu zF) (aC (zQl zF) aN)))))
def zVX:Nat→(yC→Int→Int→Bool×Int)
 | 0=>fun _ _ _=>(false,default)
 | n+1=>ztW (zVX n)
def zoP (n:Nat):yC→Int→Int→Bool×Int:=zVX n
theorem zF9 (n:Nat):zoP (n+1)=ztW (zoP n):=rfl
theorem zPU:∀ n,SdP 48 (ztO (zoP n))
 | 0=>zY Tryz.call48 (fun _=>rfl)
 | n+1=>by
  have ih:=zPU n;exact zO0 _ (ih)
def zH3:yC→Int→Int→Bool×Int:=zoP 1000
def ref05_weight_spec:Ab.Spec ty:=ztO zH3
theorem zR2:SdP 48 ref05_weight_spec:=(zPU 1000)
abbrev zxv:=Int×yA×Int×Unit
def zI7 (limit:Int) (l:yA) (i:Int):Wy zxv (Unit) (Bool⊕Unit):=.i (decide (i<Int.ofNat l.length)) (.i (decide (0≤i)&&decide (i<Int.ofNat l.length)) (.bn (zH3 (l.getD i.toNat default) limit 12) fun r0=>.i (decide (r0>limit)) (.k (.inl false)) (.h (limit,l,(IntKind.i64.wrap (i+1)),()) ())) .d) (.k (.inr ()))
def zSo (x:zxv) (y:Unit):Wy zxv (Unit) (Bool⊕Unit):=zI7 x.1 x.2.1 x.2.2.1
def zHY (n:Nat) (limit:Int) (l:yA) (i:Int):Bool×(Bool⊕Unit):=zJ (zSo) (.inl default) n (limit,l,i,()) ()
def z3O:LL ty zxv:=za lI64 (za (lSl 23) (za lI64 zn))
def z11 (x:zxv) (y:Unit):Nat:=(Int.toNat x.1+x.2.1.length+Int.toNat x.2.2.1+1)
def zRA:Cx ty:=mkCx base 20 [(48,ref05_weight_spec)] [] [(2,(kpL [0,1,5]))] [(2,1,[]),(2,0,(kpL [4]))] [(2,spW z3O zSV (zSo) (.inl default) z0q z11)] []
theorem z1W:zI zRA (lp (body Tryz.f13) 0):=zt (id:=2) (hl:=rfl)
def zVU (limit:Int) (l:yA):Wy0 (Bool):=.bn (zHY (limit.toNat +l.length+Int.toNat 0+1) limit l 0) fun r2=>.i (isL r2) (.k (getL r2)) (.k true)
def zxi (limit:Int) (l:yA):Bool×Bool:=(zVU limit l).fin default
def z4h:AL base (Int×yA×Unit):=zd (ze vI64) (zd (ze (vSl 23)) aNil)
def zMp:Ab.Spec ty:=zh z4h fun x=>((zxi x.1 x.2.1).1,zY8 (zxi x.1 x.2.1).2)
theorem zYs:SdP 13 zMp:=
 sW (cx':=zRA) zq zi zk (zj ⟨zR2,trivial⟩) Tryz.call13 Tryz.func13 (c:=body Tryz.f13) (lOK (aC z1W aN))
abbrev zpm:=Unit×Unit×Int×Bool×Int×Unit
abbrev zd4:=Term×Term×Unit
abbrev zvi:=Int×Bool×Term×Term
abbrev zpC:=Unit×Unit×Int×Unit
def zz7 (i:Int) (found:Bool) (k:Int) (a:Term) (b:Term):Wy zpm zd4 zvi:=.i (decide (k<Int.ofNat b.Factors.length)) (.i (found) (.h ((),(),i,true,(IntKind.i64.wrap (k+1)),()) (a,b,())) (.i (decide (0≤i)&&decide (i<Int.ofNat a.Factors.length)) (.i (decide (0≤k)&&decide (k<Int.ofNat b.Factors.length)) (.bn (zh5 (Atom.mk (a.Factors.getD i.toNat default).Atom.Kind (a.Factors.getD i.toNat default).Atom.Row (a.Factors.getD i.toNat default).Atom.Args (a.Factors.getD i.toNat default).Atom.Func (a.Factors.getD i.toNat default).Atom.Items (a.Factors.getD i.toNat default).Atom.Op (a.Factors.getD i.toNat default).Atom.Bound) (Atom.mk (b.Factors.getD k.toNat default).Atom.Kind (b.Factors.getD k.toNat default).Atom.Row (b.Factors.getD k.toNat default).Atom.Args (b.Factors.getD k.toNat default).Atom.Func (b.Factors.getD k.toNat default).Atom.Items (b.Factors.getD k.toNat default).Atom.Op (b.Factors.getD k.toNat default).Atom.Bound)) fun r0=>.i (r0==0) (.i (decide (0≤i)&&decide (i<Int.ofNat a.Factors.length)) (.i (decide (0≤k)&&decide (k<Int.ofNat b.Factors.length)) (.h ((),(),i,(decide ((a.Factors.getD i.toNat default).Exp≤(b.Factors.getD k.toNat default).Exp)),(IntKind.i64.wrap (k+1)),()) (a,b,())) .d) .d) (.h ((),(),i,false,(IntKind.i64.wrap (k+1)),()) (a,b,()))) .d) .d)) (.k (i,found,a,b))
def zIq (x:zpm) (y:zd4):Wy zpm zd4 zvi:=zz7 x.2.2.1 x.2.2.2.1 x.2.2.2.2.1 y.1 y.2.1
def zzN (n:Nat) (i:Int) (found:Bool) (k:Int) (a:Term) (b:Term):Bool×zvi:=zJ (zIq) default n ((),(),i,found,k,()) (a,b,())
def zVv (r:zvi):LTree ty:=.done (.exit 2) [.ptr 224 0,.ptr 225 0,.lit (.int .i64 r.1),.lit (.bool r.2.1)] [.box (base.enc 28 r.2.2.1) false,.box (base.enc 28 r.2.2.2) false]
def zWx:LL ty zpm:=za (zdC 224 0) (za (zdC 225 0) (za lI64 (za zbao (za lI64 zn))))
def zXa:BL ty zd4:=bBox (zd6 (fun x=>(⟨x.1,x.2.1⟩:Term)) (fun x=>(x.Coeff,x.Factors,())) (fun _=>rfl) (za (lInt .i64) (za (lSl 69) zn))) false (bBox (zd6 (fun x=>(⟨x.1,x.2.1⟩:Term)) (fun x=>(x.Coeff,x.Factors,())) (fun _=>rfl) (za (lInt .i64) (za (lSl 69) zn))) false (bNil))
def zzK (i:Int) (a:Term) (b:Term):Wy zpC zd4 (Bool⊕Unit):=.i (decide (i<Int.ofNat a.Factors.length)) (.bn (zzN (i.toNat +Int.toNat 0+a.Factors.length+b.Factors.length+1000) i false 0 a b) fun r2=>.i (!r2.2.1) (.k (.inl false)) (.h ((),(),(IntKind.i64.wrap (r2.1+1)),()) ((r2.2.2.1),(r2.2.2.2),()))) (.k (.inr ()))
def zIw (x:zpC) (y:zd4):Wy zpC zd4 (Bool⊕Unit):=zzK x.2.2.1 y.1 y.2.1
def zzY (n:Nat) (i:Int) (a:Term) (b:Term):Bool×(Bool⊕Unit):=zJ (zIw) (.inl default) n ((),(),i,()) (a,b,())
def zXu:LL ty zpC:=za (zdC 224 0) (za (zdC 225 0) (za lI64 zn))
def zUS (x:zpm) (y:zd4):Nat:=(Int.toNat x.2.2.1+Int.toNat x.2.2.2.2.1+y.1.Factors.length+y.2.1.Factors.length+1000)
def zUF (x:zpC) (y:zd4):Nat:=(Int.toNat x.2.2.1+y.1.Factors.length+y.2.1.Factors.length+1000)
def zzR:Cx ty:=mkCx base 56 [(53,ref05_CompareAtom_spec)] [] [(2,(kpL [2,3,5])),(6,(kpL [2,3,5,6,7]))] [(2,1,[]),(2,0,(kpL [4])),(6,3,(kpL [2,3,5,6]))] [(6,spW zWx zXa (zIq) default zVv zUS),(2,spW zXu zXa (zIw) (.inl default) z0q zUF)] []
theorem zUj:zI zzR (lp (body Tryz.f15) 1):=zt (id:=6) (hl:=rfl)
theorem zUT:zI zzR (lp (body Tryz.f15) 0):=zt (id:=2) (hl:=rfl)
def zKA (a:Term) (b:Term):Wy0 (Bool):=.bn (zzY (Int.toNat 0+a.Factors.length+b.Factors.length+1000) 0 a b) fun r4=>.i (isL r4) (.k (getL r4)) (.k true)
def zvl (a:Term) (b:Term):Bool×Bool:=(zKA a b).fin default
def zYp:AL base zd4:=zd (ze (vAgg 28)) (zd (ze (vAgg 28)) aNil)
def zEz:Ab.Spec ty:=zh zYp fun x=>((zvl x.1 x.2.1).1,zY8 (zvl x.1 x.2.1).2)
theorem zRc:SdP 15 zEz:=
 sW (cx':=zzR) zq zi zk (zj ⟨zqK,trivial⟩) Tryz.call15 Tryz.func15 (c:=body Tryz.f15) (lOK (aC zUT (aC zUj aN)))
abbrev zif:=Unit×Unit×Unit
abbrev zcP:=Term×Term×Unit
abbrev ziu:=yC×yC×Unit×Unit×Unit
abbrev zch:=yC×yC×Int×Int×Unit
def zlk (s:Term) (t:Term):Wy zif zcP (Bool):=.bn (zmS [s] [t]) fun r2=>.i (decide ((0:Int)≤(0:Int))&&decide (0<Int.ofNat r2.length)) (.bn (zci s (r2.getD (Int.toNat 0) default)) fun r1=>.i (r1) (.i (decide ((0:Int)≤(0:Int))&&decide (0<Int.ofNat r2.length)) (.bn (zci t (r2.getD (Int.toNat 0) default)) fun r0=>.k r0) .d) (.k false)) .d
def zlq (x:zif) (y:zcP):Wy zif zcP (Bool):=zlk y.1 y.2.1
def zte (n:Nat) (s:Term) (t:Term):Bool×Bool:=zJ (zlq) default n ((),(),()) (s,t,())
def zCZ:LL ty zif:=za (zdC 332 0) (za (zdC 333 0) zn)
def zDs:BL ty zcP:=bBox (zd6 (fun x=>(⟨x.1,x.2.1⟩:Term)) (fun x=>(x.Coeff,x.Factors,())) (fun _=>rfl) (za (lInt .i64) (za (lSl 69) zn))) false (bBox (zd6 (fun x=>(⟨x.1,x.2.1⟩:Term)) (fun x=>(x.Coeff,x.Factors,())) (fun _=>rfl) (za (lInt .i64) (za (lSl 69) zn))) false (bNil))
def zlP (a:yC) (b:yC) (s:Term) (t:Term):Wy ziu zcP (Bool):=.bn (zv9 a) fun r8=>.i (!r8) (.k true) (.bn (zv9 b) fun r7=>.i (!r7) (.k true) (.bn (zte 1 s t) fun r6=>.k r6))
def zlZ (x:ziu) (y:zcP):Wy ziu zcP (Bool):=zlP x.1 x.2.1 y.1 y.2.1
def zus (n:Nat) (a:yC) (b:yC) (s:Term) (t:Term):Bool×Bool:=zJ (zlZ) default n (a,b,(),(),()) (s,t,())
def zEx:LL ty ziu:=za (lSl 28) (za (lSl 28) (za (zdC 332 0) (za (zdC 333 0) zn)))
def zl9 (a:yC) (b:yC) (i:Int) (k:Int):Wy zch (Unit) (Bool):=.i (!decide (Int.ofNat a.length=0)) (.i (decide (0≤(IntKind.i64.wrap i).tmod (Int.ofNat a.length))&&decide ((IntKind.i64.wrap i).tmod (Int.ofNat a.length)<Int.ofNat a.length)) (.i (!decide (Int.ofNat b.length=0)) (.i (decide (0≤(IntKind.i64.wrap k).tmod (Int.ofNat b.length))&&decide ((IntKind.i64.wrap k).tmod (Int.ofNat b.length)<Int.ofNat b.length)) (.bn (zci (a.getD ((IntKind.i64.wrap i).tmod (Int.ofNat a.length)).toNat default) (b.getD ((IntKind.i64.wrap k).tmod (Int.ofNat b.length)).toNat default)) fun r15=>.bn (zvl (a.getD ((IntKind.i64.wrap i).tmod (Int.ofNat a.length)).toNat default) (b.getD ((IntKind.i64.wrap k).tmod (Int.ofNat b.length)).toNat default)) fun r14=>.i (!r15==r14) (.k false) (.bn (zci (a.getD ((IntKind.i64.wrap i).tmod (Int.ofNat a.length)).toNat default) (a.getD ((IntKind.i64.wrap i).tmod (Int.ofNat a.length)).toNat default)) fun r13=>.i (!r13) (.k false) (.bn (zus 1 a b (a.getD ((IntKind.i64.wrap i).tmod (Int.ofNat a.length)).toNat default) (b.getD ((IntKind.i64.wrap k).tmod (Int.ofNat b.length)).toNat default)) fun r12=>.k r12))) .d) .d) .d) .d
def zmb (x:zch) (y:Unit):Wy zch (Unit) (Bool):=zl9 x.1 x.2.1 x.2.2.1 x.2.2.2.1
def zuz (n:Nat) (a:yC) (b:yC) (i:Int) (k:Int):Bool×Bool:=zJ (zmb) default n (a,b,i,k,()) ()
def zEh:LL ty zch:=za (lSl 28) (za (lSl 28) (za (lInt .u8) (za (lInt .u8) zn)))
def zlT (a:yC) (b:yC) (i:Int) (k:Int):Wy zch (Unit) (Bool):=.bn (zxi 40 [a,b]) fun r21=>.i (!r21) (.k true) (.i (Int.ofNat a.length==0) (.k true) (.i (Int.ofNat b.length==0) (.k true) (.bn (zuz 1 a b i k) fun r20=>.k r20)))
def zl6 (x:zch) (y:Unit):Wy zch (Unit) (Bool):=zlT x.1 x.2.1 x.2.2.1 x.2.2.2.1
def zuq (n:Nat) (a:yC) (b:yC) (i:Int) (k:Int):Bool×Bool:=zJ (zl6) default n (a,b,i,k,()) ()
def zfk:Cx ty:=z2e base0 83 [(12,zHP),(13,zMp),(14,zh0),(15,zEz),(16,ref05_Valid_spec),(17,zx1)] [] [(3,(kpL [0,1,2,3])),(5,(kpL [0,1,2,3])),(8,(kpL [0,1,9,10])),(10,(kpL [9,10]))] [(3,0,(kpL [8])),(5,0,(kpL [8])),(8,0,(kpL [8])),(10,0,(kpL [8]))] [] [] [(10,spW zCZ zDs (zlq) default zXU fun x y=>(1)),(8,spW zEx zDs (zlZ) default zXU fun x y=>(1)),(5,spW zEh zSV (zmb) default zXU fun x y=>(1)),(3,spW zEh zSV (zl6) default zXU fun x y=>(1))]
theorem zB2:zEO zfk (jn (body Tryz.f3) 10):=zIX (id:=10) (hl:=rfl)
theorem zCC:zEO zfk (jn (body Tryz.f3) 8):=zIX (id:=8) (hl:=rfl)
theorem zDl:zEO zfk (jn (body Tryz.f3) 5):=zIX (id:=5) (hl:=rfl)
theorem zCU:zEO zfk (jn (body Tryz.f3) 3):=zIX (id:=3) (hl:=rfl)
def zvs (a:yC) (b:yC) (i:Int) (k:Int):Wy0 (Bool):=.bn (zuq 1 a b i k) fun r24=>.k r24
def ze0 (a:yC) (b:yC) (i:Int) (k:Int):Bool×Bool:=(zvs a b i k).fin default
def zFT:AL base0 zch:=zd (ze (vSl 28)) (zd (ze (vSl 28)) (zd (ze (vInt .u8)) (zd (ze (vInt .u8)) aNil)))
def zkL:Ab.Spec ty:=zh zFT fun x=>((ze0 x.1 x.2.1 x.2.2.1 x.2.2.2.1).1,zY8 (ze0 x.1 x.2.1 x.2.2.1 x.2.2.2.1).2)
theorem zBM:Sound Tryz.prog base0 3 zkL:=
 zT8 (cx':=zfk) zq zh8 z40 (z3Q ⟨zUx,zYs.nodr,zkk.nodr,zRc.nodr,zGk.nodr,zCd.nodr,trivial⟩) Tryz.call3 Tryz.func3 (c:=body Tryz.f3) (by kernel_rfl) (zP5 (l:=[]) (by kernel_rfl) trivial (js:=[jn (body Tryz.f3) 3,jn (body Tryz.f3) 5,jn (body Tryz.f3) 8,jn (body Tryz.f3) 10]) (by kernel_rfl) ⟨zCU,zDl,zCC,zB2,trivial⟩) (sg:=⟨[.pure],[]⟩)
def trV (v:Value):TT:=.l [.i v.Kind,.i v.Int,trB v.Text]
mutual
def zdI:Atom→TT
 | ⟨k,r,a,f,i,o,b⟩=>.l [.i k,.i r.Table,.i r.Seq,.l (zvx a),.i f,.l (zgu i),.i o,trV b]
def zpt:Factor→TT
 | ⟨x,e⟩=>.l [zdI x,.i e]
def zbF:yD→List TT
 | []=>[]
 | x::r=>zpt x::zbF r
def zx8:Term→TT
 | ⟨c,fs⟩=>.l [.l (zbF fs),.i c]
def zdi:yC→List TT
 | []=>[]
 | x::r=>zx8 x::zdi r
def zvx:yA→List TT
 | []=>[]
 | x::r=>.l (zdi x)::zvx r
def zfE:Weighted→TT
 | ⟨v,a⟩=>.l [trV v,.l (zdi a)]
def zgu:yE→List TT
 | []=>[]
 | x::r=>zfE x::zgu r
end
theorem zvo:∀ l,zbF l=l.map zpt
 | []=>by rw [zbF]; rfl
 | x::r=>by rw [zbF,zvo r]; rfl
theorem zDZ:∀ l,zdi l=l.map zx8
 | []=>by rw [zdi]; rfl
 | x::r=>by rw [zdi,zDZ r]; rfl
theorem zBv:∀ l,zvx l=l.map fun x=>.l (zdi x)
 | []=>by rw [zvx]; rfl
 | x::r=>by rw [zvx,zBv r]; rfl
theorem zsl:∀ l,zgu l=l.map zfE
 | []=>by rw [zgu]; rfl
 | x::r=>by rw [zgu,zsl r]; rfl
theorem zFP:∀ a b:List UInt8,(a.map fun x=>TT.i (x.toNat:Int))=(b.map fun x=>TT.i (x.toNat:Int))→a=b
 | [],[]=>fun _=>rfl
 | [],_::_=>fun h=>by simp at h
 | _::_,[]=>fun h=>by simp at h
 | x::a,y::b=>fun h=>by
  simp only [List.map,qj,TT.i.injEq] at h;rw [zFP a b h.2,UInt8.toNat_inj.1 (Int.ofNat.inj h.1)]
theorem z4C {a b:Value} (h:trV a=trV b):a=b:=by
 obtain ⟨k,n,s⟩:=a; obtain ⟨k',n',s'⟩:=b;simp only [trV,trB,TT.l.injEq,qj,TT.i.injEq,and_true] at h;obtain ⟨rfl,rfl,h⟩:=h;have:=zFP _ _ h;obtain ⟨⟨l⟩⟩:=s; obtain ⟨⟨l'⟩⟩:=s';simp only at this; subst this; rfl
mutual
theorem zPK:∀ a b:Atom,zdI a=zdI b→a=b
 | ⟨k,r,a,f,i,o,v⟩,⟨k',r',a',f',i',o',v'⟩=>fun h=>by
  simp only [zdI,TT.l.injEq,qj,TT.i.injEq,and_true] at h;obtain ⟨rfl,h1,h2,h3,rfl,h4,rfl,h5⟩:=h;obtain ⟨t,s⟩:=r; obtain ⟨t',s'⟩:=r';simp only at h1 h2; subst h1 h2;rw [zYN a a' h3,zWb i i' h4,z4C h5]
theorem z2K:∀ a b:Factor,zpt a=zpt b→a=b
 | ⟨x,e⟩,⟨x',e'⟩=>fun h=>by
  simp only [zpt,TT.l.injEq,qj,TT.i.injEq,and_true] at h;rw [zPK x x' h.1,h.2]
theorem zzD:∀ a b:yD,zbF a=zbF b→a=b
 | [],[]=>fun _=>rfl
 | [],_::_=>fun h=>by simp [zbF] at h
 | _::_,[]=>fun h=>by simp [zbF] at h
 | x::a,y::b=>fun h=>by
  simp only [zbF,qj] at h;rw [z2K x y h.1,zzD a b h.2]
theorem z6b:∀ a b:Term,zx8 a=zx8 b→a=b
 | ⟨c,l⟩,⟨c',l'⟩=>fun h=>by
  simp only [zx8,TT.l.injEq,qj,TT.i.injEq,and_true] at h;rw [zzD l l' h.1,h.2]
theorem zEJ:∀ a b:yC,zdi a=zdi b→a=b
 | [],[]=>fun _=>rfl
 | [],_::_=>fun h=>by simp [zdi] at h
 | _::_,[]=>fun h=>by simp [zdi] at h
 | x::a,y::b=>fun h=>by
  simp only [zdi,qj] at h;rw [z6b x y h.1,zEJ a b h.2]
theorem zYN:∀ a b:yA,zvx a=zvx b→a=b
 | [],[]=>fun _=>rfl
 | [],_::_=>fun h=>by simp [zvx] at h
 | _::_,[]=>fun h=>by simp [zvx] at h
 | x::a,y::b=>fun h=>by
  simp only [zvx,qj,TT.l.injEq] at h;rw [zEJ x y h.1,zYN a b h.2]
theorem z5s:∀ a b:Weighted,zfE a=zfE b→a=b
 | ⟨c,l⟩,⟨c',l'⟩=>fun h=>by
  simp only [zfE,TT.l.injEq,qj,and_true] at h;rw [z4C h.1,zEJ l l' h.2]
theorem zWb:∀ a b:yE,zgu a=zgu b→a=b
 | [],[]=>fun _=>rfl
 | [],_::_=>fun h=>by simp [zgu] at h
 | _::_,[]=>fun h=>by simp [zgu] at h
 | x::a,y::b=>fun h=>by
  simp only [zgu,qj] at h;rw [z5s x y h.1,zWb a b h.2]
end
def zds (P:yC→Prop) (x:Atom):Prop:=
 (x.Args.length≤1000000∧x.Items.length≤1000000∧x.Bound.Text.size≤1000000000000)∧(∀ a∈x.Args,P a)∧∀ w∈x.Items,w.Value.Text.size≤1000000000000∧P w.Ann
def zdK (P:yC→Prop) (l:yD):Prop:=l.length≤1000000∧∀ f∈l,zds P f.Atom
def zA:Nat→yC→Prop
 | 0,_=>False
 | n+1,a=>a.length≤1000000∧∀ t∈a,zdK (zA n) t.Factors
theorem zds.imp {P Q:yC→Prop} (h:∀ a,P a→Q a) {x:Atom} (hx:zds P x):zds Q x:=⟨hx.1,fun a ha=>h a (hx.2.1 a ha),fun w hw=>⟨(hx.2.2 w hw).1,h _ (hx.2.2 w hw).2⟩⟩
theorem zA.succ:∀ (n:Nat) (a:yC),zA n a→zA (n+1) a
 | 0,_,h=>h.elim
 | n+1,a,h=>⟨h.1,fun t ht=>⟨(h.2 t ht).1,fun f hf=>((h.2 t ht).2 f hf).imp (zA.succ n)⟩⟩
theorem zA.mono {n m:Nat} {a:yC} (h:zA n a) (hm:n≤m):zA m a:=by
 obtain ⟨k,rfl⟩:=Nat.exists_eq_add_of_le hm;clear hm;induction k with
 | zero=>exact h
 | succ k ih=>exact zA.succ _ _ ih
end Go.Proofs.YtljlfiomikifjaaGreatDoor
end
