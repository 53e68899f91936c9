/- Texts of this claim, joined (the program, its functions in plain words, and what they compute). -/
import Derived.Test.YtoknknbmfmddbaaGreatDoorGC4
set_option autoImplicit false
set_option linter.unusedVariables false
set_option linter.unusedSectionVars false
set_option linter.unusedSimpArgs false
set_option maxRecDepth 1000000
set_option maxHeartbeats 0
noncomputable section
namespace Go.Proofs.YtoknknbmfmddbaaGreatDoor
open Go Go.Ab
open Go.Proofs.Tryz
abbrev zng:=Unit×Unit×yF×Int×Int×Unit
abbrev znv:=Relation×(Unit×Unit×Unit)×Unit
abbrev zAU:=Int⊕Relation
abbrev zny:=Unit×Unit×Unit×Int×Int×Unit
abbrev znp:=(Unit×Unit×Unit)×(Unit×Unit×Unit)×yF×yH×yF×Unit
abbrev zAW:=Int⊕(yH×yF)
def ztN (t19:yF) (t20:Int) (t21:Int) (r:Relation):Wy zng znv zAU:=.i (decide (t21<t20)) (.i (decide (0<=t21)&&decide (t21<Int.ofNat t19.length)) (.bn (zr4 r.Columns (t19.getD t21.toNat default).Values) λr5=>.i (!r5) (.k (.inl 7)) (.bn (zcb (t19.getD t21.toNat default).Ann) λr4=>.i (!r4) (.k (.inl 1)) (.h ((),(),t19,t20,(IntKind.i64.wrap (t21+1)),()) (r,((),(),()),())))) .d) (.k (.inr r))
def ztW (x:zng) (y:znv):=ztN x.2.2.1 x.2.2.2.1 x.2.2.2.2.1 y.1
def zA4 (n:Nat) (t19:yF) (t20:Int) (t21:Int) (r:Relation):=zx (ztW) (.inl default) n ((),(),t19,t20,t21,()) (r,((),(),()),())
def zMz (r:zAU):LTree ty:=.ite (isL r) (.done .ret [.ptr 440 0,.lit (.int .i64 (getL r))] [.box ([.lit (.slice none 0 0),.lit (.slice none 0 0)]) false]) (.done (.exit 0) [.ptr 440 0,.ptr 441 0] [.box (base.enc 25 (getR r)) false,.box ([.lit (.slice none 0 0),.lit (.slice none 0 0)]) false])
def zNX:LL ty zng:=za (zdo 440 0) (za (zdo 441 0) (za (lSl 54) (za zi (za zi zo))))
def zM0:BL ty znv:=zeM (zfh (λx=>(⟨x.1,x.2.1⟩:Relation)) (λx=>(x.Columns,x.Rows,())) (λ_=>rfl) (za (lSl 75) (za (lSl 54) zo))) false (zeM (za zTi (za zTi zo)) false (zbu))
def zs4 (t49:Int) (t50:Int) (t48:yF) (b3:yH) (b4:yF):Wy zny znp zAW:=.i (decide (t50<t49)) (.i (decide (0<=t50)&&decide (t50<Int.ofNat t48.length)) (.i (Int.ofNat b4.length==0) (.bn (zni (t48.getD t50.toNat default) (t48.getD t50.toNat default).Ann) λr8=>.i (decide ((b4.length+[r8].length)*48<=zI)) (.h ((),(),(),t49,(IntKind.i64.wrap (t50+1)),()) (((),(),()),((),(),()),t48,b3,(b4++[r8]),())) .d) (.i (decide (0<=IntKind.i64.wrap (Int.ofNat b4.length - 1))&&decide (IntKind.i64.wrap (Int.ofNat b4.length - 1)<Int.ofNat b4.length)) (.bn (zcq (b4.getD (IntKind.i64.wrap (Int.ofNat b4.length - 1)).toNat default) (t48.getD t50.toNat default)) λr11=>.i (r11 != 0) (.bn (zni (t48.getD t50.toNat default) (t48.getD t50.toNat default).Ann) λr9=>.i (decide ((b4.length+[r9].length)*48<=zI)) (.h ((),(),(),t49,(IntKind.i64.wrap (t50+1)),()) (((),(),()),((),(),()),t48,b3,(b4++[r9]),())) .d) (.i (decide (0<=IntKind.i64.wrap (Int.ofNat b4.length - 1))&&decide (IntKind.i64.wrap (Int.ofNat b4.length - 1)<Int.ofNat b4.length)) (.bn (zpU (b4.getD (IntKind.i64.wrap (Int.ofNat b4.length - 1)).toNat default).Ann (t48.getD t50.toNat default).Ann) λr10=>.i (r10.2 != 0) (.k (.inl (r10.2))) (.i (decide (0<=IntKind.i64.wrap (Int.ofNat b4.length - 1))&&decide (IntKind.i64.wrap (Int.ofNat b4.length - 1)<Int.ofNat b4.length)) (.i (decide ((IntKind.i64.wrap (Int.ofNat b4.length - 1)).toNat<b4.length)) (.h ((),(),(),t49,(IntKind.i64.wrap (t50+1)),()) (((),(),()),((),(),()),t48,b3,(b4.set (IntKind.i64.wrap (Int.ofNat b4.length - 1)).toNat (Row.mk (b4.getD (IntKind.i64.wrap (Int.ofNat b4.length - 1)).toNat default).Values r10.1)),())) .d) .d)) .d)) .d)) .d) (.k (.inr (b3,b4)))
def zte (x:zny) (y:znp):=zs4 x.2.2.2.1 x.2.2.2.2.1 y.2.2.1 y.2.2.2.1 y.2.2.2.2.1
def zzG (n:Nat) (t49:Int) (t50:Int) (t48:yF) (b3:yH) (b4:yF):=zx (zte) (.inl default) n ((),(),(),t49,t50,()) (((),(),()),((),(),()),t48,b3,b4,())
def zKZ (r:zAW):LTree ty:=.ite (isL r) (.done .ret [.ptr 440 0,.lit (.int .i64 (getL r))] [.box ([.lit (.slice none 0 0),.lit (.slice none 0 0)]) false]) (.done (.exit 2) [.ptr 440 0,.ptr 441 0] [.box ([.lit (.slice none 0 0),.lit (.slice none 0 0)]) false,.box ([.own 442,.own 443]) false,.arr 75 (getR r).1 false,.arr 54 (getR r).2 false])
def zMH:LL ty zny:=za (zdo 440 0) (za (zdo 441 0) (za (zd4 442) (za zi (za zi zo))))
def zLQ:BL ty znp:=zeM (za zTi (za zTi zo)) false (zeM (za (zd4 443) (za (zd4 444) zo)) false (zen 54 false (zen 75 false (zen 54 false (zbu)))))
def zLL (x:zng) (y:znv):Nat:=(x.2.2.1.length+Int.toNat x.2.2.2.1+Int.toNat x.2.2.2.2.1+y.1.Columns.length+y.1.Rows.length+1000)
def zKU (x:zny) (y:znp):Nat:=(Int.toNat x.2.2.2.1+Int.toNat x.2.2.2.2.1+y.2.2.1.length+y.2.2.2.1.length+y.2.2.2.2.1.length+1000)
def zt7:=zcG zbE 110 [(50,znP),(51,zyb),(52,zco),(53,zft),(61,zkT),(67,zk9),(68,zn9),(69,zjv),(70,zjy),(71,zCh),(72,zw0)] [(67,[true,false]),(70,[true,false])] [(4,(kpL [1,2,19,20,21])),(15,[(2,.keep),(7,.boxOwn [(1,54)]),(48,.keep),(49,.keep),(50,.keep)])] [(4,1,(kpL [1,2])),(4,0,(kpL [2,3])),(15,3,(kpL [2,7])),(15,0,(kpL [2,3]))] [(4,spW zNX zM0 (ztW) (.inl default) zMz zLL),(15,spW zMH zLQ (zte) (.inl default) zKZ zKU)] []
theorem zMS:zR zt7 (lp (body f28) 0):=zD (id:=4) (hl:=rfl)
theorem zKg:zR zt7 (lp (body f28) 1):=zD (id:=15) (hl:=rfl)
def zB3 (r:Relation):Wy0 (Relation×Int):=.bn (zhu r.Columns) λr22=>.i (!r22) (.k ((⟨[],[]⟩:Relation),1)) (.bn (zA4 (r.Rows.length+(Int.ofNat r.Rows.length).toNat +Int.toNat 0+r.Columns.length+r.Rows.length+1000) r.Rows (Int.ofNat r.Rows.length) 0 r) λr21=>.i (isL r21) (.k ((⟨[],[]⟩:Relation),getL r21)) (.bn (ze9 (getR r21).Rows) λr20=>.bn (zee r20) λr19=>.bn (zct r19) λr18=>.bn (zdU (getR r21).Columns) λr17=>.bn (zzG ((Int.ofNat r18.length).toNat +Int.toNat 0+r18.length+r17.length+0+1000) (Int.ofNat r18.length) 0 r18 r17 []) λr16=>.i (isL r16) (.k ((⟨[],[]⟩:Relation),getL r16)) (.i (decide (Int.ofNat (getR r16).2.length>1024)) (.k ((⟨[],[]⟩:Relation),6)) (.k ((⟨(getR r16).1,(getR r16).2⟩:Relation),0)))))
def zhX (r:Relation):=(zB3 r).fin default
def zMu (r:Relation×Int):ARes ty:=⟨[.pure (.agg (base.enc 25 r.1)),.pure (.lit (.int .i64 r.2))],[]⟩
def zrS:=zh zVr λx=>((zhX x.1).1,zMu (zhX x.1).2)
theorem zyl:Sound Tryz.prog zbE 28 zrS:=
 sU (cx':=zt7) (zk ⟨zuN.nodr,zC0.nodr,zcx.nodr,zgE.nodr,zus.nodr,zuZ.nodr,zyD.nodr,zmE.nodr,zsY.nodr,zNP,zCb,trivial⟩) call28 func28 (lOK (aC zMS (aC zKg aN))) (sg:=⟨[.pure,.pure],[]⟩)
def z0C:=zbM zbE 50 [(12,zBQ),(14,zq3),(16,zwZ),(28,zrS),(42,zGE)]
def z1T:Wy0 (Bool):=.k true
def zWc:Bool×Bool:=(z1T).fin default
def z10:AL zbE (Unit):=zA
def zIe:=zh z10 λx=>((zWc ).1,zRy (zWc ).2)
theorem zVL:Sound Tryz.prog zbE 10 zIe:=
 sU (cx':=z0C) (zk ⟨zOp,zu9.nodr,zBB.nodr,zyl,zUt.nodr,trivial⟩) call10 func10 (lOK aN)
def z1V:=zbM base 4 []
def zUS (less:Bool):Wy0 (Int):=.i (less) (.k (-1:Int)) (.k 1)
def zr7 (less:Bool):=(zUS less).fin default
def z5i:AL base (Bool×Unit):=zf (zg zbef) zA
def zCa:=zh z5i λx=>((zr7 x.1).1,zMi (zr7 x.1).2)
theorem zJA:SdP 114 zCa:=
 sT (cx':=z1V) (zk trivial) call114 func114 (lOK aN)
def zXg:=zbM base 38 [(114,zCa)]
def zLk (a:Value) (b:Value):Wy0 (Int):=.i (a.Kind != b.Kind) (.bn (zr7 (decide (a.Kind<b.Kind))) λr0=>.k r0) (.i (a.Int != b.Int) (.bn (zr7 (decide (a.Int<b.Int))) λr1=>.k r1) (.i (!a.Text.toList==b.Text.toList) (.bn (zr7 (Op.bytesLess a.Text.toList b.Text.toList)) λr2=>.k r2) (.k 0)))
def zjr (a:Value) (b:Value):=(zLk a b).fin default
def zsu:=zh zXV λx=>((zjr x.1 x.2.1).1,zMi (zjr x.1 x.2.1).2)
theorem zwW:SdP 113 zsu:=
 sT (cx':=zXg) (zk ⟨zJA,trivial⟩) call113 func113 (lOK aN)
abbrev znx:=yG×yG×Int×Unit
abbrev zA7:=Int⊕(yG×yG)
def zvv (a:yG) (b:yG) (i:Int):Wy znx Unit zA7:=.i (decide (i<Int.ofNat a.length)) (.i (decide (i<Int.ofNat b.length)) (.i (decide (0<=i)&&decide (i<Int.ofNat a.length)) (.i (decide (0<=i)&&decide (i<Int.ofNat b.length)) (.bn (zjr (a.getD i.toNat default) (b.getD i.toNat default)) λr0=>.i (r0 != 0) (.k (.inl (r0))) (.h (a,b,(IntKind.i64.wrap (i+1)),()) ())) .d) .d) (.k (.inr (a,b)))) (.k (.inr (a,b)))
def zCr (x:znx) (y:Unit):=zvv x.1 x.2.1 x.2.2.1
def zuY (n:Nat) (a:yG) (b:yG) (i:Int):=zx (zCr) (.inl default) n (a,b,i,()) ()
def zOC (r:zA7):LTree ty:=.ite (isL r) (.done .ret [.lit (.int .i64 (getL r))] []) (.done (.exit 0) [.sl 79 (getR r).1,.sl 79 (getR r).2] [])
def zPY:LL ty znx:=za (lSl 79) (za (lSl 79) (za zi zo))
def zOl (x:znx) (y:Unit):Nat:=(x.1.length+x.2.1.length+Int.toNat x.2.2.1+1)
def zCf:=zcG base 42 [(113,zsu),(114,zCa)] [] [(2,(kpL [0,1,5]))] [(2,1,(kpL [0,1])),(2,0,(kpL [4]))] [(2,spW zPY z2p (zCr) (.inl default) zOC zOl)] []
theorem zOn:zR zCf (lp (body f57) 0):=zD (id:=2) (hl:=rfl)
def zC6 (a:yG) (b:yG):Wy0 (Int):=.bn (zuY (a.length+b.length+Int.toNat 0+1) a b 0) λr3=>.i (isL r3) (.k (getL r3)) (.i (Int.ofNat (getR r3).1.length==Int.ofNat (getR r3).2.length) (.k 0) (.bn (zr7 (decide (Int.ofNat (getR r3).1.length<Int.ofNat (getR r3).2.length))) λr2=>.k r2))
def zow (a:yG) (b:yG):=(zC6 a b).fin default
def zzA:=zh zRB λx=>((zow x.1 x.2.1).1,zMi (zow x.1 x.2.1).2)
theorem zKG:SdP 57 zzA:=
 sT (cx':=zCf) (zk ⟨zwW,zJA,trivial⟩) call57 func57 (lOK (aC zOn aN))
def z2m:=zbM base 9 [(57,zzA)]
def zSE (a:yG) (b:yG):Wy0 (Bool):=.bn (zow a b) λr0=>.k (r0==0)
def zyB (a:yG) (b:yG):=(zSE a b).fin default
def zBO:=zh zRB λx=>((zyB x.1 x.2.1).1,zRy (zyB x.1 x.2.1).2)
theorem zJ6:SdP 31 zBO:=
 sT (cx':=z2m) (zk ⟨zKG,trivial⟩) call31 func31 (lOK aN)
abbrev zBT:=yG×Unit×Int×Unit
abbrev zBo:=Relation×Unit
def zIy (values:yG) (i:Int) (r:Relation):Wy zBT zBo (Bool⊕Unit):=.i (decide (i<Int.ofNat r.Rows.length)) (.i (decide (0<=i)&&decide (i<Int.ofNat r.Rows.length)) (.bn (zyB (r.Rows.getD i.toNat default).Values values) λr0=>.i (r0) (.i (decide (0<=i)&&decide (i<Int.ofNat r.Rows.length)) (.i (decide (Int.ofNat (r.Rows.getD i.toNat default).Ann.length>0)) (.k (.inl true)) (.h (values,(),(IntKind.i64.wrap (i+1)),()) (r,()))) .d) (.h (values,(),(IntKind.i64.wrap (i+1)),()) (r,()))) .d) (.k (.inr ()))
def zIB (x:zBT) (y:zBo):=zIy x.1 x.2.2.1 y.1
def zSz (n:Nat) (values:yG) (i:Int) (r:Relation):=zx (zIB) (.inl default) n (values,(),i,()) (r,())
def z5b:LL ty zBT:=za (lSl 79) (za (zdo 124 0) (za zi zo))
def z4U:BL ty zBo:=zeM (zfh (λx=>(⟨x.1,x.2.1⟩:Relation)) (λx=>(x.Columns,x.Rows,())) (λ_=>rfl) (za (lSl 75) (za (lSl 54) zo))) false (zbu)
def z2s (x:zBT) (y:zBo):Nat:=(x.1.length+Int.toNat x.2.2.1+y.1.Columns.length+y.1.Rows.length+1)
def zTZ:=zcG base 31 [(31,zBO)] [] [(2,(kpL [1,2,5]))] [(2,1,[]),(2,0,(kpL [4]))] [(2,spW z5b z4U (zIB) (.inl default) zmM z2s)] []
theorem z2h:zR zTZ (lp (body f35) 0):=zD (id:=2) (hl:=rfl)
def zWE (r:Relation) (values:yG):Wy0 (Bool):=.bn (zSz (values.length+Int.toNat 0+r.Columns.length+r.Rows.length+1) values 0 r) λr2=>.i (isL r2) (.k (getL r2)) (.k false)
def zAH (r:Relation) (values:yG):=(zWE r values).fin default
def z5H:AL base (Relation×yG×Unit):=zf (zg (zcT 25)) (zf (zg (vSl 79)) zA)
def zNJ:=zh z5H λx=>((zAH x.1 x.2.1).1,zRy (zAH x.1 x.2.1).2)
theorem zYc:SdP 35 zNJ:=
 sT (cx':=zTZ) (zk ⟨zJ6,trivial⟩) call35 func35 (lOK (aC z2h aN))
def zji (F:yC->yC->Bool×Int):Ab.Spec ty:=zh zVV λx=>((F x.1 x.2.1).1,zMi (F x.1 x.2.1).2)
def zPV:AL base (yD×yD×Unit):=zf (zg (vSl 169)) (zf (zg (vSl 169)) zA)
def zpm (F:yD->yD->Bool×Int):Ab.Spec ty:=zh zPV λx=>((F x.1 x.2.1).1,zMi (F x.1 x.2.1).2)
def zYx:=zbM base 11 []
def zOF (a:Int) (b:Int):Wy0 (Int):=.i (decide (a<b)) (.k (-1:Int)) (.i (decide (a>b)) (.k 1) (.k 0))
def zcN (a:Int) (b:Int):=(zOF a b).fin default
def zkZ:=zh zSd λx=>((zcN x.1 x.2.1).1,zMi (zcN x.1 x.2.1).2)
theorem zmG:SdP 129 zkZ:=
 sT (cx':=zYx) (zk trivial) call129 func129 (lOK aN)
abbrev zu7:=yB×yB×Int×Unit
abbrev zJB:=Int⊕(yB×yB)
def zUn (zbd:yC->yC->Bool×Int) (a:yB) (b:yB) (i:Int):Wy zu7 Unit zJB:=.i (decide (i<Int.ofNat a.length)) (.i (decide (i<Int.ofNat b.length)) (.i (decide (0<=i)&&decide (i<Int.ofNat a.length)) (.i (decide (0<=i)&&decide (i<Int.ofNat b.length)) (.bn (zbd (a.getD i.toNat default).Fs (b.getD i.toNat default).Fs) λr1=>.i (r1 != 0) (.k (.inl (r1))) (.i (decide (0<=i)&&decide (i<Int.ofNat a.length)) (.i (decide (0<=i)&&decide (i<Int.ofNat b.length)) (.bn (zcN (a.getD i.toNat default).Cf (b.getD i.toNat default).Cf) λr0=>.i (r0 != 0) (.k (.inl (r0))) (.h (a,b,(IntKind.i64.wrap (i+1)),()) ())) .d) .d)) .d) .d) (.k (.inr (a,b)))) (.k (.inr (a,b)))
def zFx (zbd:yC->yC->Bool×Int) (x:zu7) (y:Unit):=zUn zbd x.1 x.2.1 x.2.2.1
def zSH (zbd:yC->yC->Bool×Int) (n:Nat) (a:yB) (b:yB) (i:Int):=zx (zFx zbd) (.inl default) n (a,b,i,()) ()
def zRU (r:zJB):LTree ty:=.ite (isL r) (.done .ret [.lit (.int .i64 (getL r))] []) (.done (.exit 0) [.sl 107 (getR r).1,.sl 107 (getR r).2] [])
def zTb:LL ty zu7:=za (lSl 107) (za (lSl 107) (za zi zo))
def zSr (x:zu7) (y:Unit):Nat:=(x.1.length+x.2.1.length+Int.toNat x.2.2.1+1)
def zEz (zbd:yC->yC->Bool×Int):=zcG base 53 [(110,(zji zbd)),(129,zkZ)] [] [(2,(kpL [0,1,5]))] [(2,1,(kpL [0,1])),(2,0,(kpL [4]))] [(2,spW zTb z2p (zFx zbd) (.inl default) zRU zSr)] []
theorem zSv (zbd:yC->yC->Bool×Int):zR (zEz zbd) (lp (body f76) 0):=zD (id:=2) (hl:=rfl)
def zVU (zbd:yC->yC->Bool×Int) (a:yB) (b:yB):Wy0 (Int):=.bn (zSH zbd (a.length+b.length+Int.toNat 0+1) a b 0) λr5=>.i (isL r5) (.k (getL r5)) (.bn (zcN (Int.ofNat (getR r5).1.length) (Int.ofNat (getR r5).2.length)) λr4=>.k r4)
def zxa (zbd:yC->yC->Bool×Int) (a:yB) (b:yB):=(zVU zbd a b).fin default
theorem zOr (zbd:yC->yC->Bool×Int) (zI2:SdP 110 (zji zbd)):SdP 76 (zej (zxa zbd)):=
 sT (cx':=(zEz zbd)) (zk ⟨zI2,zmG,trivial⟩) call76 func76 (lOK (aC (zSv zbd) aN))
def zRP:=zbM base 19 [(129,zkZ)]
def zEg (a:RowID) (b:RowID):Wy0 (Int):=.bn (zcN a.Table b.Table) λr1=>.i (r1 != 0) (.k r1) (.bn (zcN a.Seq b.Seq) λr0=>.k r0)
def zqs (a:RowID) (b:RowID):=(zEg a b).fin default
def zUi:AL base (RowID×RowID×Unit):=zf (zg (zcT 63)) (zf (zg (zcT 63)) zA)
def zAz:=zh zUi λx=>((zqs x.1 x.2.1).1,zMi (zqs x.1 x.2.1).2)
theorem zL4:SdP 189 zAz:=
 sT (cx':=zRP) (zk ⟨zmG,trivial⟩) call189 func189 (lOK aN)
abbrev zpp:=Unit×Unit×Int×Unit
abbrev zoL:=At×At×Unit
abbrev zBr:=Int⊕(At×At)
def zs3 (zP:yB->yB->Bool×Int) (zbo:yD->yD->Bool×Int) (i:Int) (a:At) (b:At):Wy zpp zoL zBr:=.i (decide (i<Int.ofNat a.Ag.length)) (.i (decide (i<Int.ofNat b.Ag.length)) (.i (decide (0<=i)&&decide (i<Int.ofNat a.Ag.length)) (.i (decide (0<=i)&&decide (i<Int.ofNat b.Ag.length)) (.bn (zP (a.Ag.getD i.toNat default) (b.Ag.getD i.toNat default)) λr0=>.i (r0 != 0) (.k (.inl (r0))) (.h ((),(),(IntKind.i64.wrap (i+1)),()) (a,b,()))) .d) .d) (.k (.inr (a,b)))) (.k (.inr (a,b)))
def zzC (zP:yB->yB->Bool×Int) (zbo:yD->yD->Bool×Int) (x:zpp) (y:zoL):=zs3 zP zbo x.2.2.1 y.1 y.2.1
def zs0 (zP:yB->yB->Bool×Int) (zbo:yD->yD->Bool×Int) (n:Nat) (i:Int) (a:At) (b:At):=zx (zzC zP zbo) (.inl default) n ((),(),i,()) (a,b,())
def zKM (r:zBr):LTree ty:=.ite (isL r) (.done .ret [.lit (.int .i64 (getL r))] []) (.done (.exit 0) [.ptr 384 0,.ptr 385 0] [.box (base.enc 143 (getR r).1) false,.box (base.enc 143 (getR r).2) false])
def zLO:LL ty zpp:=za (zdo 384 0) (za (zdo 385 0) (za zi zo))
def zML:BL ty zoL:=zeM (zfh (λx=>(⟨x.1,⟨x.2.1,x.2.2.1⟩,x.2.2.2.1,x.2.2.2.2.1,x.2.2.2.2.2.1,x.2.2.2.2.2.2.1,⟨x.2.2.2.2.2.2.2.1,x.2.2.2.2.2.2.2.2.1,x.2.2.2.2.2.2.2.2.2.1⟩⟩:At)) (λx=>(x.Kind,x.Row.Table,x.Row.Seq,x.Ag,x.Func,x.Items,x.Op,x.Bd.Kind,x.Bd.Int,x.Bd.Text,())) (λ_=>rfl) (za (zW .i64) (za (zW .i64) (za (zW .i64) (za (lSl 51) (za (zW .i64) (za (lSl 169) (za (zW .i64) (za (zW .i64) (za (zW .i64) (za zzj zo))))))))))) false (zeM (zfh (λx=>(⟨x.1,⟨x.2.1,x.2.2.1⟩,x.2.2.2.1,x.2.2.2.2.1,x.2.2.2.2.2.1,x.2.2.2.2.2.2.1,⟨x.2.2.2.2.2.2.2.1,x.2.2.2.2.2.2.2.2.1,x.2.2.2.2.2.2.2.2.2.1⟩⟩:At)) (λx=>(x.Kind,x.Row.Table,x.Row.Seq,x.Ag,x.Func,x.Items,x.Op,x.Bd.Kind,x.Bd.Int,x.Bd.Text,())) (λ_=>rfl) (za (zW .i64) (za (zW .i64) (za (zW .i64) (za (lSl 51) (za (zW .i64) (za (lSl 169) (za (zW .i64) (za (zW .i64) (za (zW .i64) (za zzj zo))))))))))) false (zbu))
def zKD (x:zpp) (y:zoL):Nat:=(Int.toNat x.2.2.1+y.1.Ag.length+y.1.Items.length+y.2.1.Ag.length+y.2.1.Items.length+1)
def zzz (zP:yB->yB->Bool×Int) (zbo:yD->yD->Bool×Int):=zcG base 96 [(76,(zej zP)),(113,zsu),(129,zkZ),(188,(zpm zbo)),(189,zAz)] [] [(8,(kpL [2,3,7]))] [(8,1,(kpL [2,3])),(8,0,(kpL [4]))] [(8,spW zLO zML (zzC zP zbo) (.inl default) zKM zKD)] []
theorem zKL (zP:yB->yB->Bool×Int) (zbo:yD->yD->Bool×Int):zR (zzz zP zbo) (lp (body f112) 0):=zD (id:=8) (hl:=rfl)
def zA1 (zP:yB->yB->Bool×Int) (zbo:yD->yD->Bool×Int) (a:At) (b:At):Wy0 (Int):=.bn (zcN a.Kind b.Kind) λr9=>.i (r9 != 0) (.k r9) (.bn (zqs a.Row b.Row) λr8=>.i (r8 != 0) (.k r8) (.bn (zs0 zP zbo (Int.toNat 0+a.Ag.length+a.Items.length+b.Ag.length+b.Items.length+1) 0 (At.mk a.Kind a.Row a.Ag a.Func a.Items a.Op a.Bd) (At.mk b.Kind b.Row b.Ag b.Func b.Items b.Op b.Bd)) λr7=>.i (isL r7) (.k (getL r7)) (.bn (zcN (Int.ofNat (getR r7).1.Ag.length) (Int.ofNat (getR r7).2.Ag.length)) λr6=>.i (r6 != 0) (.k r6) (.bn (zcN (getR r7).1.Func (getR r7).2.Func) λr5=>.i (r5 != 0) (.k r5) (.bn (zbo (getR r7).1.Items (getR r7).2.Items) λr4=>.i (r4 != 0) (.k r4) (.bn (zcN (getR r7).1.Op (getR r7).2.Op) λr3=>.i (r3 != 0) (.k r3) (.bn (zjr (getR r7).1.Bd (getR r7).2.Bd) λr2=>.k r2)))))))
def zlx (zP:yB->yB->Bool×Int) (zbo:yD->yD->Bool×Int) (a:At) (b:At):=(zA1 zP zbo a b).fin default
theorem zHI (zP:yB->yB->Bool×Int) (zbo:yD->yD->Bool×Int) (zze:SdP 76 (zej zP)) (zLW:SdP 188 (zpm zbo)):SdP 112 (zhd (zlx zP zbo)):=
 sT (cx':=(zzz zP zbo)) (zk ⟨zze,zwW,zmG,zLW,zL4,trivial⟩) call112 func112 (lOK (aC (zKL zP zbo) aN))
abbrev zlt:=yC×yC×Int×Unit
abbrev zyM:=Int⊕(yC×yC)
def zw8 (zbv:At->At->Bool×Int) (a:yC) (b:yC) (i:Int):Wy zlt Unit zyM:=.i (decide (i<Int.ofNat a.length)) (.i (decide (i<Int.ofNat b.length)) (.i (decide (0<=i)&&decide (i<Int.ofNat a.length)) (.i (decide (0<=i)&&decide (i<Int.ofNat b.length)) (.bn (zbv (At.mk (a.getD i.toNat default).At.Kind (a.getD i.toNat default).At.Row (a.getD i.toNat default).At.Ag (a.getD i.toNat default).At.Func (a.getD i.toNat default).At.Items (a.getD i.toNat default).At.Op (a.getD i.toNat default).At.Bd) (At.mk (b.getD i.toNat default).At.Kind (b.getD i.toNat default).At.Row (b.getD i.toNat default).At.Ag (b.getD i.toNat default).At.Func (b.getD i.toNat default).At.Items (b.getD i.toNat default).At.Op (b.getD i.toNat default).At.Bd)) λr1=>.i (r1 != 0) (.k (.inl (r1))) (.i (decide (0<=i)&&decide (i<Int.ofNat a.length)) (.i (decide (0<=i)&&decide (i<Int.ofNat b.length)) (.bn (zcN (a.getD i.toNat default).Exp (b.getD i.toNat default).Exp) λr0=>.i (r0 != 0) (.k (.inl (r0))) (.h (a,b,(IntKind.i64.wrap (i+1)),()) ())) .d) .d)) .d) .d) (.k (.inr (a,b)))) (.k (.inr (a,b)))
def zj1 (zbv:At->At->Bool×Int) (x:zlt) (y:Unit):=zw8 zbv x.1 x.2.1 x.2.2.1
def zxg (zbv:At->At->Bool×Int) (n:Nat) (a:yC) (b:yC) (i:Int):=zx (zj1 zbv) (.inl default) n (a,b,i,()) ()
def zFK (r:zyM):LTree ty:=.ite (isL r) (.done .ret [.lit (.int .i64 (getL r))] []) (.done (.exit 0) [.sl 145 (getR r).1,.sl 145 (getR r).2] [])
def zHw:LL ty zlt:=za (lSl 145) (za (lSl 145) (za zi zo))
def zGm (x:zlt) (y:Unit):Nat:=(x.1.length+x.2.1.length+Int.toNat x.2.2.1+1)
def zw5 (zbv:At->At->Bool×Int):=zcG base 53 [(112,(zhd zbv)),(129,zkZ)] [] [(2,(kpL [0,1,5]))] [(2,1,(kpL [0,1])),(2,0,(kpL [4]))] [(2,spW zHw z2p (zj1 zbv) (.inl default) zFK zGm)] []
theorem zFW (zbv:At->At->Bool×Int):zR (zw5 zbv) (lp (body f110) 0):=zD (id:=2) (hl:=rfl)
def zxz (zbv:At->At->Bool×Int) (a:yC) (b:yC):Wy0 (Int):=.bn (zxg zbv (a.length+b.length+Int.toNat 0+1) a b 0) λr5=>.i (isL r5) (.k (getL r5)) (.bn (zcN (Int.ofNat (getR r5).1.length) (Int.ofNat (getR r5).2.length)) λr4=>.k r4)
def zjh (zbv:At->At->Bool×Int) (a:yC) (b:yC):=(zxz zbv a b).fin default
theorem zDL (zbv:At->At->Bool×Int) (zNo:SdP 112 (zhd zbv)):SdP 110 (zji (zjh zbv)):=
 sT (cx':=(zw5 zbv)) (zk ⟨zNo,zmG,trivial⟩) call110 func110 (lOK (aC (zFW zbv) aN))
abbrev znE:=yD×yD×Int×Unit
abbrev zAM:=Int⊕(yD×yD)
def zKP (zP:yB->yB->Bool×Int) (a:yD) (b:yD) (i:Int):Wy znE Unit zAM:=.i (decide (i<Int.ofNat a.length)) (.i (decide (i<Int.ofNat b.length)) (.i (decide (0<=i)&&decide (i<Int.ofNat a.length)) (.i (decide (0<=i)&&decide (i<Int.ofNat b.length)) (.bn (zjr (a.getD i.toNat default).Value (b.getD i.toNat default).Value) λr1=>.i (r1 != 0) (.k (.inl (r1))) (.i (decide (0<=i)&&decide (i<Int.ofNat a.length)) (.i (decide (0<=i)&&decide (i<Int.ofNat b.length)) (.bn (zP (a.getD i.toNat default).Ann (b.getD i.toNat default).Ann) λr0=>.i (r0 != 0) (.k (.inl (r0))) (.h (a,b,(IntKind.i64.wrap (i+1)),()) ())) .d) .d)) .d) .d) (.k (.inr (a,b)))) (.k (.inr (a,b)))
def zyH (zP:yB->yB->Bool×Int) (x:znE) (y:Unit):=zKP zP x.1 x.2.1 x.2.2.1
def zKk (zP:yB->yB->Bool×Int) (n:Nat) (a:yD) (b:yD) (i:Int):=zx (zyH zP) (.inl default) n (a,b,i,()) ()
def zIb (r:zAM):LTree ty:=.ite (isL r) (.done .ret [.lit (.int .i64 (getL r))] []) (.done (.exit 0) [.sl 169 (getR r).1,.sl 169 (getR r).2] [])
def zKR:LL ty znE:=za (lSl 169) (za (lSl 169) (za zi zo))
def zJP (x:znE) (y:Unit):Nat:=(x.1.length+x.2.1.length+Int.toNat x.2.2.1+1)
def zyZ (zP:yB->yB->Bool×Int):=zcG base 53 [(76,(zej zP)),(113,zsu),(129,zkZ)] [] [(2,(kpL [0,1,5]))] [(2,1,(kpL [0,1])),(2,0,(kpL [4]))] [(2,spW zKR z2p (zyH zP) (.inl default) zIb zJP)] []
theorem zJF (zP:yB->yB->Bool×Int):zR (zyZ zP) (lp (body f188) 0):=zD (id:=2) (hl:=rfl)
def zMh (zP:yB->yB->Bool×Int) (a:yD) (b:yD):Wy0 (Int):=.bn (zKk zP (a.length+b.length+Int.toNat 0+1) a b 0) λr5=>.i (isL r5) (.k (getL r5)) (.bn (zcN (Int.ofNat (getR r5).1.length) (Int.ofNat (getR r5).2.length)) λr4=>.k r4)
def zpd (zP:yB->yB->Bool×Int) (a:yD) (b:yD):=(zMh zP a b).fin default
theorem zFD (zP:yB->yB->Bool×Int) (zze:SdP 76 (zej zP)):SdP 188 (zpm (zpd zP)):=
 sT (cx':=(zyZ zP)) (zk ⟨zze,zwW,zmG,trivial⟩) call188 func188 (lOK (aC (zJF zP) aN))
def zkL:Nat->(yB->yB->Bool×Int)×(yC->yC->Bool×Int)×(At->At->Bool×Int)×(yD->yD->Bool×Int)
 | 0=>(λ_ _=>(false,default),λ_ _=>(false,default),λ_ _=>(false,default),λ_ _=>(false,default))
 | n+1=>(zxa ((zkL n).2.1),zjh ((zkL n).2.2.1),zlx ((zkL n).1) ((zkL n).2.2.2),zpd ((zkL n).1))
def znC (n:Nat):yB->yB->Bool×Int:=(zkL n).1
def zjf (n:Nat):yC->yC->Bool×Int:=(zkL n).2.1
def zlC (n:Nat):At->At->Bool×Int:=(zkL n).2.2.1
def zkK (n:Nat):yD->yD->Bool×Int:=(zkL n).2.2.2
theorem zTL (n:Nat):znC (n+1)=zxa (zjf n):=rfl
theorem zHU (n:Nat):zjf (n+1)=zjh (zlC n):=rfl
theorem zMM (n:Nat):zlC (n+1)=zlx (znC n) (zkK n):=rfl
theorem zKE (n:Nat):zkK (n+1)=zpd (znC n):=rfl
theorem zDA:∀ n,SdP 76 (zej (znC n))/\SdP 110 (zji (zjf n))/\SdP 112 (zhd (zlC n))/\SdP 188 (zpm (zkK n))
 | 0=>⟨zbs call76 (λ_=>rfl),zbs call110 (λ_=>rfl),zbs call112 (λ_=>rfl),zbs call188 (λ_=>rfl)⟩
 | n+1=>by
  have ih:=zDA n;exact ⟨zOr _ (ih.2.1),zDL _ (ih.2.2.1),zHI _ _ (ih.1) (ih.2.2.2),zFD _ (ih.1)⟩
def zGk:yB->yB->Bool×Int:=znC 1000
def zEr:Ab.Spec ty:=zej zGk
theorem zSo:SdP 76 zEr:=(zDA 1000).1
def zkS:yC->yC->Bool×Int:=zjf 1000
def zw7:Ab.Spec ty:=zji zkS
theorem zF4:SdP 110 zw7:=(zDA 1000).2.1
def zop:At->At->Bool×Int:=zlC 1000
def zxO:yD->yD->Bool×Int:=zkK 1000
def z1W:=zbM base 9 [(76,zEr)]
def zUq (a:yB) (b:yB):Wy0 (Bool):=.bn (zGk a b) λr0=>.k (r0==0)
def zoQ (a:yB) (b:yB):=(zUq a b).fin default
def zLg:=zh zPj λx=>((zoQ x.1 x.2.1).1,zRy (zoQ x.1 x.2.1).2)
theorem zXp:SdP 33 zLg:=
 sT (cx':=z1W) (zk ⟨zSo,trivial⟩) call33 func33 (lOK aN)
def z2i:=zbM base 9 []
def zT0 (a:Int) (b:Int):Wy0 (Int):=.k (if 1152921504606846976<IntKind.i64.wrap (a+b) then 1152921504606846976 else IntKind.i64.wrap (a+b))
def zvt (a:Int) (b:Int):=(zT0 a b).fin default
def zLu:=zh zSd λx=>((zvt x.1 x.2.1).1,zMi (zvt x.1 x.2.1).2)
theorem zXr:SdP 128 zLu:=
 sT (cx':=z2i) (zk trivial) call128 func128 (lOK aN)
abbrev zBZ:=yB×Unit×Int×Unit
abbrev zTz:=yB×Int×Term
def zx6 (a:yB) (i:Int) (t:Term):Wy zBZ (Term×Unit) zTz:=.i (decide (i<Int.ofNat a.length)) (.i (decide (0<=i)&&decide (i<Int.ofNat a.length)) (.bn (zkS (a.getD i.toNat default).Fs t.Fs) λr0=>.i (decide (r0<0)) (.h (a,(),(IntKind.i64.wrap (i+1)),()) (t,())) (.k (a,i,t))) .d) (.k (a,i,t))
def zJL (x:zBZ) (y:Term×Unit):=zx6 x.1 x.2.2.1 y.1
def zTJ (n:Nat) (a:yB) (i:Int) (t:Term):=zx (zJL) default n (a,(),i,()) (t,())
def z2F (r:zTz):LTree ty:=.done (.exit 0) [.sl 107 r.1,.ptr 288 0,.lit (.int .i64 r.2.1)] [.box (base.enc 107 r.2.2) false]
def z4S:LL ty zBZ:=za (lSl 107) (za (zdo 288 0) (za zi zo))
def z2d (x:zBZ) (y:Term×Unit):Nat:=(x.1.length+Int.toNat x.2.2.1+y.1.Fs.length+1)
def zSQ:=zcG base 72 [(110,zw7),(128,zLu)] [] [(2,(kpL [0,3,5]))] [(2,1,(kpL [0,3,5]))] [(2,spW z4S zOa (zJL) default z2F z2d)] []
theorem z2B:zR zSQ (lp (body f75) 0):=zD (id:=2) (hl:=rfl)
def zWC (a:yB) (t:Term):Wy0 (yB):=.bn (zTJ (a.length+Int.toNat 0+t.Fs.length+1) a 0 t) λr3=>.i (decide ((0:Int)<=(0:Int))&&decide (0<=r3.2.1)&&decide (r3.2.1<=Int.ofNat r3.1.length)) (.i (decide ((0+(List.take (r3.2.1.toNat - Int.toNat 0) (List.drop (Int.toNat 0) r3.1)).length)*32<=zI)) (.i (decide (r3.2.1<Int.ofNat r3.1.length)) (.i (decide (0<=r3.2.1)&&decide (r3.2.1<Int.ofNat r3.1.length)) (.bn (zkS (r3.1.getD r3.2.1.toNat default).Fs r3.2.2.Fs) λr2=>.i (r2==0) (.i (decide (0<=r3.2.1)&&decide (r3.2.1<Int.ofNat r3.1.length)) (.i (decide ((([]++List.take (r3.2.1.toNat - Int.toNat 0) (List.drop (Int.toNat 0) r3.1)).length+[TO.mk (zvt (r3.1.getD r3.2.1.toNat default).Cf r3.2.2.Cf).2 r3.2.2.Fs].length)*32<=zI)) (.i (decide (0<=IntKind.i64.wrap (r3.2.1+1))&&decide (IntKind.i64.wrap (r3.2.1+1)<=Int.ofNat r3.1.length)&&decide (Int.ofNat r3.1.length<=Int.ofNat r3.1.length)) (.i (decide ((([]++List.take (r3.2.1.toNat - Int.toNat 0) (List.drop (Int.toNat 0) r3.1)++[TO.mk (zvt (r3.1.getD r3.2.1.toNat default).Cf r3.2.2.Cf).2 r3.2.2.Fs]).length+(List.take ((Int.ofNat r3.1.length).toNat - (IntKind.i64.wrap (r3.2.1+1)).toNat) (List.drop (IntKind.i64.wrap (r3.2.1+1)).toNat r3.1)).length)*32<=zI)) (.k ([]++List.take (r3.2.1.toNat - Int.toNat 0) (List.drop (Int.toNat 0) r3.1)++[TO.mk (zvt (r3.1.getD r3.2.1.toNat default).Cf r3.2.2.Cf).2 r3.2.2.Fs]++List.take ((Int.ofNat r3.1.length).toNat - (IntKind.i64.wrap (r3.2.1+1)).toNat) (List.drop (IntKind.i64.wrap (r3.2.1+1)).toNat r3.1))) .d) .d) .d) .d) (.i (decide ((([]++List.take (r3.2.1.toNat - Int.toNat 0) (List.drop (Int.toNat 0) r3.1)).length+[r3.2.2].length)*32<=zI)) (.i (decide (0<=r3.2.1)&&decide (r3.2.1<=Int.ofNat r3.1.length)&&decide (Int.ofNat r3.1.length<=Int.ofNat r3.1.length)) (.i (decide ((([]++List.take (r3.2.1.toNat - Int.toNat 0) (List.drop (Int.toNat 0) r3.1)++[r3.2.2]).length+(List.take ((Int.ofNat r3.1.length).toNat - r3.2.1.toNat) (List.drop r3.2.1.toNat r3.1)).length)*32<=zI)) (.k ([]++List.take (r3.2.1.toNat - Int.toNat 0) (List.drop (Int.toNat 0) r3.1)++[r3.2.2]++List.take ((Int.ofNat r3.1.length).toNat - r3.2.1.toNat) (List.drop r3.2.1.toNat r3.1))) .d) .d) .d)) .d) (.i (decide ((([]++List.take (r3.2.1.toNat - Int.toNat 0) (List.drop (Int.toNat 0) r3.1)).length+[r3.2.2].length)*32<=zI)) (.i (decide (0<=r3.2.1)&&decide (r3.2.1<=Int.ofNat r3.1.length)&&decide (Int.ofNat r3.1.length<=Int.ofNat r3.1.length)) (.i (decide ((([]++List.take (r3.2.1.toNat - Int.toNat 0) (List.drop (Int.toNat 0) r3.1)++[r3.2.2]).length+(List.take ((Int.ofNat r3.1.length).toNat - r3.2.1.toNat) (List.drop r3.2.1.toNat r3.1)).length)*32<=zI)) (.k ([]++List.take (r3.2.1.toNat - Int.toNat 0) (List.drop (Int.toNat 0) r3.1)++[r3.2.2]++List.take ((Int.ofNat r3.1.length).toNat - r3.2.1.toNat) (List.drop r3.2.1.toNat r3.1))) .d) .d) .d)) .d) .d
def zAx (a:yB) (t:Term):=(zWC a t).fin default
def z5M:AL base (yB×Term×Unit):=zf (zg (vSl 107)) (zf (zg (zcT 107)) zA)
def zNk:=zh z5M λx=>((zAx x.1 x.2.1).1,z0A (zAx x.1 x.2.1).2)
theorem zYs:SdP 75 zNk:=
 sT (cx':=zSQ) (zk ⟨zF4,zXr,trivial⟩) call75 func75 (lOK (aC z2B aN)) (sg:=⟨[.own 107],[]⟩)
abbrev zCi:=yB×yB×Int×Unit
def zyi (a:yB) (b:yB) (i:Int):Wy zCi Unit (yB):=.i (decide (i<Int.ofNat b.length)) (.i (decide (0<=i)&&decide (i<Int.ofNat b.length)) (.bn (zAx a (b.getD i.toNat default)) λr0=>.h ((r0),b,(IntKind.i64.wrap (i+1)),()) ()) .d) (.k a)
def zII (x:zCi) (y:Unit):=zyi x.1 x.2.1 x.2.2.1
def zTS (n:Nat) (a:yB) (b:yB) (i:Int):=zx (zII) default n (a,b,i,()) ()
def z2A (r:yB):LTree ty:=.done (.exit 0) [.sl 107 r] []
def z3r:LL ty zCi:=za (lSl 107) (za (lSl 107) (za zi zo))
def z2L (x:zCi) (y:Unit):Nat:=(x.1.length+x.2.1.length+Int.toNat x.2.2.1+1)
def zSA:=zcG base 19 [(75,zNk)] [] [(2,[(0,.sl 107),(1,.keep),(5,.keep)])] [(2,1,(kpL [0]))] [(2,spW z3r z2p (zII) default z2A z2L)] []
theorem z2I:zR zSA (lp (body f32) 0):=zD (id:=2) (hl:=rfl)
def zWf (a:yB) (b:yB):Wy0 (yB):=.bn (zTS (a.length+b.length+Int.toNat 0+1) a b 0) λr2=>.k r2
def zAN (a:yB) (b:yB):=(zWf a b).fin default
def z2a (r:yB):ARes ty:=⟨[.pure (.sl 107 r)],[]⟩
def zNh:=zh zPj λx=>((zAN x.1 x.2.1).1,z2a (zAN x.1 x.2.1).2)
theorem zX8:SdP 32 zNh:=
 sT (cx':=zSA) (zk ⟨zYs,trivial⟩) call32 func32 (lOK (aC z2I aN))
abbrev zyq:=yG×Int×Int×Unit
abbrev zM3:=Bool⊕(yG×Int)
def zDC (l:yG) (n_:Int) (i:Int):Wy zyq Unit zM3:=.i (decide (i<Int.ofNat l.length)) (.i (decide (0<=i)&&decide (i<Int.ofNat l.length)) (.i (decide (Int.ofNat (l.getD i.toNat default).Text.size>300)) (.k (.inl false)) (.h (l,n_,(IntKind.i64.wrap (i+1)),()) ())) .d) (.k (.inr (l,n_)))
def zOL (x:zyq) (y:Unit):=zDC x.1 x.2.1 x.2.2.1
def zDU (n:Nat) (l:yG) (n_:Int) (i:Int):=zx (zOL) (.inl default) n (l,n_,i,()) ()
def zYH (r:zM3):LTree ty:=.ite (isL r) (.done .ret [.lit (.bool (getL r))] []) (.done (.exit 0) [.sl 79 (getR r).1,.lit (.int .i64 (getR r).2)] [])
def z0v:LL ty zyq:=za (lSl 79) (za zi (za zi zo))
def zYX (x:zyq) (y:Unit):Nat:=(x.1.length+Int.toNat x.2.1+Int.toNat x.2.2.1+1)
def zNS:=zcG base 23 [] [] [(2,(kpL [0,1,5]))] [(2,1,(kpL [0,1])),(2,0,(kpL [4]))] [(2,spW z0v z2p (zOL) (.inl default) zYH zYX)] []
theorem zZo:zR zNS (lp (body f18) 0):=zD (id:=2) (hl:=rfl)
def zRs (l:yG) (n_:Int):Wy0 (Bool):=.bn (zDU (l.length+n_.toNat +Int.toNat 0+1) l n_ 0) λr0=>.i (isL r0) (.k (getL r0)) (.k (decide (Int.ofNat (getR r0).1.length<=(getR r0).2)))
def zwv (l:yG) (n_:Int):=(zRs l n_).fin default
def z2E:AL base (yG×Int×Unit):=zf (zg (vSl 79)) (zf (zg ziU) zA)
def zKd:=zh z2E λx=>((zwv x.1 x.2.1).1,zRy (zwv x.1 x.2.1).2)
theorem zVY:SdP 18 zKd:=
 sT (cx':=zNS) (zk trivial) call18 func18 (lOK (aC zZo aN))
def z0g:AL base (yB×Int×Int×Unit):=zf (zg (vSl 107)) (zf (zg (zf5 .i64)) (zf (zg (zf5 .i64)) zA))
def ztO (F:yB->Int->Int->Bool×Int):Ab.Spec ty:=zh z0g λx=>((F x.1 x.2.1 x.2.2.1).1,zMi (F x.1 x.2.1 x.2.2.1).2)
abbrev ziX:=yB×Int×Int×Int×Int×Int×Unit×Int×Unit
abbrev zLy:=yB×Int×Int×Int×Int×Int×At
abbrev zLs:=yB×Int×Int×Int×Int×Int
abbrev zxh:=yB×Int×Int×Int×Int×Int×Unit
abbrev zLf:=yB×Int×Int×Int×Int
abbrev zxm:=yB×Int×Int×Int×Int×Unit
def zxw (zG:yB->Int->Int->Bool×Int) (a:yB) (limit:Int) (zc9:Int) (n_:Int) (i:Int) (k:Int) (j:Int) (x_:At):Wy ziX (At×Unit) zLy:=.i (decide (j<Int.ofNat x_.Ag.length)) (.i (decide (n_<=limit)) (.i (decide (0<=j)&&decide (j<Int.ofNat x_.Ag.length)) (.bn (zG (x_.Ag.getD j.toNat default) (IntKind.i64.wrap (limit - n_)) (IntKind.i64.wrap (zc9 - 1))) λr0=>.h (a,limit,zc9,(IntKind.i64.wrap (n_+r0)),i,k,(),(IntKind.i64.wrap (j+1)),()) (x_,())) .d) (.k (a,limit,zc9,n_,i,k,x_))) (.k (a,limit,zc9,n_,i,k,x_))
def zEU (zG:yB->Int->Int->Bool×Int) (x:ziX) (y:At×Unit):=zxw zG x.1 x.2.1 x.2.2.1 x.2.2.2.1 x.2.2.2.2.1 x.2.2.2.2.2.1 x.2.2.2.2.2.2.2.1 y.1
def zxZ (zG:yB->Int->Int->Bool×Int) (n:Nat) (a:yB) (limit:Int) (zc9:Int) (n_:Int) (i:Int) (k:Int) (j:Int) (x_:At):=zx (zEU zG) default n (a,limit,zc9,n_,i,k,(),j,()) (x_,())
def zSb (r:zLy):LTree ty:=.done (.exit 4) [.sl 107 r.1,.lit (.int .i64 r.2.1),.lit (.int .i64 r.2.2.1),.lit (.int .i64 r.2.2.2.1),.lit (.int .i64 r.2.2.2.2.1),.lit (.int .i64 r.2.2.2.2.2.1),.ptr 544 0] [.box (base.enc 143 r.2.2.2.2.2.2) false]
def zSN:LL ty ziX:=za (lSl 107) (za zi (za zi (za zi (za zi (za zi (za (zdo 544 0) (za zi zo)))))))
def zTM:BL ty (At×Unit):=zeM (zfh (λx=>(⟨x.1,⟨x.2.1,x.2.2.1⟩,x.2.2.2.1,x.2.2.2.2.1,x.2.2.2.2.2.1,x.2.2.2.2.2.2.1,⟨x.2.2.2.2.2.2.2.1,x.2.2.2.2.2.2.2.2.1,x.2.2.2.2.2.2.2.2.2.1⟩⟩:At)) (λx=>(x.Kind,x.Row.Table,x.Row.Seq,x.Ag,x.Func,x.Items,x.Op,x.Bd.Kind,x.Bd.Int,x.Bd.Text,())) (λ_=>rfl) (za (zW .i64) (za (zW .i64) (za (zW .i64) (za (lSl 51) (za (zW .i64) (za (lSl 169) (za (zW .i64) (za (zW .i64) (za (zW .i64) (za zzj zo))))))))))) false (zbu)
def zxK (zG:yB->Int->Int->Bool×Int) (a:yB) (limit:Int) (zc9:Int) (n_:Int) (i:Int) (k:Int) (j:Int) (x_:At):Wy ziX (At×Unit) zLs:=.i (decide (j<Int.ofNat x_.Items.length)) (.i (decide (n_<=limit)) (.i (decide (0<=j)&&decide (j<Int.ofNat x_.Items.length)) (.i (decide (0<=j)&&decide (j<Int.ofNat x_.Items.length)) (.bn (zG (x_.Items.getD j.toNat default).Ann (IntKind.i64.wrap (limit - n_)) (IntKind.i64.wrap (zc9 - 1))) λr2=>.h (a,limit,zc9,(IntKind.i64.wrap (IntKind.i64.wrap (n_+Int.ofNat (x_.Items.getD j.toNat default).Value.Text.size)+r2)),i,k,(),(IntKind.i64.wrap (j+1)),()) (x_,())) .d) .d) (.k (a,limit,zc9,n_,i,k))) (.k (a,limit,zc9,n_,i,k))
def zFC (zG:yB->Int->Int->Bool×Int) (x:ziX) (y:At×Unit):=zxK zG x.1 x.2.1 x.2.2.1 x.2.2.2.1 x.2.2.2.2.1 x.2.2.2.2.2.1 x.2.2.2.2.2.2.2.1 y.1
def zxG (zG:yB->Int->Int->Bool×Int) (n:Nat) (a:yB) (limit:Int) (zc9:Int) (n_:Int) (i:Int) (k:Int) (j:Int) (x_:At):=zx (zFC zG) default n (a,limit,zc9,n_,i,k,(),j,()) (x_,())
def zRR (r:zLs):LTree ty:=.done (.exit 6) [.sl 107 r.1,.lit (.int .i64 r.2.1),.lit (.int .i64 r.2.2.1),.lit (.int .i64 r.2.2.2.1),.lit (.int .i64 r.2.2.2.2.1),.lit (.int .i64 r.2.2.2.2.2)] []
def zzn (zG:yB->Int->Int->Bool×Int) (a:yB) (limit:Int) (zc9:Int) (n_:Int) (i:Int) (k:Int):Wy zxh Unit zLf:=.i (decide (0<=i)&&decide (i<Int.ofNat a.length)) (.i (decide (k<Int.ofNat (a.getD i.toNat default).Fs.length)) (.i (decide (n_<=limit)) (.i (decide (0<=i)&&decide (i<Int.ofNat a.length)) (.i (decide (0<=k)&&decide (k<Int.ofNat (a.getD i.toNat default).Fs.length)) (.bn (zxZ zG (a.length+limit.toNat +zc9.toNat +(IntKind.i64.wrap (IntKind.i64.wrap (IntKind.i64.wrap (n_+Int.ofNat ((a.getD i.toNat default).Fs.getD k.toNat default).At.Items.length)+Int.ofNat ((a.getD i.toNat default).Fs.getD k.toNat default).At.Ag.length)+Int.ofNat ((a.getD i.toNat default).Fs.getD k.toNat default).At.Bd.Text.size)).toNat +i.toNat +k.toNat +Int.toNat 0+((a.getD i.toNat default).Fs.getD k.toNat default).At.Ag.length+((a.getD i.toNat default).Fs.getD k.toNat default).At.Items.length+1) a limit zc9 (IntKind.i64.wrap (IntKind.i64.wrap (IntKind.i64.wrap (n_+Int.ofNat ((a.getD i.toNat default).Fs.getD k.toNat default).At.Items.length)+Int.ofNat ((a.getD i.toNat default).Fs.getD k.toNat default).At.Ag.length)+Int.ofNat ((a.getD i.toNat default).Fs.getD k.toNat default).At.Bd.Text.size)) i k 0 (At.mk ((a.getD i.toNat default).Fs.getD k.toNat default).At.Kind ((a.getD i.toNat default).Fs.getD k.toNat default).At.Row ((a.getD i.toNat default).Fs.getD k.toNat default).At.Ag ((a.getD i.toNat default).Fs.getD k.toNat default).At.Func ((a.getD i.toNat default).Fs.getD k.toNat default).At.Items ((a.getD i.toNat default).Fs.getD k.toNat default).At.Op ((a.getD i.toNat default).Fs.getD k.toNat default).At.Bd)) λr5=>.bn (zxG zG (r5.1.length+r5.2.1.toNat +r5.2.2.1.toNat +r5.2.2.2.1.toNat +r5.2.2.2.2.1.toNat +r5.2.2.2.2.2.1.toNat +Int.toNat 0+r5.2.2.2.2.2.2.Ag.length+r5.2.2.2.2.2.2.Items.length+1) r5.1 r5.2.1 r5.2.2.1 r5.2.2.2.1 r5.2.2.2.2.1 r5.2.2.2.2.2.1 0 (At.mk r5.2.2.2.2.2.2.Kind r5.2.2.2.2.2.2.Row r5.2.2.2.2.2.2.Ag r5.2.2.2.2.2.2.Func r5.2.2.2.2.2.2.Items r5.2.2.2.2.2.2.Op r5.2.2.2.2.2.2.Bd)) λr4=>.h ((r4.1),(r4.2.1),(r4.2.2.1),(r4.2.2.2.1),(r4.2.2.2.2.1),(IntKind.i64.wrap (r4.2.2.2.2.2+1)),()) ()) .d) .d) (.k (a,limit,zc9,n_,i))) (.k (a,limit,zc9,n_,i))) .d
def zGM (zG:yB->Int->Int->Bool×Int) (x:zxh) (y:Unit):=zzn zG x.1 x.2.1 x.2.2.1 x.2.2.2.1 x.2.2.2.2.1 x.2.2.2.2.2.1
def zy6 (zG:yB->Int->Int->Bool×Int) (n:Nat) (a:yB) (limit:Int) (zc9:Int) (n_:Int) (i:Int) (k:Int):=zx (zGM zG) default n (a,limit,zc9,n_,i,k,()) ()
def zSL (r:zLf):LTree ty:=.done (.exit 2) [.sl 107 r.1,.lit (.int .i64 r.2.1),.lit (.int .i64 r.2.2.1),.lit (.int .i64 r.2.2.2.1),.lit (.int .i64 r.2.2.2.2)] []
def zVm:LL ty zxh:=za (lSl 107) (za zi (za zi (za zi (za zi (za zi zo)))))
def zy5 (zG:yB->Int->Int->Bool×Int) (a:yB) (limit:Int) (zc9:Int) (n_:Int) (i:Int):Wy zxm Unit (Int):=.i (decide (i<Int.ofNat a.length)) (.i (decide (n_<=limit)) (.i (decide (0<=i)&&decide (i<Int.ofNat a.length)) (.bn (zy6 zG (a.length+limit.toNat +zc9.toNat +(IntKind.i64.wrap (IntKind.i64.wrap (n_+1)+Int.ofNat (a.getD i.toNat default).Fs.length)).toNat +i.toNat +Int.toNat 0+1) a limit zc9 (IntKind.i64.wrap (IntKind.i64.wrap (n_+1)+Int.ofNat (a.getD i.toNat default).Fs.length)) i 0) λr8=>.h ((r8.1),(r8.2.1),(r8.2.2.1),(r8.2.2.2.1),(IntKind.i64.wrap (r8.2.2.2.2+1)),()) ()) .d) (.k n_)) (.k n_)
def zGU (zG:yB->Int->Int->Bool×Int) (x:zxm) (y:Unit):=zy5 zG x.1 x.2.1 x.2.2.1 x.2.2.2.1 x.2.2.2.2.1
def zy9 (zG:yB->Int->Int->Bool×Int) (n:Nat) (a:yB) (limit:Int) (zc9:Int) (n_:Int) (i:Int):=zx (zGU zG) default n (a,limit,zc9,n_,i,()) ()
def zVq:LL ty zxm:=za (lSl 107) (za zi (za zi (za zi (za zi zo))))
def zRD (x:ziX) (y:At×Unit):Nat:=(x.1.length+Int.toNat x.2.1+Int.toNat x.2.2.1+Int.toNat x.2.2.2.1+Int.toNat x.2.2.2.2.1+Int.toNat x.2.2.2.2.2.1+Int.toNat x.2.2.2.2.2.2.2.1+y.1.Ag.length+y.1.Items.length+1)
def zUB (x:zxh) (y:Unit):Nat:=(x.1.length+Int.toNat x.2.1+Int.toNat x.2.2.1+Int.toNat x.2.2.2.1+Int.toNat x.2.2.2.2.1+Int.toNat x.2.2.2.2.2.1+1)
def zUw (x:zxm) (y:Unit):Nat:=(x.1.length+Int.toNat x.2.1+Int.toNat x.2.2.1+Int.toNat x.2.2.2.1+Int.toNat x.2.2.2.2.1+1)
def zok (zG:yB->Int->Int->Bool×Int):=zcG base 136 [(79,(ztO zG))] [] [(5,(kpL [0,1,2,7,8])),(9,(kpL [0,1,2,7,8,9])),(14,(kpL [0,1,2,7,8,9,10,11])),(18,(kpL [0,1,2,7,8,9,10,12]))] [(5,1,(kpL [7])),(9,3,(kpL [0,1,2,7,8])),(14,5,(kpL [0,1,2,7,8,9,10])),(18,7,(kpL [0,1,2,7,8,9]))] [(14,spW zSN zTM (zEU zG) default zSb zRD),(18,spW zSN zTM (zFC zG) default zRR zRD),(9,spW zVm z2p (zGM zG) default zSL zUB),(5,spW zVq z2p (zGU zG) default zNs zUw)] []
theorem zSs (zG:yB->Int->Int->Bool×Int):zR (zok zG) (lp (body f79) 2):=zD (id:=14) (hl:=rfl)
theorem zR7 (zG:yB->Int->Int->Bool×Int):zR (zok zG) (lp (body f79) 3):=zD (id:=18) (hl:=rfl)
theorem zTW (zG:yB->Int->Int->Bool×Int):zR (zok zG) (lp (body f79) 1):=zD (id:=9) (hl:=rfl)
theorem zUc (zG:yB->Int->Int->Bool×Int):zR (zok zG) (lp (body f79) 0):=zD (id:=5) (hl:=rfl)
def zAn (zG:yB->Int->Int->Bool×Int) (a:yB) (limit:Int) (zc9:Int):Wy0 (Int):=.i (zc9==0) (.k (IntKind.i64.wrap (limit+1))) (.bn (zy9 zG (a.length+limit.toNat +zc9.toNat +Int.toNat 0+Int.toNat 0+1) a limit zc9 0 0) λr10=>.k r10)
def ztK (zG:yB->Int->Int->Bool×Int) (a:yB) (limit:Int) (zc9:Int):=(zAn zG a limit zc9).fin default
theorem zPb (zG:yB->Int->Int->Bool×Int) (zXn:SdP 79 (ztO zG)):SdP 79 (ztO (ztK zG)):=
 sT (cx':=(zok zG)) (zk ⟨zXn,trivial⟩) call79 func79 (lOK (aC (zUc zG) (aC (zTW zG) (aC (zSs zG) (aC (zR7 zG) aN)))))
def zV7:Nat->(yB->Int->Int->Bool×Int)
 | 0=>λ_ _ _=>(false,default)
 | n+1=>ztK (zV7 n)
def zpT (n:Nat):yB->Int->Int->Bool×Int:=zV7 n
theorem zGL (n:Nat):zpT (n+1)=ztK (zpT n):=rfl
theorem zQZ:∀ n,SdP 79 (ztO (zpT n))
 | 0=>zbs call79 (λ_=>rfl)
 | n+1=>by
  have ih:=zQZ n;exact zPb _ (ih)
def zIP:yB->Int->Int->Bool×Int:=zpT 1000
def zGN:Ab.Spec ty:=ztO zIP
theorem zTo:SdP 79 zGN:=(zQZ 1000)
abbrev zB0:=Int×yA×Int×Unit
def zI1 (limit:Int) (l:yA) (i:Int):Wy zB0 Unit (Bool⊕Unit):=.i (decide (i<Int.ofNat l.length)) (.i (decide (0<=i)&&decide (i<Int.ofNat l.length)) (.bn (zIP (l.getD i.toNat default) limit 12) λr0=>.i (decide (r0>limit)) (.k (.inl false)) (.h (limit,l,(IntKind.i64.wrap (i+1)),()) ())) .d) (.k (.inr ()))
def zUu (x:zB0) (y:Unit):=zI1 x.1 x.2.1 x.2.2.1
def zJ3 (n:Nat) (limit:Int) (l:yA) (i:Int):=zx (zUu) (.inl default) n (limit,l,i,()) ()
def z4C:LL ty zB0:=za zi (za (lSl 51) (za zi zo))
def z2q (x:zB0) (y:Unit):Nat:=(Int.toNat x.1+x.2.1.length+Int.toNat x.2.2.1+1)
def zUG:=zcG base 20 [(79,zGN)] [] [(2,(kpL [0,1,5]))] [(2,1,[]),(2,0,(kpL [4]))] [(2,spW z4C z2p (zUu) (.inl default) zmM z2q)] []
theorem z2y:zR zUG (lp (body f36) 0):=zD (id:=2) (hl:=rfl)
def zWe (limit:Int) (l:yA):Wy0 (Bool):=.bn (zJ3 (limit.toNat +l.length+Int.toNat 0+1) limit l 0) λr2=>.i (isL r2) (.k (getL r2)) (.k true)
def zA0 (limit:Int) (l:yA):=(zWe limit l).fin default
def z5u:AL base (Int×yA×Unit):=zf (zg ziU) (zf (zg (vSl 51)) zA)
def zNN:=zh z5u λx=>((zA0 x.1 x.2.1).1,zRy (zA0 x.1 x.2.1).2)
theorem zXZ:SdP 36 zNN:=
 sT (cx':=zUG) (zk ⟨zTo,trivial⟩) call36 func36 (lOK (aC z2y aN))
abbrev zmH:=Int×Int×List Relation×Int×Int×Unit
abbrev zBE:=Bool⊕(Int×Int×List Relation×Int)
abbrev zCs:=Int×Int×List Relation×Int×Unit
def zIC (rows:Int) (weight:Int) (l:List Relation) (i:Int) (k:Int):Wy zmH Unit zBE:=.i (decide (0<=i)&&decide (i<Int.ofNat l.length)) (.i (decide (k<Int.ofNat (l.getD i.toNat default).Columns.length)) (.i (decide (0<=i)&&decide (i<Int.ofNat l.length)) (.i (decide (0<=k)&&decide (k<Int.ofNat (l.getD i.toNat default).Columns.length)) (.i (decide (Int.ofNat ((l.getD i.toNat default).Columns.getD k.toNat default).Name.size>100)) (.k (.inl false)) (.h (rows,weight,l,i,(IntKind.i64.wrap (k+1)),()) ())) .d) .d) (.k (.inr (rows,weight,l,i)))) .d
def zJa (x:zmH) (y:Unit):=zIC x.1 x.2.1 x.2.2.1 x.2.2.2.1 x.2.2.2.2.1
def zUp (n:Nat) (rows:Int) (weight:Int) (l:List Relation) (i:Int) (k:Int):=zx (zJa) (.inl default) n (rows,weight,l,i,k,()) ()
def z2n (r:zBE):LTree ty:=.ite (isL r) (.done .ret [.lit (.bool (getL r))] []) (.done (.exit 2) [.lit (.int .i64 (getR r).1),.lit (.int .i64 (getR r).2.1),.sl 25 (getR r).2.2.1,.lit (.int .i64 (getR r).2.2.2)] [])
def z34:LL ty zmH:=za zi (za zi (za (lSl 25) (za zi (za zi zo))))
def zGp (rows:Int) (weight:Int) (l:List Relation) (i:Int) (k:Int):Wy zmH Unit zBE:=.i (decide (0<=i)&&decide (i<Int.ofNat l.length)) (.i (decide (k<Int.ofNat (l.getD i.toNat default).Rows.length)) (.i (decide (0<=i)&&decide (i<Int.ofNat l.length)) (.i (decide (0<=k)&&decide (k<Int.ofNat (l.getD i.toNat default).Rows.length)) (.bn (zwv ((l.getD i.toNat default).Rows.getD k.toNat default).Values 20) λr1=>.i (!r1) (.k (.inl false)) (.i (decide (0<=i)&&decide (i<Int.ofNat l.length)) (.i (decide (0<=k)&&decide (k<Int.ofNat (l.getD i.toNat default).Rows.length)) (.bn (zA0 weight [((l.getD i.toNat default).Rows.getD k.toNat default).Ann]) λr0=>.i (!r0) (.k (.inl false)) (.h (rows,weight,l,i,(IntKind.i64.wrap (k+1)),()) ())) .d) .d)) .d) .d) (.k (.inr (rows,weight,l,i)))) .d
def zFE (x:zmH) (y:Unit):=zGp x.1 x.2.1 x.2.2.1 x.2.2.2.1 x.2.2.2.2.1
def zQ0 (n:Nat) (rows:Int) (weight:Int) (l:List Relation) (i:Int) (k:Int):=zx (zFE) (.inl default) n (rows,weight,l,i,k,()) ()
def z0f (r:zBE):LTree ty:=.ite (isL r) (.done .ret [.lit (.bool (getL r))] []) (.done (.exit 4) [.lit (.int .i64 (getR r).1),.lit (.int .i64 (getR r).2.1),.sl 25 (getR r).2.2.1,.lit (.int .i64 (getR r).2.2.2)] [])
def zJM (rows:Int) (weight:Int) (l:List Relation) (i:Int):Wy zCs Unit (Bool⊕Unit):=.i (decide (i<Int.ofNat l.length)) (.i (decide (0<=i)&&decide (i<Int.ofNat l.length)) (.i (decide (Int.ofNat (l.getD i.toNat default).Rows.length>rows)) (.k (.inl false)) (.i (decide (0<=i)&&decide (i<Int.ofNat l.length)) (.i (decide (Int.ofNat (l.getD i.toNat default).Columns.length>20)) (.k (.inl false)) (.bn (zUp (rows.toNat +weight.toNat +l.length+i.toNat +Int.toNat 0+1000) rows weight l i 0) λr5=>.i (isL r5) (.k (.inl (getL r5))) (.bn (zQ0 ((getR r5).1.toNat +(getR r5).2.1.toNat +(getR r5).2.2.1.length+(getR r5).2.2.2.toNat +Int.toNat 0+1000) (getR r5).1 (getR r5).2.1 (getR r5).2.2.1 (getR r5).2.2.2 0) λr4=>.i (isL r4) (.k (.inl (getL r4))) (.h ((getR r4).1,(getR r4).2.1,(getR r4).2.2.1,(IntKind.i64.wrap ((getR r4).2.2.2+1)),()) ())))) .d)) .d) (.k (.inr ()))
def zIk (x:zCs) (y:Unit):=zJM x.1 x.2.1 x.2.2.1 x.2.2.2.1
def zSW (n:Nat) (rows:Int) (weight:Int) (l:List Relation) (i:Int):=zx (zIk) (.inl default) n (rows,weight,l,i,()) ()
def z4Q:LL ty zCs:=za zi (za zi (za (lSl 25) (za zi zo)))
def z12 (x:zmH) (y:Unit):Nat:=(Int.toNat x.1+Int.toNat x.2.1+x.2.2.1.length+Int.toNat x.2.2.2.1+Int.toNat x.2.2.2.2.1+1000)
def z2k (x:zCs) (y:Unit):Nat:=(Int.toNat x.1+Int.toNat x.2.1+x.2.2.1.length+Int.toNat x.2.2.2.1+1000)
def zBW:=zcG base 90 [(18,zKd),(36,zNN)] [] [(2,(kpL [0,1,2,7])),(7,(kpL [0,1,2,7,8])),(12,(kpL [0,1,2,7,9]))] [(2,1,[]),(2,0,(kpL [6])),(7,3,(kpL [0,1,2,7])),(7,0,(kpL [6])),(12,5,(kpL [0,1,2,7])),(12,0,(kpL [6]))] [(7,spW z34 z2p (zJa) (.inl default) z2n z12),(12,spW z34 z2p (zFE) (.inl default) z0f z12),(2,spW z4Q z2p (zIk) (.inl default) zmM z2k)] []
theorem z15:zR zBW (lp (body f11) 1):=zD (id:=7) (hl:=rfl)
theorem z0O:zR zBW (lp (body f11) 2):=zD (id:=12) (hl:=rfl)
theorem z2M:zR zBW (lp (body f11) 0):=zD (id:=2) (hl:=rfl)
def zWw (rows:Int) (weight:Int) (l:List Relation):Wy0 (Bool):=.bn (zSW (rows.toNat +weight.toNat +l.length+Int.toNat 0+1000) rows weight l 0) λr8=>.i (isL r8) (.k (getL r8)) (.k true)
def zAX (rows:Int) (weight:Int) (l:List Relation):=(zWw rows weight l).fin default
def z5O:AL base (Int×Int×List Relation×Unit):=zf (zg ziU) (zf (zg ziU) (zf (zg (vSl 25)) zA))
def zNI:=zh z5O λx=>((zAX x.1 x.2.1 x.2.2.1).1,zRy (zAX x.1 x.2.1 x.2.2.1).2)
theorem zZx:SdP 11 zNI:=
 sT (cx':=zBW) (zk ⟨zVY,zXZ,trivial⟩) call11 func11 (lOK (aC z2M (aC z15 (aC z0O aN))))
abbrev zg0:=Unit×Unit×Int×Unit×yB×Int×Int×Unit×Int×Int×Int×Int×Unit
abbrev ztH:=yB×(Int×Unit×Unit)×(Int×Int×Int×Unit×Int×yD×Int×Int×Int×ByteArray×Unit)×yC×yA×Unit
abbrev zGC:=Int×yB×Int×Int×Int×Int×yB×Int×Int×Int×Int×Int×yD×Int×Int×Int×ByteArray×yC×yA
abbrev ztv:=yB×(Int×Unit×Unit)×(Int×Int×Int×Unit×Int×Unit×Int×Int×Int×ByteArray×Unit)×yC×yA×yD×Unit
abbrev zGB:=Int×yB×Int×Int×Int×Int×yB×Int×Int×Int×Int×Int×Int×Int×Int×ByteArray×yC×yA×yD
abbrev ztB:=Unit×Unit×yB×Int×Int×Unit×Int×Int×Unit
abbrev ztE:=yB×(Int×Unit×Unit)×yC×Unit
abbrev zGW:=yB×Int×Int×yB×Int×yC
abbrev zty:=Unit×yB×Int×Int×Unit
abbrev ztI:=yB×Unit
def zks (zt:yB->Bool×yB) (i:Int) (t11:yB) (t12:Int) (t13:Int) (t23:Int) (t24:Int) (t37:Int) (t38:Int) (out_:yB) (t:Int) (x_0:Int) (x_1:Int) (x_2:Int) (x_3:Int) (x_4:yD) (x_5:Int) (x_6:Int) (x_7:Int) (x_8:ByteArray) (t22:yC) (b4:yA):Wy zg0 ztH zGC:=.i (decide (t38<t37)) (.i (decide (0<=t38)&&decide (t38<Int.ofNat b4.length)) (.bn (zt (b4.getD t38.toNat default)) λr12=>.i (decide (0<=t38)&&decide (t38<Int.ofNat b4.length)) (.i (decide (t38.toNat<b4.length)) (.h ((),(),i,(),t11,t12,t13,(),t23,t24,t37,(IntKind.i64.wrap (t38+1)),()) (out_,(t,(),()),(x_0,x_1,x_2,(),x_3,x_4,x_5,x_6,x_7,x_8,()),t22,(b4.set t38.toNat r12),())) .d) .d) .d) (.k (i,t11,t12,t13,t23,t24,out_,t,x_0,x_1,x_2,x_3,x_4,x_5,x_6,x_7,x_8,t22,b4))
def zuX (zt:yB->Bool×yB) (x:zg0) (y:ztH):=zks zt x.2.2.1 x.2.2.2.2.1 x.2.2.2.2.2.1 x.2.2.2.2.2.2.1 x.2.2.2.2.2.2.2.2.1 x.2.2.2.2.2.2.2.2.2.1 x.2.2.2.2.2.2.2.2.2.2.1 x.2.2.2.2.2.2.2.2.2.2.2.1 y.1 y.2.1.1 y.2.2.1.1 y.2.2.1.2.1 y.2.2.1.2.2.1 y.2.2.1.2.2.2.2.1 y.2.2.1.2.2.2.2.2.1 y.2.2.1.2.2.2.2.2.2.1 y.2.2.1.2.2.2.2.2.2.2.1 y.2.2.1.2.2.2.2.2.2.2.2.1 y.2.2.1.2.2.2.2.2.2.2.2.2.1 y.2.2.2.1 y.2.2.2.2.1
def zvh (zt:yB->Bool×yB) (n:Nat) (i:Int) (t11:yB) (t12:Int) (t13:Int) (t23:Int) (t24:Int) (t37:Int) (t38:Int) (out_:yB) (t:Int) (x_0:Int) (x_1:Int) (x_2:Int) (x_3:Int) (x_4:yD) (x_5:Int) (x_6:Int) (x_7:Int) (x_8:ByteArray) (t22:yC) (b4:yA):=zx (zuX zt) default n ((),(),i,(),t11,t12,t13,(),t23,t24,t37,t38,()) (out_,(t,(),()),(x_0,x_1,x_2,(),x_3,x_4,x_5,x_6,x_7,x_8,()),t22,b4,())
def zN8 (r:zGC):LTree ty:=.done (.exit 4) [.own 352,.ptr 353 0,.lit (.int .i64 r.1),.ptr 354 0,.sl 107 r.2.1,.lit (.int .i64 r.2.2.1),.lit (.int .i64 r.2.2.2.1),.own 355,.lit (.int .i64 r.2.2.2.2.1),.lit (.int .i64 r.2.2.2.2.2.1)] [.arr 107 r.2.2.2.2.2.2.1 false,.box ([.lit (.int .i64 r.2.2.2.2.2.2.2.1),.own 355]) false,.box ([.lit (.int .i64 r.2.2.2.2.2.2.2.2.1),.lit (.int .i64 r.2.2.2.2.2.2.2.2.2.1),.lit (.int .i64 r.2.2.2.2.2.2.2.2.2.2.1),.own 356,.lit (.int .i64 r.2.2.2.2.2.2.2.2.2.2.2.1),.sl 169 r.2.2.2.2.2.2.2.2.2.2.2.2.1,.lit (.int .i64 r.2.2.2.2.2.2.2.2.2.2.2.2.2.1),.lit (.int .i64 r.2.2.2.2.2.2.2.2.2.2.2.2.2.2.1),.lit (.int .i64 r.2.2.2.2.2.2.2.2.2.2.2.2.2.2.2.1),.lit (.string r.2.2.2.2.2.2.2.2.2.2.2.2.2.2.2.2.1)]) false,.arr 145 r.2.2.2.2.2.2.2.2.2.2.2.2.2.2.2.2.2.1 false,.arr 51 r.2.2.2.2.2.2.2.2.2.2.2.2.2.2.2.2.2.2 false]
def zQg:LL ty zg0:=za (zd4 352) (za (zdo 353 0) (za zi (za (zdo 354 0) (za (lSl 107) (za zi (za zi (za (zd4 355) (za zi (za zi (za zi (za zi zo)))))))))))
def zPG:BL ty ztH:=zen 107 false (zeM (za (zW .i64) (za (zd4 355) zo)) false (zeM (za (zW .i64) (za (zW .i64) (za (zW .i64) (za (zd4 356) (za (zW .i64) (za (lSl 169) (za (zW .i64) (za (zW .i64) (za (zW .i64) (za zzj zo)))))))))) false (zen 145 false (zen 51 false (zbu)))))
def zkH (zt:yB->Bool×yB) (i:Int) (t11:yB) (t12:Int) (t13:Int) (t23:Int) (t24:Int) (t58:Int) (t59:Int) (out_:yB) (t:Int) (x_0:Int) (x_1:Int) (x_2:Int) (x_3:Int) (x_4:Int) (x_5:Int) (x_6:Int) (x_7:ByteArray) (t22:yC) (b4:yA) (b5:yD):Wy zg0 ztv zGB:=.i (decide (t59<t58)) (.i (decide (0<=t59)&&decide (t59<Int.ofNat b5.length)) (.bn (zt (b5.getD t59.toNat default).Ann) λr14=>.i (decide (0<=t59)&&decide (t59<Int.ofNat b5.length)) (.i (decide (t59.toNat<b5.length)) (.h ((),(),i,(),t11,t12,t13,(),t23,t24,t58,(IntKind.i64.wrap (t59+1)),()) (out_,(t,(),()),(x_0,x_1,x_2,(),x_3,(),x_4,x_5,x_6,x_7,()),t22,b4,(b5.set t59.toNat (WO.mk (b5.getD t59.toNat default).Value r14)),())) .d) .d) .d) (.k (i,t11,t12,t13,t23,t24,out_,t,x_0,x_1,x_2,x_3,x_4,x_5,x_6,x_7,t22,b4,b5))
def zvn (zt:yB->Bool×yB) (x:zg0) (y:ztv):=zkH zt x.2.2.1 x.2.2.2.2.1 x.2.2.2.2.2.1 x.2.2.2.2.2.2.1 x.2.2.2.2.2.2.2.2.1 x.2.2.2.2.2.2.2.2.2.1 x.2.2.2.2.2.2.2.2.2.2.1 x.2.2.2.2.2.2.2.2.2.2.2.1 y.1 y.2.1.1 y.2.2.1.1 y.2.2.1.2.1 y.2.2.1.2.2.1 y.2.2.1.2.2.2.2.1 y.2.2.1.2.2.2.2.2.2.1 y.2.2.1.2.2.2.2.2.2.2.1 y.2.2.1.2.2.2.2.2.2.2.2.1 y.2.2.1.2.2.2.2.2.2.2.2.2.1 y.2.2.2.1 y.2.2.2.2.1 y.2.2.2.2.2.1
def zvH (zt:yB->Bool×yB) (n:Nat) (i:Int) (t11:yB) (t12:Int) (t13:Int) (t23:Int) (t24:Int) (t58:Int) (t59:Int) (out_:yB) (t:Int) (x_0:Int) (x_1:Int) (x_2:Int) (x_3:Int) (x_4:Int) (x_5:Int) (x_6:Int) (x_7:ByteArray) (t22:yC) (b4:yA) (b5:yD):=zx (zvn zt) default n ((),(),i,(),t11,t12,t13,(),t23,t24,t58,t59,()) (out_,(t,(),()),(x_0,x_1,x_2,(),x_3,(),x_4,x_5,x_6,x_7,()),t22,b4,b5,())
def zNB (r:zGB):LTree ty:=.done (.exit 6) [.own 352,.ptr 353 0,.lit (.int .i64 r.1),.ptr 354 0,.sl 107 r.2.1,.lit (.int .i64 r.2.2.1),.lit (.int .i64 r.2.2.2.1),.own 355,.lit (.int .i64 r.2.2.2.2.1),.lit (.int .i64 r.2.2.2.2.2.1)] [.arr 107 r.2.2.2.2.2.2.1 false,.box ([.lit (.int .i64 r.2.2.2.2.2.2.2.1),.own 355]) false,.box ([.lit (.int .i64 r.2.2.2.2.2.2.2.2.1),.lit (.int .i64 r.2.2.2.2.2.2.2.2.2.1),.lit (.int .i64 r.2.2.2.2.2.2.2.2.2.2.1),.own 356,.lit (.int .i64 r.2.2.2.2.2.2.2.2.2.2.2.1),.own 357,.lit (.int .i64 r.2.2.2.2.2.2.2.2.2.2.2.2.1),.lit (.int .i64 r.2.2.2.2.2.2.2.2.2.2.2.2.2.1),.lit (.int .i64 r.2.2.2.2.2.2.2.2.2.2.2.2.2.2.1),.lit (.string r.2.2.2.2.2.2.2.2.2.2.2.2.2.2.2.1)]) false,.arr 145 r.2.2.2.2.2.2.2.2.2.2.2.2.2.2.2.2.1 false,.arr 51 r.2.2.2.2.2.2.2.2.2.2.2.2.2.2.2.2.2.1 false,.arr 169 r.2.2.2.2.2.2.2.2.2.2.2.2.2.2.2.2.2.2 false]
def zPe:BL ty ztv:=zen 107 false (zeM (za (zW .i64) (za (zd4 355) zo)) false (zeM (za (zW .i64) (za (zW .i64) (za (zW .i64) (za (zd4 356) (za (zW .i64) (za (zd4 357) (za (zW .i64) (za (zW .i64) (za (zW .i64) (za zzj zo)))))))))) false (zen 145 false (zen 51 false (zen 169 false (zbu))))))
def zly (zt:yB->Bool×yB) (t11:yB) (t12:Int) (t13:Int) (t23:Int) (t24:Int) (out_:yB) (t:Int) (t22:yC):Wy ztB ztE zGW:=.i (decide (t24<t23)) (.i (decide (0<=t24)&&decide (t24<Int.ofNat t22.length)) (.bn (zbN (t22.getD t24.toNat default).At.Ag) λr19=>.bn (zvh zt (t24.toNat +t11.length+t12.toNat +t13.toNat +t23.toNat +t24.toNat +(Int.ofNat r19.length).toNat +Int.toNat 0+out_.length+t.toNat +(t22.getD t24.toNat default).At.Kind.toNat +(t22.getD t24.toNat default).At.Row.Table.toNat +(t22.getD t24.toNat default).At.Row.Seq.toNat +(t22.getD t24.toNat default).At.Func.toNat +(t22.getD t24.toNat default).At.Items.length+(t22.getD t24.toNat default).At.Op.toNat +(t22.getD t24.toNat default).At.Bd.Kind.toNat +(t22.getD t24.toNat default).At.Bd.Int.toNat +(t22.getD t24.toNat default).At.Bd.Text.size+t22.length+r19.length+1000) t24 t11 t12 t13 t23 t24 (Int.ofNat r19.length) 0 out_ t (t22.getD t24.toNat default).At.Kind (t22.getD t24.toNat default).At.Row.Table (t22.getD t24.toNat default).At.Row.Seq (t22.getD t24.toNat default).At.Func (t22.getD t24.toNat default).At.Items (t22.getD t24.toNat default).At.Op (t22.getD t24.toNat default).At.Bd.Kind (t22.getD t24.toNat default).At.Bd.Int (t22.getD t24.toNat default).At.Bd.Text t22 r19) λr18=>.bn (zbZ r18.2.2.2.2.2.2.2.2.2.2.2.2.1) λr17=>.bn (zvH zt (r18.1.toNat +r18.2.1.length+r18.2.2.1.toNat +r18.2.2.2.1.toNat +r18.2.2.2.2.1.toNat +r18.2.2.2.2.2.1.toNat +(Int.ofNat r17.length).toNat +Int.toNat 0+r18.2.2.2.2.2.2.1.length+r18.2.2.2.2.2.2.2.1.toNat +r18.2.2.2.2.2.2.2.2.1.toNat +r18.2.2.2.2.2.2.2.2.2.1.toNat +r18.2.2.2.2.2.2.2.2.2.2.1.toNat +r18.2.2.2.2.2.2.2.2.2.2.2.1.toNat +r18.2.2.2.2.2.2.2.2.2.2.2.2.2.1.toNat +r18.2.2.2.2.2.2.2.2.2.2.2.2.2.2.1.toNat +r18.2.2.2.2.2.2.2.2.2.2.2.2.2.2.2.1.toNat +r18.2.2.2.2.2.2.2.2.2.2.2.2.2.2.2.2.1.size+r18.2.2.2.2.2.2.2.2.2.2.2.2.2.2.2.2.2.1.length+r18.2.2.2.2.2.2.2.2.2.2.2.2.2.2.2.2.2.2.length+r17.length+1000) r18.1 r18.2.1 r18.2.2.1 r18.2.2.2.1 r18.2.2.2.2.1 r18.2.2.2.2.2.1 (Int.ofNat r17.length) 0 r18.2.2.2.2.2.2.1 r18.2.2.2.2.2.2.2.1 r18.2.2.2.2.2.2.2.2.1 r18.2.2.2.2.2.2.2.2.2.1 r18.2.2.2.2.2.2.2.2.2.2.1 r18.2.2.2.2.2.2.2.2.2.2.2.1 r18.2.2.2.2.2.2.2.2.2.2.2.2.2.1 r18.2.2.2.2.2.2.2.2.2.2.2.2.2.2.1 r18.2.2.2.2.2.2.2.2.2.2.2.2.2.2.2.1 r18.2.2.2.2.2.2.2.2.2.2.2.2.2.2.2.2.1 r18.2.2.2.2.2.2.2.2.2.2.2.2.2.2.2.2.2.1 r18.2.2.2.2.2.2.2.2.2.2.2.2.2.2.2.2.2.2 r17) λr16=>.i (decide (0<=r16.1)&&decide (r16.1<Int.ofNat r16.2.2.2.2.2.2.2.2.2.2.2.2.2.2.2.2.1.length)) (.i (decide (r16.1.toNat<r16.2.2.2.2.2.2.2.2.2.2.2.2.2.2.2.2.1.length)) (.h ((),(),(r16.2.1),(r16.2.2.1),(r16.2.2.2.1),(),(r16.2.2.2.2.1),(IntKind.i64.wrap (r16.2.2.2.2.2.1+1)),()) ((r16.2.2.2.2.2.2.1),((r16.2.2.2.2.2.2.2.1),(),()),(r16.2.2.2.2.2.2.2.2.2.2.2.2.2.2.2.2.1.set r16.1.toNat (FO.mk (At.mk r16.2.2.2.2.2.2.2.2.1 (RowID.mk r16.2.2.2.2.2.2.2.2.2.1 r16.2.2.2.2.2.2.2.2.2.2.1) r16.2.2.2.2.2.2.2.2.2.2.2.2.2.2.2.2.2.1 r16.2.2.2.2.2.2.2.2.2.2.2.1 r16.2.2.2.2.2.2.2.2.2.2.2.2.2.2.2.2.2.2 r16.2.2.2.2.2.2.2.2.2.2.2.2.1 (Value.mk r16.2.2.2.2.2.2.2.2.2.2.2.2.2.1 r16.2.2.2.2.2.2.2.2.2.2.2.2.2.2.1 r16.2.2.2.2.2.2.2.2.2.2.2.2.2.2.2.1)) (r16.2.2.2.2.2.2.2.2.2.2.2.2.2.2.2.2.1.getD r16.1.toNat default).Exp)),())) .d) .d) .d) (.k (t11,t12,t13,out_,t,t22))
def zwE (zt:yB->Bool×yB) (x:ztB) (y:ztE):=zly zt x.2.2.1 x.2.2.2.1 x.2.2.2.2.1 x.2.2.2.2.2.2.1 x.2.2.2.2.2.2.2.1 y.1 y.2.1.1 y.2.2.1
def zC9 (zt:yB->Bool×yB) (n:Nat) (t11:yB) (t12:Int) (t13:Int) (t23:Int) (t24:Int) (out_:yB) (t:Int) (t22:yC):=zx (zwE zt) default n ((),(),t11,t12,t13,(),t23,t24,()) (out_,(t,(),()),t22,())
def zO6 (r:zGW):LTree ty:=.done (.exit 2) [.own 352,.ptr 353 0,.sl 107 r.1,.lit (.int .i64 r.2.1),.lit (.int .i64 r.2.2.1)] [.arr 107 r.2.2.2.1 false,.box ([.lit (.int .i64 r.2.2.2.2.1),.own 354]) false,.arr 145 r.2.2.2.2.2 false]
def zSj:LL ty ztB:=za (zd4 352) (za (zdo 353 0) (za (lSl 107) (za zi (za zi (za (zd4 354) (za zi (za zi zo)))))))
def zR1:BL ty ztE:=zen 107 false (zeM (za (zW .i64) (za (zd4 354) zo)) false (zen 145 false (zbu)))
def zwI (zt:yB->Bool×yB) (t11:yB) (t12:Int) (t13:Int) (out_:yB):Wy zty ztI (yB):=.i (decide (t13<t12)) (.i (decide (0<=t13)&&decide (t13<Int.ofNat t11.length)) (.bn (zcf (t11.getD t13.toNat default).Fs) λr25=>.bn (zC9 zt (t11.length+t12.toNat +t13.toNat +(Int.ofNat r25.length).toNat +Int.toNat 0+out_.length+(t11.getD t13.toNat default).Cf.toNat +r25.length+1000) t11 t12 t13 (Int.ofNat r25.length) 0 out_ (t11.getD t13.toNat default).Cf r25) λr24=>.i (decide ((r24.2.2.2.1.length+[TO.mk r24.2.2.2.2.1 r24.2.2.2.2.2].length)*32<=zI)) (.h ((),(r24.1),(r24.2.1),(IntKind.i64.wrap (r24.2.2.1+1)),()) ((r24.2.2.2.1++[TO.mk r24.2.2.2.2.1 r24.2.2.2.2.2]),())) .d) .d) (.k out_)
def zwH (zt:yB->Bool×yB) (x:zty) (y:ztI):=zwI zt x.2.1 x.2.2.1 x.2.2.2.1 y.1
def zDa (zt:yB->Bool×yB) (n:Nat) (t11:yB) (t12:Int) (t13:Int) (out_:yB):=zx (zwH zt) default n ((),t11,t12,t13,()) (out_,())
def zPC (r:yB):LTree ty:=.done (.exit 0) [.own 352] [.arr 107 r false]
def zRv:LL ty zty:=za (zd4 352) (za (lSl 107) (za zi (za zi zo)))
def zRG:BL ty ztI:=zen 107 false (zbu)
def zN7 (x:zg0) (y:ztH):Nat:=(Int.toNat x.2.2.1+x.2.2.2.2.1.length+Int.toNat x.2.2.2.2.2.1+Int.toNat x.2.2.2.2.2.2.1+Int.toNat x.2.2.2.2.2.2.2.2.1+Int.toNat x.2.2.2.2.2.2.2.2.2.1+Int.toNat x.2.2.2.2.2.2.2.2.2.2.1+Int.toNat x.2.2.2.2.2.2.2.2.2.2.2.1+y.1.length+Int.toNat y.2.1.1+Int.toNat y.2.2.1.1+Int.toNat y.2.2.1.2.1+Int.toNat y.2.2.1.2.2.1+Int.toNat y.2.2.1.2.2.2.2.1+y.2.2.1.2.2.2.2.2.1.length+Int.toNat y.2.2.1.2.2.2.2.2.2.1+Int.toNat y.2.2.1.2.2.2.2.2.2.2.1+Int.toNat y.2.2.1.2.2.2.2.2.2.2.2.1+y.2.2.1.2.2.2.2.2.2.2.2.2.1.size+y.2.2.2.1.length+y.2.2.2.2.1.length+1000)
def zN2 (x:zg0) (y:ztv):Nat:=(Int.toNat x.2.2.1+x.2.2.2.2.1.length+Int.toNat x.2.2.2.2.2.1+Int.toNat x.2.2.2.2.2.2.1+Int.toNat x.2.2.2.2.2.2.2.2.1+Int.toNat x.2.2.2.2.2.2.2.2.2.1+Int.toNat x.2.2.2.2.2.2.2.2.2.2.1+Int.toNat x.2.2.2.2.2.2.2.2.2.2.2.1+y.1.length+Int.toNat y.2.1.1+Int.toNat y.2.2.1.1+Int.toNat y.2.2.1.2.1+Int.toNat y.2.2.1.2.2.1+Int.toNat y.2.2.1.2.2.2.2.1+Int.toNat y.2.2.1.2.2.2.2.2.2.1+Int.toNat y.2.2.1.2.2.2.2.2.2.2.1+Int.toNat y.2.2.1.2.2.2.2.2.2.2.2.1+y.2.2.1.2.2.2.2.2.2.2.2.2.1.size+y.2.2.2.1.length+y.2.2.2.2.1.length+y.2.2.2.2.2.1.length+1000)
def zP7 (x:ztB) (y:ztE):Nat:=(x.2.2.1.length+Int.toNat x.2.2.2.1+Int.toNat x.2.2.2.2.1+Int.toNat x.2.2.2.2.2.2.1+Int.toNat x.2.2.2.2.2.2.2.1+y.1.length+Int.toNat y.2.1.1+y.2.2.1.length+1000)
def zQv (x:zty) (y:ztI):Nat:=(x.2.1.length+Int.toNat x.2.2.1+Int.toNat x.2.2.2.1+y.1.length+1000)
def zlN (zt:yB->Bool×yB):=zcG base 88 [(78,(zlv zt)),(132,zgc),(133,zes),(134,zeT)] [] [(3,[(3,.own 107),(11,.keep),(12,.keep),(13,.keep)]),(7,(kpL [3,5,11,12,13,22,23,24])),(12,(kpL [3,5,6,8,11,12,13,22,23,24,37,38])),(18,(kpL [3,5,6,8,11,12,13,22,23,24,58,59]))] [(3,1,(kpL [3])),(7,3,(kpL [3,5,11,12,13])),(12,5,(kpL [3,5,6,8,11,12,13,22,23,24])),(18,7,(kpL [3,5,6,8,11,12,13,22,23,24]))] [(12,spW zQg zPG (zuX zt) default zN8 zN7),(18,spW zQg zPe (zvn zt) default zNB zN2),(7,spW zSj zR1 (zwE zt) default zO6 zP7),(3,spW zRv zRG (zwH zt) default zPC zQv)] []
theorem zN5 (zt:yB->Bool×yB):zR (zlN zt) (lp (body f78) 2):=zD (id:=12) (hl:=rfl)
theorem zNQ (zt:yB->Bool×yB):zR (zlN zt) (lp (body f78) 3):=zD (id:=18) (hl:=rfl)
theorem zPg (zt:yB->Bool×yB):zR (zlN zt) (lp (body f78) 1):=zD (id:=7) (hl:=rfl)
theorem zQj (zt:yB->Bool×yB):zR (zlN zt) (lp (body f78) 0):=zD (id:=3) (hl:=rfl)
def zFr (zt:yB->Bool×yB) (a:yB):Wy0 (yB):=.bn (zDa zt (a.length+(Int.ofNat a.length).toNat +Int.toNat 0+0+1000) a (Int.ofNat a.length) 0 []) λr28=>.k r28
def zvs (zt:yB->Bool×yB) (a:yB):=(zFr zt a).fin default
theorem zL2 (zt:yB->Bool×yB) (zUg:SdP 78 (zlv zt)):SdP 78 (zlv (zvs zt)):=
 sT (cx':=(zlN zt)) (zk ⟨zUg,zke,zhr,zi2,trivial⟩) call78 func78 (lOK (aC (zQj zt) (aC (zPg zt) (aC (zN5 zt) (aC (zNQ zt) aN))))) (sg:=⟨[.own 107],[]⟩)
def z02:Nat->(yB->Bool×yB)
 | 0=>λ_=>(false,default)
 | n+1=>zvs (z02 n)
def zlS (n:Nat):yB->Bool×yB:=z02 n
theorem zSi (n:Nat):zlS (n+1)=zvs (zlS n):=rfl
theorem zmn:∀ n,SdP 78 (zlv (zlS n))
 | 0=>zbs call78 (λ_=>rfl)
 | n+1=>by
  have ih:=zmn n;exact zL2 _ (ih)
def zDr:yB->Bool×yB:=zlS 1000
def zC7:Ab.Spec ty:=zlv zDr
theorem zPN:SdP 78 zC7:=(zmn 1000)
abbrev zvz:=yG×yF×Int×Int×Unit
abbrev zIt:=yB⊕Unit
def zAa (values:yG) (t8:yF) (t9:Int) (t10:Int):Wy zvz Unit zIt:=.i (decide (t10<t9)) (.i (decide (0<=t10)&&decide (t10<Int.ofNat t8.length)) (.bn (zk1 (t8.getD t10.toNat default).Values values) λr1=>.i (r1==0) (.bn (zDr (t8.getD t10.toNat default).Ann) λr0=>.k (.inl (r0))) (.h (values,t8,t9,(IntKind.i64.wrap (t10+1)),()) ())) .d) (.k (.inr ()))
def zz0 (x:zvz) (y:Unit):=zAa x.1 x.2.1 x.2.2.1 x.2.2.2.1
def zI7 (n:Nat) (values:yG) (t8:yF) (t9:Int) (t10:Int):=zx (zz0) (.inl default) n (values,t8,t9,t10,()) ()
def zVJ (r:zIt):LTree ty:=.ite (isL r) (.done .ret [.own 92] [.arr 107 (getL r) false]) (.done (.exit 0) [] [])
def zXH:LL ty zvz:=za (lSl 79) (za (lSl 54) (za zi (za zi zo)))
def zVM (x:zvz) (y:Unit):Nat:=(x.1.length+x.2.1.length+Int.toNat x.2.2.1+Int.toNat x.2.2.2.1+1000)
def zJU:=zcG base 23 [(77,zs6),(78,zC7)] [] [(2,(kpL [1,8,9,10]))] [(2,1,[]),(2,0,(kpL [4]))] [(2,spW zXH z2p (zz0) (.inl default) zVJ zVM)] []
theorem zVk:zR zJU (lp (body f34) 0):=zD (id:=2) (hl:=rfl)
def zLl (r:Relation) (values:yG):Wy0 (yB):=.bn (zI7 (values.length+r.Rows.length+(Int.ofNat r.Rows.length).toNat +Int.toNat 0+1000) values r.Rows (Int.ofNat r.Rows.length) 0) λr4=>.i (isL r4) (.k (getL r4)) (.k [])
def zn6 (r:Relation) (values:yG):=(zLl r values).fin default
def zEu:=zh z5H λx=>((zn6 x.1 x.2.1).1,z0A (zn6 x.1 x.2.1).2)
theorem zSm:SdP 34 zEu:=
 sT (cx':=zJU) (zk ⟨zyY,zPN,trivial⟩) call34 func34 (lOK (aC zVk aN)) (sg:=⟨[.own 107],[]⟩)
abbrev zkU:=Int×Unit×Unit×Int×yB×Int×Unit
abbrev zbt:=Relation×Relation×Unit
abbrev zx4:=Int×Int×yB×Relation×Relation
abbrev zdJ:=Int×Unit×Unit×Int×Unit
abbrev zky:=Bool⊕(Int×Relation×Relation)
abbrev zkz:=Int×Unit×Unit×Unit×Int×Unit×Int×Unit
abbrev zkx:=Relation×Relation×Relation×(yH×Unit×Unit)×yF×Unit
abbrev zx7:=Int×Relation×Relation×yH×yF
abbrev zqr:=Int×Unit×Unit×Unit
abbrev zfu:=Int×Unit×Unit
abbrev ze4:=Relation×Unit
def zpk (turn:Int) (i:Int) (sum:yB) (k:Int) (r:Relation) (x_:Relation):Wy zkU zbt zx4:=.i (decide (k<Int.ofNat r.Rows.length)) (.i (decide (0<=k)&&decide (k<Int.ofNat r.Rows.length)) (.i (decide (0<=i)&&decide (i<Int.ofNat r.Rows.length)) (.bn (zyB (r.Rows.getD k.toNat default).Values (r.Rows.getD i.toNat default).Values) λr15=>.i (r15) (.i (decide (0<=k)&&decide (k<Int.ofNat r.Rows.length)) (.bn (zAN sum (r.Rows.getD k.toNat default).Ann) λr14=>.h (turn,(),(),i,(r14),(IntKind.i64.wrap (k+1)),()) (r,x_,())) .d) (.h (turn,(),(),i,sum,(IntKind.i64.wrap (k+1)),()) (r,x_,()))) .d) .d) (.k (turn,i,sum,r,x_))
def zpi (x:zkU) (y:zbt):=zpk x.1 x.2.2.2.1 x.2.2.2.2.1 x.2.2.2.2.2.1 y.1 y.2.1
def zpo (n:Nat) (turn:Int) (i:Int) (sum:yB) (k:Int) (r:Relation) (x_:Relation):=zx (zpi) default n (turn,(),(),i,sum,k,()) (r,x_,())
def zGl (r:zx4):LTree ty:=.done (.exit 2) [.lit (.int .u8 r.1),.ptr 688 0,.ptr 689 0,.lit (.int .i64 r.2.1),.sl 107 r.2.2.1] [.box (base.enc 25 r.2.2.2.1) false,.box (base.enc 25 r.2.2.2.2) false]
def zHx:LL ty zkU:=za (zW .u8) (za (zdo 688 0) (za (zdo 689 0) (za zi (za (lSl 107) (za zi zo)))))
def zHK:BL ty zbt:=zeM (zfh (λx=>(⟨x.1,x.2.1⟩:Relation)) (λx=>(x.Columns,x.Rows,())) (λ_=>rfl) (za (lSl 75) (za (lSl 54) zo))) false (zeM (zfh (λx=>(⟨x.1,x.2.1⟩:Relation)) (λx=>(x.Columns,x.Rows,())) (λ_=>rfl) (za (lSl 75) (za (lSl 54) zo))) false (zbu))
def zqD (turn:Int) (i:Int) (r:Relation) (x_:Relation):Wy zdJ zbt zky:=.i (decide (i<Int.ofNat r.Rows.length)) (.bn (zpo (turn.toNat +i.toNat +0+Int.toNat 0+r.Columns.length+r.Rows.length+x_.Columns.length+x_.Rows.length+1000) turn i [] 0 r x_) λr20=>.i (decide (0<=r20.2.1)&&decide (r20.2.1<Int.ofNat r20.2.2.2.1.Rows.length)) (.bn (zn6 r20.2.2.2.2 (r20.2.2.2.1.Rows.getD r20.2.1.toNat default).Values) λr19=>.bn (zoQ r19 r20.2.2.1) λr18=>.i (!r18) (.k (.inl false)) (.h ((r20.1),(),(),(IntKind.i64.wrap (r20.2.1+1)),()) ((r20.2.2.2.1),(r20.2.2.2.2),()))) .d) (.k (.inr (turn,r,x_)))
def zqz (x:zdJ) (y:zbt):=zqD x.1 x.2.2.2.1 y.1 y.2.1
def zqi (n:Nat) (turn:Int) (i:Int) (r:Relation) (x_:Relation):=zx (zqz) (.inl default) n (turn,(),(),i,()) (r,x_,())
def zHr (r:zky):LTree ty:=.ite (isL r) (.done .ret [.lit (.bool (getL r))] []) (.done (.exit 0) [.lit (.int .u8 (getR r).1),.ptr 688 0,.ptr 689 0] [.box (base.enc 25 (getR r).2.1) false,.box (base.enc 25 (getR r).2.2) false])
def zJu:LL ty zdJ:=za (zW .u8) (za (zdo 688 0) (za (zdo 689 0) (za zi zo)))
def zo5 (turn:Int) (i:Int) (r:Relation) (x_:Relation):Wy zdJ zbt zky:=.i (decide (i<Int.ofNat x_.Rows.length)) (.i (decide (0<=i)&&decide (i<Int.ofNat x_.Rows.length)) (.bn (zn6 r (x_.Rows.getD i.toNat default).Values) λr25=>.i (Int.ofNat r25.length==0) (.i (decide (0<=i)&&decide (i<Int.ofNat x_.Rows.length)) (.bn (zAH r (x_.Rows.getD i.toNat default).Values) λr24=>.i (!r24) (.k (.inl false)) (.h (turn,(),(),(IntKind.i64.wrap (i+1)),()) (r,x_,()))) .d) (.h (turn,(),(),(IntKind.i64.wrap (i+1)),()) (r,x_,()))) .d) (.k (.inr (turn,r,x_)))
def zoW (x:zdJ) (y:zbt):=zo5 x.1 x.2.2.2.1 y.1 y.2.1
def zpc (n:Nat) (turn:Int) (i:Int) (r:Relation) (x_:Relation):=zx (zoW) (.inl default) n (turn,(),(),i,()) (r,x_,())
def zFQ (r:zky):LTree ty:=.ite (isL r) (.done .ret [.lit (.bool (getL r))] []) (.done (.exit 4) [.lit (.int .u8 (getR r).1),.ptr 688 0,.ptr 689 0] [.box (base.enc 25 (getR r).2.1) false,.box (base.enc 25 (getR r).2.2) false])
def zoE (turn:Int) (f:Int) (i:Int) (r:Relation) (x_:Relation) (y_:Relation) (s:yH) (b4:yF):Wy zkz zkx zx7:=.i (decide (i<Int.ofNat r.Rows.length)) (.i (!decide (Int.ofNat r.Rows.length=0)) (.i (decide (0<=(IntKind.i64.wrap (i+IntKind.i64.wrap turn)).tmod (Int.ofNat r.Rows.length))&&decide ((IntKind.i64.wrap (i+IntKind.i64.wrap turn)).tmod (Int.ofNat r.Rows.length)<Int.ofNat r.Rows.length)) (.i (decide ((b4.length+[r.Rows.getD ((IntKind.i64.wrap (i+IntKind.i64.wrap turn)).tmod (Int.ofNat r.Rows.length)).toNat default].length)*48<=zI)) (.h (turn,(),(),(),f,(),(IntKind.i64.wrap (i+1)),()) (r,x_,y_,(s,(),()),(b4++[r.Rows.getD ((IntKind.i64.wrap (i+IntKind.i64.wrap turn)).tmod (Int.ofNat r.Rows.length)).toNat default]),())) .d) .d) .d) (.k (f,x_,y_,s,b4))
def zpl (x:zkz) (y:zkx):=zoE x.1 x.2.2.2.2.1 x.2.2.2.2.2.2.1 y.1 y.2.1 y.2.2.1 y.2.2.2.1.1 y.2.2.2.2.1
def zo6 (n:Nat) (turn:Int) (f:Int) (i:Int) (r:Relation) (x_:Relation) (y_:Relation) (s:yH) (b4:yF):=zx (zpl) default n (turn,(),(),(),f,(),i,()) (r,x_,y_,(s,(),()),b4,())
def zFV (r:zx7):LTree ty:=.done (.exit 6) [.ptr 688 0,.ptr 689 0,.lit (.int .i64 r.1),.ptr 690 0] [.box (base.enc 25 r.2.1) false,.box (base.enc 25 r.2.2.1) false,.box ([.sl 75 r.2.2.2.1,.own 691]) false,.arr 54 r.2.2.2.2 false]
def zHo:LL ty zkz:=za (zW .u8) (za (zdo 688 0) (za (zdo 689 0) (za (zdo 690 0) (za zi (za (zdo 691 0) (za zi zo))))))
def zHH:BL ty zkx:=zeM (zfh (λx=>(⟨x.1,x.2.1⟩:Relation)) (λx=>(x.Columns,x.Rows,())) (λ_=>rfl) (za (lSl 75) (za (lSl 54) zo))) false (zeM (zfh (λx=>(⟨x.1,x.2.1⟩:Relation)) (λx=>(x.Columns,x.Rows,())) (λ_=>rfl) (za (lSl 75) (za (lSl 54) zo))) false (zeM (zfh (λx=>(⟨x.1,x.2.1⟩:Relation)) (λx=>(x.Columns,x.Rows,())) (λ_=>rfl) (za (lSl 75) (za (lSl 54) zo))) false (zeM (za (lSl 75) (za (zd4 692) zo)) false (zen 54 false (zbu)))))
def zqx (turn:Int) (r:Relation) (x_:Relation):Wy zqr zbt (Bool):=.bn (zqi (turn.toNat +Int.toNat 0+r.Columns.length+r.Rows.length+x_.Columns.length+x_.Rows.length+1000) turn 0 r x_) λr35=>.i (isL r35) (.k (getL r35)) (.bn (zpc ((getR r35).1.toNat +Int.toNat 0+(getR r35).2.1.Columns.length+(getR r35).2.1.Rows.length+(getR r35).2.2.Columns.length+(getR r35).2.2.Rows.length+1000) (getR r35).1 0 (getR r35).2.1 (getR r35).2.2) λr34=>.i (isL r34) (.k (getL r34)) (.bn (zhX (getR r34).2.2) λr33=>.bn (zo6 ((getR r34).1.toNat +r33.2.toNat +Int.toNat 0+(getR r34).2.1.Columns.length+(getR r34).2.1.Rows.length+(getR r34).2.2.Columns.length+(getR r34).2.2.Rows.length+r33.1.Columns.length+r33.1.Rows.length+(getR r34).2.1.Columns.length+0+1000) (getR r34).1 r33.2 0 (getR r34).2.1 (getR r34).2.2 r33.1 (getR r34).2.1.Columns []) λr32=>.bn (zhX (Relation.mk r32.2.2.2.1 r32.2.2.2.2)) λr31=>.bn (zpY r32.2.1) λr30=>.i (r30) (.i (r32.1==0) (.bn (zlZ r32.2.1 r32.2.2.1) λr29=>.i (r29) (.i (r31.2 != 0) (.k true) (.bn (zlZ r32.2.1 r31.1) λr28=>.k r28)) (.k false)) (.k false)) (.k false)))
def zqe (x:zqr) (y:zbt):=zqx x.1 y.1 y.2.1
def zx2 (n:Nat) (turn:Int) (r:Relation) (x_:Relation):=zx (zqe) default n (turn,(),(),()) (r,x_,())
def zHz (r:Bool):LTree ty:=.done .ret [.lit (.bool r)] []
def zIq:LL ty zqr:=za (zW .u8) (za (zdo 688 0) (za (zdo 689 0) zo))
def zqh (turn:Int) (r:Relation):Wy zfu ze4 (Bool):=.bn (zhX r) λr45=>.i (r45.2 != 0) (.i (Int.ofNat r45.1.Rows.length==0) (.k (Int.ofNat r45.1.Columns.length==0)) (.k false)) (.bn (zx2 1 turn r r45.1) λr44=>.k r44)
def zqJ (x:zfu) (y:ze4):=zqh x.1 y.1
def zx0 (n:Nat) (turn:Int) (r:Relation):=zx (zqJ) default n (turn,(),()) (r,())
def zIM:LL ty zfu:=za (zW .u8) (za (zdo 688 0) zo)
def zJZ:BL ty ze4:=zeM (zfh (λx=>(⟨x.1,x.2.1⟩:Relation)) (λx=>(x.Columns,x.Rows,())) (λ_=>rfl) (za (lSl 75) (za (lSl 54) zo))) false (zbu)
def zqk (turn:Int) (r:Relation):Wy zfu ze4 (Bool):=.bn (zAX 8 30 [r]) λr49=>.i (!r49) (.k true) (.bn (zx0 1 turn r) λr48=>.k r48)
def zqA (x:zfu) (y:ze4):=zqk x.1 y.1
def zx5 (n:Nat) (turn:Int) (r:Relation):=zx (zqA) default n (turn,(),()) (r,())
def zF9 (x:zkU) (y:zbt):Nat:=(Int.toNat x.1+Int.toNat x.2.2.2.1+x.2.2.2.2.1.length+Int.toNat x.2.2.2.2.2.1+y.1.Columns.length+y.1.Rows.length+y.2.1.Columns.length+y.2.1.Rows.length+1000)
def zG3 (x:zdJ) (y:zbt):Nat:=(Int.toNat x.1+Int.toNat x.2.2.2.1+y.1.Columns.length+y.1.Rows.length+y.2.1.Columns.length+y.2.1.Rows.length+1000)
def zF8 (x:zkz) (y:zkx):Nat:=(Int.toNat x.1+Int.toNat x.2.2.2.2.1+Int.toNat x.2.2.2.2.2.2.1+y.1.Columns.length+y.1.Rows.length+y.2.1.Columns.length+y.2.1.Rows.length+y.2.2.1.Columns.length+y.2.2.1.Rows.length+y.2.2.2.1.1.length+y.2.2.2.2.1.length+1000)
def zdM:=z7M zbE 172 [(10,zIe),(11,zNI),(14,zq3),(16,zwZ),(28,zrS),(31,zBO),(32,zNh),(33,zLg),(34,zEu),(35,zNJ)] [] [(9,(kpL [1,2,5,7])),(13,[(1,.keep),(2,.keep),(5,.keep),(7,.keep),(8,.sl 107),(9,.keep)]),(20,(kpL [1,2,5,10])),(27,[(1,.keep),(2,.keep),(5,.keep),(11,.keep),(12,.keep),(13,.boxOwn [(1,54)]),(14,.keep)]),(3,(kpL [1,2])),(5,(kpL [1,2])),(8,(kpL [1,2,5]))] [(9,1,(kpL [1,2,5])),(9,0,(kpL [4])),(13,3,(kpL [1,2,5,7,8])),(20,5,(kpL [1,2,5])),(20,0,(kpL [4])),(27,7,(kpL [5,11,12,13])),(3,0,(kpL [4])),(5,0,(kpL [4])),(8,0,(kpL [4]))] [(13,spW zHx zHK (zpi) default zGl zF9),(9,spW zJu zHK (zqz) (.inl default) zHr zG3),(20,spW zJu zHK (zoW) (.inl default) zFQ zG3),(27,spW zHo zHH (zpl) default zFV zF8)] [] [(8,spW zIq zHK (zqe) default zHz λx y=>(1)),(5,spW zIM zJZ (zqJ) default zHz λx y=>(1)),(3,spW zIM zJZ (zqA) default zHz λx y=>(1))]
theorem zFY:zR zdM (lp (body f7) 1):=zD (id:=13) (hl:=rfl)
theorem zHS:zR zdM (lp (body f7) 0):=zD (id:=9) (hl:=rfl)
theorem zF5:zR zdM (lp (body f7) 2):=zD (id:=20) (hl:=rfl)
theorem zGj:zR zdM (lp (body f7) 3):=zD (id:=27) (hl:=rfl)
theorem zGZ:zNy zdM (jn (body f7) 8):=zWT (id:=8) (hl:=rfl)
theorem zHd:zNy zdM (jn (body f7) 5):=zWT (id:=5) (hl:=rfl)
theorem zHA:zNy zdM (jn (body f7) 3):=zWT (id:=3) (hl:=rfl)
def zy0 (r:Relation) (turn:Int):Wy0 (Bool):=.bn (zx5 1 turn r) λr52=>.k r52
def zhs (r:Relation) (turn:Int):=(zy0 r turn).fin default
def zKx:AL zbE (Relation×Int×Unit):=zf (zg (zcT 25)) (zf (zg (zf5 .u8)) zA)
def znY:=zh zKx λx=>((zhs x.1 x.2.1).1,zRy (zhs x.1 x.2.1).2)
theorem zEY:Sound Tryz.prog zbE 7 znY:=
 zZB (cx':=zdM) zzP zPp zbbd (z9X ⟨zVL,zZx.nodr,zu9.nodr,zBB.nodr,zyl,zJ6.nodr,zX8.nodr,zXp.nodr,zSm.nodr,zYc.nodr,trivial⟩) call7 func7 (c:=body f7) (by kernel_rfl) (z2t (l:=[lp (body f7) 0,lp (body f7) 1,lp (body f7) 2,lp (body f7) 3]) (by kernel_rfl) ⟨zHS,zFY,zF5,zGj,trivial⟩ (js:=[jn (body f7) 3,jn (body f7) 5,jn (body f7) 8]) (by kernel_rfl) ⟨zHA,zHd,zGZ,trivial⟩) (sg:=⟨[.pure],[]⟩)
def trV (v:Value):TT:=.l [.i v.Kind,.i v.Int,trB v.Text]
mutual
def zdZ:At->TT
 | ⟨k,r,a,f,i,o,b⟩=>.l [.i k,.i r.Table,.i r.Seq,.l (zvI a),.i f,.l (zhC i),.i o,trV b]
def zqB:Fc->TT
 | ⟨x,e⟩=>.l [zdZ x,.i e]
def zbr:yC->List TT
 | []=>[]
 | x::r=>zqB x::zbr r
def zxD:Term->TT
 | ⟨c,fs⟩=>.l [.l (zbr fs),.i c]
def zdr:yB->List TT
 | []=>[]
 | x::r=>zxD x::zdr r
def zvI:yA->List TT
 | []=>[]
 | x::r=>.l (zdr x)::zvI r
def zba:Wd->TT
 | ⟨v,a⟩=>.l [trV v,.l (zdr a)]
def zhC:yD->List TT
 | []=>[]
 | x::r=>zba x::zhC r
end
theorem zvP:∀ l,zbr l=l.map zqB
 | []=>by rw [zbr]; rfl
 | x::r=>by rw [zbr,zvP r]; rfl
theorem zE8:∀ l,zdr l=l.map zxD
 | []=>by rw [zdr]; rfl
 | x::r=>by rw [zdr,zE8 r]; rfl
theorem zCc:∀ l,zvI l=l.map λx=>.l (zdr x)
 | []=>by rw [zvI]; rfl
 | x::r=>by rw [zvI,zCc r]; rfl
theorem zmc:∀ l,zhC l=l.map zba
 | []=>by rw [zhC]; rfl
 | x::r=>by rw [zhC,zmc r]; rfl
theorem zGi:∀ a b:List UInt8,(a.map λx=>TT.i (x.toNat:Int))=(b.map λx=>TT.i (x.toNat:Int))->a=b
 | [],[]=>λ_=>rfl
 | [],_::_=>λh=>by simp at h
 | _::_,[]=>λh=>by simp at h
 | x::a,y::b=>λh=>by
  simp only [List.map,qj,TT.i.injEq] at h;rw [zGi a b h.2,UInt8.toNat_inj.1 (Int.ofNat.inj h.1)]
theorem zZH {a b:Value} (h:trV a=trV b):a=b:=by
 obtain ⟨k,n,s⟩:=a; obtain ⟨k',n',s'⟩:=b;simp only [trV,trB,TT.l.injEq,qj,TT.i.injEq,and_true] at h;obtain ⟨rfl,rfl,h⟩:=h;have:=zGi _ _ h;obtain ⟨⟨l⟩⟩:=s; obtain ⟨⟨l'⟩⟩:=s';simp only at this; subst this; rfl
mutual
theorem zYt:∀ a b:At,zdZ a=zdZ b->a=b
 | ⟨k,r,a,f,i,o,v⟩,⟨k',r',a',f',i',o',v'⟩=>λh=>by
  simp only [zdZ,TT.l.injEq,qj,TT.i.injEq,and_true] at h;obtain ⟨rfl,h1,h2,h3,rfl,h4,rfl,h5⟩:=h;obtain ⟨t,s⟩:=r; obtain ⟨t',s'⟩:=r';simp only at h1 h2; subst h1 h2;rw [zYN a a' h3,zV8 i i' h4,zZH h5]
theorem z3d:∀ a b:Fc,zqB a=zqB b->a=b
 | ⟨x,e⟩,⟨x',e'⟩=>λh=>by
  simp only [zqB,TT.l.injEq,qj,TT.i.injEq,and_true] at h;rw [zYt x x' h.1,h.2]
theorem zzV:∀ a b:yC,zbr a=zbr b->a=b
 | [],[]=>λ_=>rfl
 | [],_::_=>λh=>by simp [zbr] at h
 | _::_,[]=>λh=>by simp [zbr] at h
 | x::a,y::b=>λh=>by
  simp only [zbr,qj] at h;rw [z3d x y h.1,zzV a b h.2]
theorem z7s:∀ a b:Term,zxD a=zxD b->a=b
 | ⟨c,l⟩,⟨c',l'⟩=>λh=>by
  simp only [zxD,TT.l.injEq,qj,TT.i.injEq,and_true] at h;rw [zzV l l' h.1,h.2]
theorem zEp:∀ a b:yB,zdr a=zdr b->a=b
 | [],[]=>λ_=>rfl
 | [],_::_=>λh=>by simp [zdr] at h
 | _::_,[]=>λh=>by simp [zdr] at h
 | x::a,y::b=>λh=>by
  simp only [zdr,qj] at h;rw [z7s x y h.1,zEp a b h.2]
theorem zYN:∀ a b:yA,zvI a=zvI b->a=b
 | [],[]=>λ_=>rfl
 | [],_::_=>λh=>by simp [zvI] at h
 | _::_,[]=>λh=>by simp [zvI] at h
 | x::a,y::b=>λh=>by
  simp only [zvI,qj,TT.l.injEq] at h;rw [zEp x y h.1,zYN a b h.2]
theorem zY5:∀ a b:Wd,zba a=zba b->a=b
 | ⟨c,l⟩,⟨c',l'⟩=>λh=>by
  simp only [zba,TT.l.injEq,qj,and_true] at h;rw [zZH h.1,zEp l l' h.2]
theorem zV8:∀ a b:yD,zhC a=zhC b->a=b
 | [],[]=>λ_=>rfl
 | [],_::_=>λh=>by simp [zhC] at h
 | _::_,[]=>λh=>by simp [zhC] at h
 | x::a,y::b=>λh=>by
  simp only [zhC,qj] at h;rw [zY5 x y h.1,zV8 a b h.2]
end
def zc7 (P:yB->Prop) (x:At):Prop:=
 (x.Ag.length<=1000000/\x.Items.length<=1000000/\x.Bd.Text.size<=1000000000000)/\(∀ a∈x.Ag,P a)/\∀ w∈x.Items,w.Value.Text.size<=1000000000000/\P w.Ann
def zfI (P:yB->Prop) (l:yC):Prop:=l.length<=1000000/\∀ f∈l,zc7 P f.At
def zn:Nat->yB->Prop
 | 0,_=>False
 | n+1,a=>a.length<=1000000/\∀ t∈a,zfI (zn n) t.Fs
theorem zc7.imp {P Q:yB->Prop} (h:∀ a,P a->Q a) {x:At} (hx:zc7 P x):zc7 Q x:=⟨hx.1,λa ha=>h a (hx.2.1 a ha),λw hw=>⟨(hx.2.2 w hw).1,h _ (hx.2.2 w hw).2⟩⟩
theorem zn.succ:∀ (n:Nat) (a:yB),zn n a->zn (n+1) a
 | 0,_,h=>h.elim
 | n+1,a,h=>⟨h.1,λt ht=>⟨(h.2 t ht).1,λf hf=>((h.2 t ht).2 f hf).imp (zn.succ n)⟩⟩
theorem zn.mono {n m:Nat} {a:yB} (h:zn n a) (hm:n<=m):zn m a:=by
 obtain ⟨k,rfl⟩:=Nat.exists_eq_add_of_le hm;clear hm;induction k with
 | zero=>exact h
 | succ k ih=>exact zn.succ _ _ ih
end Go.Proofs.YtoknknbmfmddbaaGreatDoor
end
