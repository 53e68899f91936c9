/- Texts of this claim, joined (the program, its functions in plain words, and what they compute). -/
import Derived.Test.YtoknknbmfmddbaaGreatDoorGC4
set_option autoImplicit false
set_option linter.unusedVariables false
set_option linter.unusedSectionVars false
set_option linter.unusedSimpArgs false
set_option maxRecDepth 1000000
set_option maxHeartbeats 0
noncomputable section
namespace Go.Proofs.YtoknknbmfmddbaaGreatDoor
open Go Go.Ab
open Go.Proofs.Tryz
abbrev zm3:=Unit×Unit×yF×Int×Int×Unit
abbrev znh:=Relation×(Unit×Unit×Unit)×Unit
abbrev zBb:=Int⊕Relation
abbrev znb:=Unit×Unit×Unit×Int×Int×Unit
abbrev znk:=(Unit×Unit×Unit)×(Unit×Unit×Unit)×yF×yH×yF×Unit
abbrev zAS:=Int⊕(yH×yF)
def zts (t19:yF) (t20:Int) (t21:Int) (r:Relation):Wy zm3 znh zBb:=.i (decide (t21<t20)) (.i (decide (0<=t21)&&decide (t21<Int.ofNat t19.length)) (.bn (zrt r.Columns (t19.getD t21.toNat default).Values) λr5=>.i (!r5) (.k (.inl 7)) (.bn (zb8 (t19.getD t21.toNat default).Ann) λr4=>.i (!r4) (.k (.inl 1)) (.h ((),(),t19,t20,(IntKind.i64.wrap (t21+1)),()) (r,((),(),()),())))) .d) (.k (.inr r))
def zto (x:zm3) (y:znh):=zts x.2.2.1 x.2.2.2.1 x.2.2.2.2.1 y.1
def zAX (n:Nat) (t19:yF) (t20:Int) (t21:Int) (r:Relation):=zA (zto) (.inl default) n ((),(),t19,t20,t21,()) (r,((),(),()),())
def zLT (r:zBb):LTree ty:=.ite (isL r) (.done .ret [.ptr 440 0,.lit (.int .i64 (getL r))] [.box ([.lit (.slice none 0 0),.lit (.slice none 0 0)]) false]) (.done (.exit 0) [.ptr 440 0,.ptr 441 0] [.box (base.enc 25 (getR r)) false,.box ([.lit (.slice none 0 0),.lit (.slice none 0 0)]) false])
def zNZ:LL ty zm3:=za (zdH 440 0) (za (zdH 441 0) (za (lSl 54) (za zj (za zj zm))))
def zNu:BL ty znh:=zfj (zgi (λx=>(⟨x.1,x.2.1⟩:Relation)) (λx=>(x.Columns,x.Rows,())) (λ_=>rfl) (za (lSl 75) (za (lSl 54) zm))) false (zfj (za zzi (za zzi zm)) false (zbg))
def zsI (t49:Int) (t50:Int) (t48:yF) (b3:yH) (b4:yF):Wy znb znk zAS:=.i (decide (t50<t49)) (.i (decide (0<=t50)&&decide (t50<Int.ofNat t48.length)) (.i (Int.ofNat b4.length==0) (.bn (znm (t48.getD t50.toNat default) (t48.getD t50.toNat default).Ann) λr8=>.i (decide ((b4.length+[r8].length)*48<=zF)) (.h ((),(),(),t49,(IntKind.i64.wrap (t50+1)),()) (((),(),()),((),(),()),t48,b3,(b4++[r8]),())) .d) (.i (decide (0<=IntKind.i64.wrap (Int.ofNat b4.length - 1))&&decide (IntKind.i64.wrap (Int.ofNat b4.length - 1)<Int.ofNat b4.length)) (.bn (zcn (b4.getD (IntKind.i64.wrap (Int.ofNat b4.length - 1)).toNat default) (t48.getD t50.toNat default)) λr11=>.i (r11 != 0) (.bn (znm (t48.getD t50.toNat default) (t48.getD t50.toNat default).Ann) λr9=>.i (decide ((b4.length+[r9].length)*48<=zF)) (.h ((),(),(),t49,(IntKind.i64.wrap (t50+1)),()) (((),(),()),((),(),()),t48,b3,(b4++[r9]),())) .d) (.i (decide (0<=IntKind.i64.wrap (Int.ofNat b4.length - 1))&&decide (IntKind.i64.wrap (Int.ofNat b4.length - 1)<Int.ofNat b4.length)) (.bn (zpC (b4.getD (IntKind.i64.wrap (Int.ofNat b4.length - 1)).toNat default).Ann (t48.getD t50.toNat default).Ann) λr10=>.i (r10.2 != 0) (.k (.inl (r10.2))) (.i (decide (0<=IntKind.i64.wrap (Int.ofNat b4.length - 1))&&decide (IntKind.i64.wrap (Int.ofNat b4.length - 1)<Int.ofNat b4.length)) (.i (decide ((IntKind.i64.wrap (Int.ofNat b4.length - 1)).toNat<b4.length)) (.h ((),(),(),t49,(IntKind.i64.wrap (t50+1)),()) (((),(),()),((),(),()),t48,b3,(b4.set (IntKind.i64.wrap (Int.ofNat b4.length - 1)).toNat (Row.mk (b4.getD (IntKind.i64.wrap (Int.ofNat b4.length - 1)).toNat default).Values r10.1)),())) .d) .d)) .d)) .d)) .d) (.k (.inr (b3,b4)))
def zsG (x:znb) (y:znk):=zsI x.2.2.2.1 x.2.2.2.2.1 y.2.2.1 y.2.2.2.1 y.2.2.2.2.1
def zzH (n:Nat) (t49:Int) (t50:Int) (t48:yF) (b3:yH) (b4:yF):=zA (zsG) (.inl default) n ((),(),(),t49,t50,()) (((),(),()),((),(),()),t48,b3,b4,())
def zKZ (r:zAS):LTree ty:=.ite (isL r) (.done .ret [.ptr 440 0,.lit (.int .i64 (getL r))] [.box ([.lit (.slice none 0 0),.lit (.slice none 0 0)]) false]) (.done (.exit 2) [.ptr 440 0,.ptr 441 0] [.box ([.lit (.slice none 0 0),.lit (.slice none 0 0)]) false,.box ([.own 442,.own 443]) false,.arr 75 (getR r).1 false,.arr 54 (getR r).2 false])
def zMf:LL ty znb:=za (zdH 440 0) (za (zdH 441 0) (za (zfb 442) (za zj (za zj zm))))
def zL6:BL ty znk:=zfj (za zzi (za zzi zm)) false (zfj (za (zfb 443) (za (zfb 444) zm)) false (zfl 54 false (zfl 75 false (zfl 54 false (zbg)))))
def zMa (x:zm3) (y:znh):Nat:=(x.2.2.1.length+Int.toNat x.2.2.2.1+Int.toNat x.2.2.2.2.1+y.1.Columns.length+y.1.Rows.length+1000)
def zKY (x:znb) (y:znk):Nat:=(Int.toNat x.2.2.2.1+Int.toNat x.2.2.2.2.1+y.2.2.1.length+y.2.2.2.1.length+y.2.2.2.2.1.length+1000)
def ztr:=zb1 zbw 110 [(50,znC),(51,zxR),(52,zcm),(53,zfp),(61,zfP),(67,zkR),(68,znY),(69,zja),(70,zji),(71,zB2),(72,zwE)] [(67,[true,false]),(70,[true,false])] [(4,(kpL [1,2,19,20,21])),(15,[(2,.keep),(7,.boxOwn [(1,54)]),(48,.keep),(49,.keep),(50,.keep)])] [(4,1,(kpL [1,2])),(4,0,(kpL [2,3])),(15,3,(kpL [2,7])),(15,0,(kpL [2,3]))] [(4,spW zNZ zNu (zto) (.inl default) zLT zMa),(15,spW zMf zL6 (zsG) (.inl default) zKZ zKY)] []
theorem zL5:zJ ztr (lp (body f28) 0):=zq (id:=4) (hl:=rfl)
theorem zKa:zJ ztr (lp (body f28) 1):=zq (id:=15) (hl:=rfl)
def zBV (r:Relation):Wy0 (Relation×Int):=.bn (zhl r.Columns) λr22=>.i (!r22) (.k ((⟨[],[]⟩:Relation),1)) (.bn (zAX (r.Rows.length+(Int.ofNat r.Rows.length).toNat +Int.toNat 0+r.Columns.length+r.Rows.length+1000) r.Rows (Int.ofNat r.Rows.length) 0 r) λr21=>.i (isL r21) (.k ((⟨[],[]⟩:Relation),getL r21)) (.bn (zeT (getR r21).Rows) λr20=>.bn (zdZ r20) λr19=>.bn (zcq r19) λr18=>.bn (zbX (getR r21).Columns) λr17=>.bn (zzH ((Int.ofNat r18.length).toNat +Int.toNat 0+r18.length+r17.length+0+1000) (Int.ofNat r18.length) 0 r18 r17 []) λr16=>.i (isL r16) (.k ((⟨[],[]⟩:Relation),getL r16)) (.i (decide (Int.ofNat (getR r16).2.length>1024)) (.k ((⟨[],[]⟩:Relation),6)) (.k ((⟨(getR r16).1,(getR r16).2⟩:Relation),0)))))
def zmk (r:Relation):=(zBV r).fin default
def zMW (r:Relation×Int):ARes ty:=⟨[.pure (.agg (base.enc 25 r.1)),.pure (.lit (.int .i64 r.2))],[]⟩
def zrm:=zh zWD λx=>((zmk x.1).1,zMW (zmk x.1).2)
theorem zxH:Sound Tryz.prog zbw 28 zrm:=
 sU (cx':=ztr) (zi ⟨zuu.nodr,zDi.nodr,zcu.nodr,zgn.nodr,zj1.nodr,zuG.nodr,zyk.nodr,zmv.nodr,zsL.nodr,zNv,zCo,trivial⟩) call28 func28 (lOK (aC zL5 (aC zKa aN))) (sg:=⟨[.pure,.pure],[]⟩)
def z3j:=zbx zbw 50 [(12,zB9),(14,zwI),(16,zDw),(28,zrm),(42,zHa)]
def z43:Wy0 (Bool):=.k true
def zYl:Bool×Bool:=(z43).fin default
def z4U:AL zbw (Unit):=zt
def zIf:=zh z4U λx=>((zYl ).1,zTe (zYl ).2)
theorem zWV:Sound Tryz.prog zbw 10 zIf:=
 sU (cx':=z3j) (zi ⟨zNK,zCv.nodr,zQr.nodr,zxH,zTz.nodr,trivial⟩) call10 func10 (lOK aN)
abbrev zoG:=yH×yH×Int×Unit
def zkd (a:yH) (b:yH) (i:Int):Wy zoG Unit (Bool⊕Unit):=.i (decide (i<Int.ofNat a.length)) (.i (decide (0<=i)&&decide (i<Int.ofNat a.length)) (.i (decide (0<=i)&&decide (i<Int.ofNat b.length)) (.i (!((a.getD i.toNat default).Name.toList==(b.getD i.toNat default).Name.toList&&((a.getD i.toNat default).Type_==(b.getD i.toNat default).Type_&&true))) (.k (.inl false)) (.h (a,b,(IntKind.i64.wrap (i+1)),()) ())) .d) .d) (.k (.inr ()))
def zuL (x:zoG) (y:Unit):=zkd x.1 x.2.1 x.2.2.1
def zBU (n:Nat) (a:yH) (b:yH) (i:Int):=zA (zuL) (.inl default) n (a,b,i,()) ()
def zPs:LL ty zoG:=za (lSl 75) (za (lSl 75) (za zj zm))
def zPb (x:zoG) (y:Unit):Nat:=(x.1.length+x.2.1.length+Int.toNat x.2.2.1+1)
def zCB:=zb1 base 26 [] [] [(4,(kpL [0,1,5]))] [(4,1,[]),(4,0,(kpL [4]))] [(4,spW zPs z4x (zuL) (.inl default) zmp zPb)] []
theorem zOG:zJ zCB (lp (body f23) 0):=zq (id:=4) (hl:=rfl)
def zDl (a:yH) (b:yH):Wy0 (Bool):=.i (Int.ofNat a.length != Int.ofNat b.length) (.k false) (.bn (zBU (a.length+b.length+Int.toNat 0+1) a b 0) λr0=>.i (isL r0) (.k (getL r0)) (.k true))
def zkK (a:yH) (b:yH):=(zDl a b).fin default
def zsX:=zh zxd λx=>((zkK x.1 x.2.1).1,zTe (zkK x.1 x.2.1).2)
theorem zyB:SdP 23 zsX:=
 sT (cx':=zCB) (zi trivial) call23 func23 (lOK (aC zOG aN))
def z4s:=zbx base 4 []
def zTF (less:Bool):Wy0 (Int):=.i (less) (.k (-1:Int)) (.k 1)
def zr1 (less:Bool):=(zTF less).fin default
def z6V:AL base (Bool×Unit):=zd (ze zbgk) zt
def zCa:=zh z6V λx=>((zr1 x.1).1,zMl (zr1 x.1).2)
theorem zI2:SdP 114 zCa:=
 sT (cx':=z4s) (zi trivial) call114 func114 (lOK aN)
def zYN:=zbx base 38 [(114,zCa)]
def zLn (a:Value) (b:Value):Wy0 (Int):=.i (a.Kind != b.Kind) (.bn (zr1 (decide (a.Kind<b.Kind))) λr0=>.k r0) (.i (a.Int != b.Int) (.bn (zr1 (decide (a.Int<b.Int))) λr1=>.k r1) (.i (!a.Text.toList==b.Text.toList) (.bn (zr1 (Op.bytesLess a.Text.toList b.Text.toList)) λr2=>.k r2) (.k 0)))
def zjb (a:Value) (b:Value):=(zLn a b).fin default
def zsn:=zh z0I λx=>((zjb x.1 x.2.1).1,zMl (zjb x.1 x.2.1).2)
theorem zwi:SdP 113 zsn:=
 sT (cx':=zYN) (zi ⟨zI2,trivial⟩) call113 func113 (lOK aN)
abbrev zm0:=yG×yG×Int×Unit
abbrev zAZ:=Int⊕(yG×yG)
def zuX (a:yG) (b:yG) (i:Int):Wy zm0 Unit zAZ:=.i (decide (i<Int.ofNat a.length)) (.i (decide (i<Int.ofNat b.length)) (.i (decide (0<=i)&&decide (i<Int.ofNat a.length)) (.i (decide (0<=i)&&decide (i<Int.ofNat b.length)) (.bn (zjb (a.getD i.toNat default) (b.getD i.toNat default)) λr0=>.i (r0 != 0) (.k (.inl (r0))) (.h (a,b,(IntKind.i64.wrap (i+1)),()) ())) .d) .d) (.k (.inr (a,b)))) (.k (.inr (a,b)))
def zCz (x:zm0) (y:Unit):=zuX x.1 x.2.1 x.2.2.1
def zuC (n:Nat) (a:yG) (b:yG) (i:Int):=zA (zCz) (.inl default) n (a,b,i,()) ()
def zNX (r:zAZ):LTree ty:=.ite (isL r) (.done .ret [.lit (.int .i64 (getL r))] []) (.done (.exit 0) [.sl 79 (getR r).1,.sl 79 (getR r).2] [])
def zQQ:LL ty zm0:=za (lSl 79) (za (lSl 79) (za zj zm))
def zO9 (x:zm0) (y:Unit):Nat:=(x.1.length+x.2.1.length+Int.toNat x.2.2.1+1)
def zCP:=zb1 base 42 [(113,zsn),(114,zCa)] [] [(2,(kpL [0,1,5]))] [(2,1,(kpL [0,1])),(2,0,(kpL [4]))] [(2,spW zQQ z4x (zCz) (.inl default) zNX zO9)] []
theorem zNp:zJ zCP (lp (body f57) 0):=zq (id:=2) (hl:=rfl)
def zDr (a:yG) (b:yG):Wy0 (Int):=.bn (zuC (a.length+b.length+Int.toNat 0+1) a b 0) λr3=>.i (isL r3) (.k (getL r3)) (.i (Int.ofNat (getR r3).1.length==Int.ofNat (getR r3).2.length) (.k 0) (.bn (zr1 (decide (Int.ofNat (getR r3).1.length<Int.ofNat (getR r3).2.length))) λr2=>.k r2))
def zkM (a:yG) (b:yG):=(zDr a b).fin default
def zsM:=zh zSE λx=>((zkM x.1 x.2.1).1,zMl (zkM x.1 x.2.1).2)
theorem zyS:SdP 57 zsM:=
 sT (cx':=zCP) (zi ⟨zwi,zI2,trivial⟩) call57 func57 (lOK (aC zNp aN))
def z4V:=zbx base 9 [(57,zsM)]
def zTy (a:yG) (b:yG):Wy0 (Bool):=.bn (zkM a b) λr0=>.k (r0==0)
def zys (a:yG) (b:yG):=(zTy a b).fin default
def zCC:=zh zSE λx=>((zys x.1 x.2.1).1,zTe (zys x.1 x.2.1).2)
theorem zIn:SdP 31 zCC:=
 sT (cx':=z4V) (zi ⟨zyS,trivial⟩) call31 func31 (lOK aN)
def ziZ (F:yC->yC->Bool×Int):Ab.Spec ty:=zh zWz λx=>((F x.1 x.2.1).1,zMl (F x.1 x.2.1).2)
def zP4:AL base (yD×yD×Unit):=zd (ze (vSl 169)) (zd (ze (vSl 169)) zt)
def zka (F:yD->yD->Bool×Int):Ab.Spec ty:=zh zP4 λx=>((F x.1 x.2.1).1,zMl (F x.1 x.2.1).2)
def z1d:=zbx base 11 []
def zOn (a:Int) (b:Int):Wy0 (Int):=.i (decide (a<b)) (.k (-1:Int)) (.i (decide (a>b)) (.k 1) (.k 0))
def zcH (a:Int) (b:Int):=(zOn a b).fin default
def zkO:=zh zSX λx=>((zcH x.1 x.2.1).1,zMl (zcH x.1 x.2.1).2)
theorem zmj:SdP 129 zkO:=
 sT (cx':=z1d) (zi trivial) call129 func129 (lOK aN)
abbrev zve:=yB×yB×Int×Unit
abbrev zJ5:=Int⊕(yB×yB)
def zVI (zbh:yC->yC->Bool×Int) (a:yB) (b:yB) (i:Int):Wy zve Unit zJ5:=.i (decide (i<Int.ofNat a.length)) (.i (decide (i<Int.ofNat b.length)) (.i (decide (0<=i)&&decide (i<Int.ofNat a.length)) (.i (decide (0<=i)&&decide (i<Int.ofNat b.length)) (.bn (zbh (a.getD i.toNat default).Fs (b.getD i.toNat default).Fs) λr1=>.i (r1 != 0) (.k (.inl (r1))) (.i (decide (0<=i)&&decide (i<Int.ofNat a.length)) (.i (decide (0<=i)&&decide (i<Int.ofNat b.length)) (.bn (zcH (a.getD i.toNat default).Cf (b.getD i.toNat default).Cf) λr0=>.i (r0 != 0) (.k (.inl (r0))) (.h (a,b,(IntKind.i64.wrap (i+1)),()) ())) .d) .d)) .d) .d) (.k (.inr (a,b)))) (.k (.inr (a,b)))
def zFA (zbh:yC->yC->Bool×Int) (x:zve) (y:Unit):=zVI zbh x.1 x.2.1 x.2.2.1
def zVq (zbh:yC->yC->Bool×Int) (n:Nat) (a:yB) (b:yB) (i:Int):=zA (zFA zbh) (.inl default) n (a,b,i,()) ()
def zSl (r:zJ5):LTree ty:=.ite (isL r) (.done .ret [.lit (.int .i64 (getL r))] []) (.done (.exit 0) [.sl 107 (getR r).1,.sl 107 (getR r).2] [])
def zUY:LL ty zve:=za (lSl 107) (za (lSl 107) (za zj zm))
def zSh (x:zve) (y:Unit):Nat:=(x.1.length+x.2.1.length+Int.toNat x.2.2.1+1)
def zFy (zbh:yC->yC->Bool×Int):=zb1 base 53 [(110,(ziZ zbh)),(129,zkO)] [] [(2,(kpL [0,1,5]))] [(2,1,(kpL [0,1])),(2,0,(kpL [4]))] [(2,spW zUY z4x (zFA zbh) (.inl default) zSl zSh)] []
theorem zSs (zbh:yC->yC->Bool×Int):zJ (zFy zbh) (lp (body f76) 0):=zq (id:=2) (hl:=rfl)
def zWI (zbh:yC->yC->Bool×Int) (a:yB) (b:yB):Wy0 (Int):=.bn (zVq zbh (a.length+b.length+Int.toNat 0+1) a b 0) λr5=>.i (isL r5) (.k (getL r5)) (.bn (zcH (Int.ofNat (getR r5).1.length) (Int.ofNat (getR r5).2.length)) λr4=>.k r4)
def zwY (zbh:yC->yC->Bool×Int) (a:yB) (b:yB):=(zWI zbh a b).fin default
theorem zNz (zbh:yC->yC->Bool×Int) (zJ1:SdP 110 (ziZ zbh)):SdP 76 (zd2 (zwY zbh)):=
 sT (cx':=(zFy zbh)) (zi ⟨zJ1,zmj,trivial⟩) call76 func76 (lOK (aC (zSs zbh) aN))
def zTi:=zbx base 19 [(129,zkO)]
def zE3 (a:RowID) (b:RowID):Wy0 (Int):=.bn (zcH a.Table b.Table) λr1=>.i (r1 != 0) (.k r1) (.bn (zcH a.Seq b.Seq) λr0=>.k r0)
def zp9 (a:RowID) (b:RowID):=(zE3 a b).fin default
def zV8:AL base (RowID×RowID×Unit):=zd (ze (zcd 63)) (zd (ze (zcd 63)) zt)
def zA6:=zh zV8 λx=>((zp9 x.1 x.2.1).1,zMl (zp9 x.1 x.2.1).2)
theorem zMb:SdP 189 zA6:=
 sT (cx':=zTi) (zi ⟨zmj,trivial⟩) call189 func189 (lOK aN)
abbrev zoF:=Unit×Unit×Int×Unit
abbrev zoI:=At×At×Unit
abbrev zCc:=Int⊕(At×At)
def zsZ (zR:yB->yB->Bool×Int) (zbr:yD->yD->Bool×Int) (i:Int) (a:At) (b:At):Wy zoF zoI zCc:=.i (decide (i<Int.ofNat a.Ag.length)) (.i (decide (i<Int.ofNat b.Ag.length)) (.i (decide (0<=i)&&decide (i<Int.ofNat a.Ag.length)) (.i (decide (0<=i)&&decide (i<Int.ofNat b.Ag.length)) (.bn (zR (a.Ag.getD i.toNat default) (b.Ag.getD i.toNat default)) λr0=>.i (r0 != 0) (.k (.inl (r0))) (.h ((),(),(IntKind.i64.wrap (i+1)),()) (a,b,()))) .d) .d) (.k (.inr (a,b)))) (.k (.inr (a,b)))
def zzE (zR:yB->yB->Bool×Int) (zbr:yD->yD->Bool×Int) (x:zoF) (y:zoI):=zsZ zR zbr x.2.2.1 y.1 y.2.1
def zsR (zR:yB->yB->Bool×Int) (zbr:yD->yD->Bool×Int) (n:Nat) (i:Int) (a:At) (b:At):=zA (zzE zR zbr) (.inl default) n ((),(),i,()) (a,b,())
def zKH (r:zCc):LTree ty:=.ite (isL r) (.done .ret [.lit (.int .i64 (getL r))] []) (.done (.exit 0) [.ptr 384 0,.ptr 385 0] [.box (base.enc 143 (getR r).1) false,.box (base.enc 143 (getR r).2) false])
def zMh:LL ty zoF:=za (zdH 384 0) (za (zdH 385 0) (za zj zm))
def zMR:BL ty zoI:=zfj (zgi (λx=>(⟨x.1,⟨x.2.1,x.2.2.1⟩,x.2.2.2.1,x.2.2.2.2.1,x.2.2.2.2.2.1,x.2.2.2.2.2.2.1,⟨x.2.2.2.2.2.2.2.1,x.2.2.2.2.2.2.2.2.1,x.2.2.2.2.2.2.2.2.2.1⟩⟩:At)) (λx=>(x.Kind,x.Row.Table,x.Row.Seq,x.Ag,x.Func,x.Items,x.Op,x.Bd.Kind,x.Bd.Int,x.Bd.Text,())) (λ_=>rfl) (za (zS .i64) (za (zS .i64) (za (zS .i64) (za (lSl 51) (za (zS .i64) (za (lSl 169) (za (zS .i64) (za (zS .i64) (za (zS .i64) (za znN zm))))))))))) false (zfj (zgi (λx=>(⟨x.1,⟨x.2.1,x.2.2.1⟩,x.2.2.2.1,x.2.2.2.2.1,x.2.2.2.2.2.1,x.2.2.2.2.2.2.1,⟨x.2.2.2.2.2.2.2.1,x.2.2.2.2.2.2.2.2.1,x.2.2.2.2.2.2.2.2.2.1⟩⟩:At)) (λx=>(x.Kind,x.Row.Table,x.Row.Seq,x.Ag,x.Func,x.Items,x.Op,x.Bd.Kind,x.Bd.Int,x.Bd.Text,())) (λ_=>rfl) (za (zS .i64) (za (zS .i64) (za (zS .i64) (za (lSl 51) (za (zS .i64) (za (lSl 169) (za (zS .i64) (za (zS .i64) (za (zS .i64) (za znN zm))))))))))) false (zbg))
def zKP (x:zoF) (y:zoI):Nat:=(Int.toNat x.2.2.1+y.1.Ag.length+y.1.Items.length+y.2.1.Ag.length+y.2.1.Items.length+1)
def zzN (zR:yB->yB->Bool×Int) (zbr:yD->yD->Bool×Int):=zb1 base 96 [(76,(zd2 zR)),(113,zsn),(129,zkO),(188,(zka zbr)),(189,zA6)] [] [(8,(kpL [2,3,7]))] [(8,1,(kpL [2,3])),(8,0,(kpL [4]))] [(8,spW zMh zMR (zzE zR zbr) (.inl default) zKH zKP)] []
theorem zKo (zR:yB->yB->Bool×Int) (zbr:yD->yD->Bool×Int):zJ (zzN zR zbr) (lp (body f112) 0):=zq (id:=8) (hl:=rfl)
def zBe (zR:yB->yB->Bool×Int) (zbr:yD->yD->Bool×Int) (a:At) (b:At):Wy0 (Int):=.bn (zcH a.Kind b.Kind) λr9=>.i (r9 != 0) (.k r9) (.bn (zp9 a.Row b.Row) λr8=>.i (r8 != 0) (.k r8) (.bn (zsR zR zbr (Int.toNat 0+a.Ag.length+a.Items.length+b.Ag.length+b.Items.length+1) 0 (At.mk a.Kind a.Row a.Ag a.Func a.Items a.Op a.Bd) (At.mk b.Kind b.Row b.Ag b.Func b.Items b.Op b.Bd)) λr7=>.i (isL r7) (.k (getL r7)) (.bn (zcH (Int.ofNat (getR r7).1.Ag.length) (Int.ofNat (getR r7).2.Ag.length)) λr6=>.i (r6 != 0) (.k r6) (.bn (zcH (getR r7).1.Func (getR r7).2.Func) λr5=>.i (r5 != 0) (.k r5) (.bn (zbr (getR r7).1.Items (getR r7).2.Items) λr4=>.i (r4 != 0) (.k r4) (.bn (zcH (getR r7).1.Op (getR r7).2.Op) λr3=>.i (r3 != 0) (.k r3) (.bn (zjb (getR r7).1.Bd (getR r7).2.Bd) λr2=>.k r2)))))))
def zlr (zR:yB->yB->Bool×Int) (zbr:yD->yD->Bool×Int) (a:At) (b:At):=(zBe zR zbr a b).fin default
theorem zHD (zR:yB->yB->Bool×Int) (zbr:yD->yD->Bool×Int) (zzg:SdP 76 (zd2 zR)) (zM0:SdP 188 (zka zbr)):SdP 112 (zgU (zlr zR zbr)):=
 sT (cx':=(zzN zR zbr)) (zi ⟨zzg,zwi,zmj,zM0,zMb,trivial⟩) call112 func112 (lOK (aC (zKo zR zbr) aN))
abbrev zla:=yC×yC×Int×Unit
abbrev zyG:=Int⊕(yC×yC)
def zwV (zby:At->At->Bool×Int) (a:yC) (b:yC) (i:Int):Wy zla Unit zyG:=.i (decide (i<Int.ofNat a.length)) (.i (decide (i<Int.ofNat b.length)) (.i (decide (0<=i)&&decide (i<Int.ofNat a.length)) (.i (decide (0<=i)&&decide (i<Int.ofNat b.length)) (.bn (zby (At.mk (a.getD i.toNat default).At.Kind (a.getD i.toNat default).At.Row (a.getD i.toNat default).At.Ag (a.getD i.toNat default).At.Func (a.getD i.toNat default).At.Items (a.getD i.toNat default).At.Op (a.getD i.toNat default).At.Bd) (At.mk (b.getD i.toNat default).At.Kind (b.getD i.toNat default).At.Row (b.getD i.toNat default).At.Ag (b.getD i.toNat default).At.Func (b.getD i.toNat default).At.Items (b.getD i.toNat default).At.Op (b.getD i.toNat default).At.Bd)) λr1=>.i (r1 != 0) (.k (.inl (r1))) (.i (decide (0<=i)&&decide (i<Int.ofNat a.length)) (.i (decide (0<=i)&&decide (i<Int.ofNat b.length)) (.bn (zcH (a.getD i.toNat default).Exp (b.getD i.toNat default).Exp) λr0=>.i (r0 != 0) (.k (.inl (r0))) (.h (a,b,(IntKind.i64.wrap (i+1)),()) ())) .d) .d)) .d) .d) (.k (.inr (a,b)))) (.k (.inr (a,b)))
def zjM (zby:At->At->Bool×Int) (x:zla) (y:Unit):=zwV zby x.1 x.2.1 x.2.2.1
def zwS (zby:At->At->Bool×Int) (n:Nat) (a:yC) (b:yC) (i:Int):=zA (zjM zby) (.inl default) n (a,b,i,()) ()
def zGp (r:zyG):LTree ty:=.ite (isL r) (.done .ret [.lit (.int .i64 (getL r))] []) (.done (.exit 0) [.sl 145 (getR r).1,.sl 145 (getR r).2] [])
def zHY:LL ty zla:=za (lSl 145) (za (lSl 145) (za zj zm))
def zF2 (x:zla) (y:Unit):Nat:=(x.1.length+x.2.1.length+Int.toNat x.2.2.1+1)
def zwT (zby:At->At->Bool×Int):=zb1 base 53 [(112,(zgU zby)),(129,zkO)] [] [(2,(kpL [0,1,5]))] [(2,1,(kpL [0,1])),(2,0,(kpL [4]))] [(2,spW zHY z4x (zjM zby) (.inl default) zGp zF2)] []
theorem zF4 (zby:At->At->Bool×Int):zJ (zwT zby) (lp (body f110) 0):=zq (id:=2) (hl:=rfl)
def zxN (zby:At->At->Bool×Int) (a:yC) (b:yC):Wy0 (Int):=.bn (zwS zby (a.length+b.length+Int.toNat 0+1) a b 0) λr5=>.i (isL r5) (.k (getL r5)) (.bn (zcH (Int.ofNat (getR r5).1.length) (Int.ofNat (getR r5).2.length)) λr4=>.k r4)
def zi4 (zby:At->At->Bool×Int) (a:yC) (b:yC):=(zxN zby a b).fin default
theorem zDU (zby:At->At->Bool×Int) (zO8:SdP 112 (zgU zby)):SdP 110 (ziZ (zi4 zby)):=
 sT (cx':=(zwT zby)) (zi ⟨zO8,zmj,trivial⟩) call110 func110 (lOK (aC (zF4 zby) aN))
abbrev znf:=yD×yD×Int×Unit
abbrev zAU:=Int⊕(yD×yD)
def zKk (zR:yB->yB->Bool×Int) (a:yD) (b:yD) (i:Int):Wy znf Unit zAU:=.i (decide (i<Int.ofNat a.length)) (.i (decide (i<Int.ofNat b.length)) (.i (decide (0<=i)&&decide (i<Int.ofNat a.length)) (.i (decide (0<=i)&&decide (i<Int.ofNat b.length)) (.bn (zjb (a.getD i.toNat default).Value (b.getD i.toNat default).Value) λr1=>.i (r1 != 0) (.k (.inl (r1))) (.i (decide (0<=i)&&decide (i<Int.ofNat a.length)) (.i (decide (0<=i)&&decide (i<Int.ofNat b.length)) (.bn (zR (a.getD i.toNat default).Ann (b.getD i.toNat default).Ann) λr0=>.i (r0 != 0) (.k (.inl (r0))) (.h (a,b,(IntKind.i64.wrap (i+1)),()) ())) .d) .d)) .d) .d) (.k (.inr (a,b)))) (.k (.inr (a,b)))
def zyK (zR:yB->yB->Bool×Int) (x:znf) (y:Unit):=zKk zR x.1 x.2.1 x.2.2.1
def zKl (zR:yB->yB->Bool×Int) (n:Nat) (a:yD) (b:yD) (i:Int):=zA (zyK zR) (.inl default) n (a,b,i,()) ()
def zI5 (r:zAU):LTree ty:=.ite (isL r) (.done .ret [.lit (.int .i64 (getL r))] []) (.done (.exit 0) [.sl 169 (getR r).1,.sl 169 (getR r).2] [])
def zKt:LL ty znf:=za (lSl 169) (za (lSl 169) (za zj zm))
def zJl (x:znf) (y:Unit):Nat:=(x.1.length+x.2.1.length+Int.toNat x.2.2.1+1)
def zyQ (zR:yB->yB->Bool×Int):=zb1 base 53 [(76,(zd2 zR)),(113,zsn),(129,zkO)] [] [(2,(kpL [0,1,5]))] [(2,1,(kpL [0,1])),(2,0,(kpL [4]))] [(2,spW zKt z4x (zyK zR) (.inl default) zI5 zJl)] []
theorem zIK (zR:yB->yB->Bool×Int):zJ (zyQ zR) (lp (body f188) 0):=zq (id:=2) (hl:=rfl)
def zMS (zR:yB->yB->Bool×Int) (a:yD) (b:yD):Wy0 (Int):=.bn (zKl zR (a.length+b.length+Int.toNat 0+1) a b 0) λr5=>.i (isL r5) (.k (getL r5)) (.bn (zcH (Int.ofNat (getR r5).1.length) (Int.ofNat (getR r5).2.length)) λr4=>.k r4)
def zoZ (zR:yB->yB->Bool×Int) (a:yD) (b:yD):=(zMS zR a b).fin default
theorem zF8 (zR:yB->yB->Bool×Int) (zzg:SdP 76 (zd2 zR)):SdP 188 (zka (zoZ zR)):=
 sT (cx':=(zyQ zR)) (zi ⟨zzg,zwi,zmj,trivial⟩) call188 func188 (lOK (aC (zIK zR) aN))
def zj5:Nat->(yB->yB->Bool×Int)×(yC->yC->Bool×Int)×(At->At->Bool×Int)×(yD->yD->Bool×Int)
 | 0=>(λ_ _=>(false,default),λ_ _=>(false,default),λ_ _=>(false,default),λ_ _=>(false,default))
 | n+1=>(zwY ((zj5 n).2.1),zi4 ((zj5 n).2.2.1),zlr ((zj5 n).1) ((zj5 n).2.2.2),zoZ ((zj5 n).1))
def zne (n:Nat):yB->yB->Bool×Int:=(zj5 n).1
def zi3 (n:Nat):yC->yC->Bool×Int:=(zj5 n).2.1
def zlg (n:Nat):At->At->Bool×Int:=(zj5 n).2.2.1
def zkq (n:Nat):yD->yD->Bool×Int:=(zj5 n).2.2.2
theorem zVN (n:Nat):zne (n+1)=zwY (zi3 n):=rfl
theorem zHF (n:Nat):zi3 (n+1)=zi4 (zlg n):=rfl
theorem zMj (n:Nat):zlg (n+1)=zlr (zne n) (zkq n):=rfl
theorem zKp (n:Nat):zkq (n+1)=zoZ (zne n):=rfl
theorem ztJ:∀ n,SdP 76 (zd2 (zne n))/\SdP 110 (ziZ (zi3 n))/\SdP 112 (zgU (zlg n))/\SdP 188 (zka (zkq n))
 | 0=>⟨zbk call76 (λ_=>rfl),zbk call110 (λ_=>rfl),zbk call112 (λ_=>rfl),zbk call188 (λ_=>rfl)⟩
 | n+1=>by
  have ih:=ztJ n;exact ⟨zNz _ (ih.2.1),zDU _ (ih.2.2.1),zHD _ _ (ih.1) (ih.2.2.2),zF8 _ (ih.1)⟩
def zGq:yB->yB->Bool×Int:=zne 1000
def zFL:Ab.Spec ty:=zd2 zGq
theorem zSK:SdP 76 zFL:=(ztJ 1000).1
def zkl:yC->yC->Bool×Int:=zi3 1000
def zo2:Ab.Spec ty:=ziZ zkl
theorem zvs:SdP 110 zo2:=(ztJ 1000).2.1
def zkJ:At->At->Bool×Int:=zlg 1000
def zzL:Ab.Spec ty:=zgU zkJ
theorem zKQ:SdP 112 zzL:=(ztJ 1000).2.2.1
def zrR:yD->yD->Bool×Int:=zkq 1000
def zyw:Ab.Spec ty:=zka zrR
theorem zId:SdP 188 zyw:=(ztJ 1000).2.2.2
def z4G:=zbx base 9 [(76,zFL)]
def zUv (a:yB) (b:yB):Wy0 (Bool):=.bn (zGq a b) λr0=>.k (r0==0)
def zoS (a:yB) (b:yB):=(zUv a b).fin default
def zCM:=zh zPO λx=>((zoS x.1 x.2.1).1,zTe (zoS x.1 x.2.1).2)
theorem zJb:SdP 33 zCM:=
 sT (cx':=z4G) (zi ⟨zSK,trivial⟩) call33 func33 (lOK aN)
abbrev zsl:=yF×yF×Int×Unit
def zn7 (a:yF) (b:yF) (i:Int):Wy zsl Unit (Bool⊕Unit):=.i (decide (i<Int.ofNat a.length)) (.i (decide (0<=i)&&decide (i<Int.ofNat a.length)) (.i (decide (0<=i)&&decide (i<Int.ofNat b.length)) (.bn (zys (a.getD i.toNat default).Values (b.getD i.toNat default).Values) λr1=>.i (!r1) (.k (.inl false)) (.i (decide (0<=i)&&decide (i<Int.ofNat a.length)) (.i (decide (0<=i)&&decide (i<Int.ofNat b.length)) (.bn (zoS (a.getD i.toNat default).Ann (b.getD i.toNat default).Ann) λr0=>.i (!r0) (.k (.inl false)) (.h (a,b,(IntKind.i64.wrap (i+1)),()) ())) .d) .d)) .d) .d) (.k (.inr ()))
def zzc (x:zsl) (y:Unit):=zn7 x.1 x.2.1 x.2.2.1
def zG2 (n:Nat) (a:yF) (b:yF) (i:Int):=zA (zzc) (.inl default) n (a,b,i,()) ()
def zXo:LL ty zsl:=za (lSl 54) (za (lSl 54) (za zj zm))
def zT9 (x:zsl) (y:Unit):Nat:=(x.1.length+x.2.1.length+Int.toNat x.2.2.1+1)
def zGM:=zb1 base 43 [(31,zCC),(33,zCM)] [] [(4,(kpL [0,1,5]))] [(4,1,[]),(4,0,(kpL [4]))] [(4,spW zXo z4x (zzc) (.inl default) zmp zT9)] []
theorem zUi:zJ zGM (lp (body f24) 0):=zq (id:=4) (hl:=rfl)
def zIB (a:yF) (b:yF):Wy0 (Bool):=.i (Int.ofNat a.length != Int.ofNat b.length) (.k false) (.bn (zG2 (a.length+b.length+Int.toNat 0+1) a b 0) λr4=>.i (isL r4) (.k (getL r4)) (.k true))
def zpt (a:yF) (b:yF):=(zIB a b).fin default
def zYA:AL base (yF×yF×Unit):=zd (ze (vSl 54)) (zd (ze (vSl 54)) zt)
def zwA:=zh zYA λx=>((zpt x.1 x.2.1).1,zTe (zpt x.1 x.2.1).2)
theorem zBY:SdP 24 zwA:=
 sT (cx':=zGM) (zi ⟨zIn,zJb,trivial⟩) call24 func24 (lOK (aC zUi aN))
def z4t:=zbx base 17 [(23,zsX),(24,zwA)]
def zV4 (a:Relation) (b:Relation):Wy0 (Bool):=.bn (zkK a.Columns b.Columns) λr1=>.i (r1) (.bn (zpt a.Rows b.Rows) λr0=>.k r0) (.k false)
def zBX (a:Relation) (b:Relation):=(zV4 a b).fin default
def zLK:=zh zZI λx=>((zBX x.1 x.2.1).1,zTe (zBX x.1 x.2.1).2)
theorem zZD:SdP 17 zLK:=
 sT (cx':=z4t) (zi ⟨zyB,zBY,trivial⟩) call17 func17 (lOK aN)
def z4I:=zbx base 17 [(17,zLK)]
def zVW (a:Relation) (e:Int) (b:Relation) (f:Int):Wy0 (Bool):=.i (e==f) (.bn (zBX a b) λr0=>.k r0) (.k false)
def zCj (a:Relation) (e:Int) (b:Relation) (f:Int):=(zVW a e b f).fin default
def z7z:AL base (Relation×Int×Relation×Int×Unit):=zd (ze (zcd 25)) (zd (ze zfx) (zd (ze (zcd 25)) (zd (ze zfx) zt)))
def zLJ:=zh z7z λx=>((zCj x.1 x.2.1 x.2.2.1 x.2.2.2.1).1,zTe (zCj x.1 x.2.1 x.2.2.1 x.2.2.2.1).2)
theorem zYR:SdP 25 zLJ:=
 sT (cx':=z4I) (zi ⟨zZD,trivial⟩) call25 func25 (lOK aN)
abbrev zyj:=yG×Int×Int×Unit
abbrev zOP:=Bool⊕(yG×Int)
def zDL (l:yG) (n_:Int) (i:Int):Wy zyj Unit zOP:=.i (decide (i<Int.ofNat l.length)) (.i (decide (0<=i)&&decide (i<Int.ofNat l.length)) (.i (decide (Int.ofNat (l.getD i.toNat default).Text.size>300)) (.k (.inl false)) (.h (l,n_,(IntKind.i64.wrap (i+1)),()) ())) .d) (.k (.inr (l,n_)))
def zNC (x:zyj) (y:Unit):=zDL x.1 x.2.1 x.2.2.1
def zDy (n:Nat) (l:yG) (n_:Int) (i:Int):=zA (zNC) (.inl default) n (l,n_,i,()) ()
def z07 (r:zOP):LTree ty:=.ite (isL r) (.done .ret [.lit (.bool (getL r))] []) (.done (.exit 0) [.sl 79 (getR r).1,.lit (.int .i64 (getR r).2)] [])
def z1X:LL ty zyj:=za (lSl 79) (za zj (za zj zm))
def z1I (x:zyj) (y:Unit):Nat:=(x.1.length+Int.toNat x.2.1+Int.toNat x.2.2.1+1)
def zNN:=zb1 base 23 [] [] [(2,(kpL [0,1,5]))] [(2,1,(kpL [0,1])),(2,0,(kpL [4]))] [(2,spW z1X z4x (zNC) (.inl default) z07 z1I)] []
theorem zZR:zJ zNN (lp (body f18) 0):=zq (id:=2) (hl:=rfl)
def zRX (l:yG) (n_:Int):Wy0 (Bool):=.bn (zDy (l.length+n_.toNat +Int.toNat 0+1) l n_ 0) λr0=>.i (isL r0) (.k (getL r0)) (.k (decide (Int.ofNat (getR r0).1.length<=(getR r0).2)))
def zpc (l:yG) (n_:Int):=(zRX l n_).fin default
def z42:AL base (yG×Int×Unit):=zd (ze (vSl 79)) (zd (ze zfx) zt)
def zAj:=zh z42 λx=>((zpc x.1 x.2.1).1,zTe (zpc x.1 x.2.1).2)
theorem zG8:SdP 18 zAj:=
 sT (cx':=zNN) (zi trivial) call18 func18 (lOK (aC zZR aN))
end Go.Proofs.YtoknknbmfmddbaaGreatDoor
/- What lies inside lists of terms and factors: fuel for loops. -/
namespace Go.Proofs.YtoknknbmfmddbaaGreatDoor
open Go.Proofs.Tryz
def z5N:yC->Nat
 | []=>0
 | f::r=>f.Exp.toNat +f.At.Ag.length+f.At.Items.length+1+z5N r
def zdY:yB->Nat
 | []=>0
 | t::r=>z5N t.Fs+1+zdY r
end Go.Proofs.YtoknknbmfmddbaaGreatDoor
namespace Go.Proofs.YtoknknbmfmddbaaGreatDoor
open Go Go.Ab
open Go.Proofs.Tryz
abbrev zhO:=yB×Int×Int×Int×Unit×Int×Int×Unit
abbrev zJm:=yB×Int×Int×Int×Int×At
abbrev zJN:=yB×Int×Int×Int×Int
abbrev zu4:=yB×Int×Int×Int×Unit
abbrev zJS:=yB×Int×Int
abbrev zvd:=yB×Int×Int×Unit
def zlu (zy:yB->Bool×Int) (a:yB) (most:Int) (i:Int) (k:Int) (n_:Int) (j:Int) (x_:At):Wy zhO (At×Unit) zJm:=.i (decide (j<Int.ofNat x_.Ag.length)) (.i (decide (0<=j)&&decide (j<Int.ofNat x_.Ag.length)) (.bn (zy (x_.Ag.getD j.toNat default)) λr0=>.h (a,most,i,k,(),(if IntKind.i64.wrap (1+r0)>n_ then IntKind.i64.wrap (1+r0) else n_),(IntKind.i64.wrap (j+1)),()) (x_,())) .d) (.k (a,most,i,k,n_,x_))
def zwG (zy:yB->Bool×Int) (x:zhO) (y:At×Unit):=zlu zy x.1 x.2.1 x.2.2.1 x.2.2.2.1 x.2.2.2.2.2.1 x.2.2.2.2.2.2.1 y.1
def zwt (zy:yB->Bool×Int) (n:Nat) (a:yB) (most:Int) (i:Int) (k:Int) (n_:Int) (j:Int) (x_:At):=zA (zwG zy) default n (a,most,i,k,(),n_,j,()) (x_,())
def zPZ (r:zJm):LTree ty:=.done (.exit 4) [.sl 107 r.1,.lit (.int .i64 r.2.1),.lit (.int .i64 r.2.2.1),.lit (.int .i64 r.2.2.2.1),.ptr 300 0,.lit (.int .i64 r.2.2.2.2.1)] [.box (base.enc 143 r.2.2.2.2.2) false]
def zSA:LL ty zhO:=za (lSl 107) (za zj (za zj (za zj (za (zdH 300 0) (za zj (za zj zm))))))
def zSi:BL ty (At×Unit):=zfj (zgi (λx=>(⟨x.1,⟨x.2.1,x.2.2.1⟩,x.2.2.2.1,x.2.2.2.2.1,x.2.2.2.2.2.1,x.2.2.2.2.2.2.1,⟨x.2.2.2.2.2.2.2.1,x.2.2.2.2.2.2.2.2.1,x.2.2.2.2.2.2.2.2.2.1⟩⟩:At)) (λx=>(x.Kind,x.Row.Table,x.Row.Seq,x.Ag,x.Func,x.Items,x.Op,x.Bd.Kind,x.Bd.Int,x.Bd.Text,())) (λ_=>rfl) (za (zS .i64) (za (zS .i64) (za (zS .i64) (za (lSl 51) (za (zS .i64) (za (lSl 169) (za (zS .i64) (za (zS .i64) (za (zS .i64) (za znN zm))))))))))) false (zbg)
def zlt (zy:yB->Bool×Int) (a:yB) (most:Int) (i:Int) (k:Int) (n_:Int) (j:Int) (x_:At):Wy zhO (At×Unit) zJN:=.i (decide (j<Int.ofNat x_.Items.length)) (.i (decide (0<=j)&&decide (j<Int.ofNat x_.Items.length)) (.bn (zy (x_.Items.getD j.toNat default).Ann) λr2=>.h (a,most,i,k,(),(if IntKind.i64.wrap (1+r2)>n_ then IntKind.i64.wrap (1+r2) else n_),(IntKind.i64.wrap (j+1)),()) (x_,())) .d) (.k (a,most,i,k,n_))
def zwz (zy:yB->Bool×Int) (x:zhO) (y:At×Unit):=zlt zy x.1 x.2.1 x.2.2.1 x.2.2.2.1 x.2.2.2.2.2.1 x.2.2.2.2.2.2.1 y.1
def zDd (zy:yB->Bool×Int) (n:Nat) (a:yB) (most:Int) (i:Int) (k:Int) (n_:Int) (j:Int) (x_:At):=zA (zwz zy) default n (a,most,i,k,(),n_,j,()) (x_,())
def zPz (r:zJN):LTree ty:=.done (.exit 6) [.sl 107 r.1,.lit (.int .i64 r.2.1),.lit (.int .i64 r.2.2.1),.lit (.int .i64 r.2.2.2.1),.lit (.int .i64 r.2.2.2.2)] []
def zmo (zy:yB->Bool×Int) (a:yB) (most:Int) (i:Int) (k:Int):Wy zu4 Unit zJS:=.i (decide (0<=i)&&decide (i<Int.ofNat a.length)) (.i (decide (k<Int.ofNat (a.getD i.toNat default).Fs.length)) (.i (decide (0<=i)&&decide (i<Int.ofNat a.length)) (.i (decide (0<=k)&&decide (k<Int.ofNat (a.getD i.toNat default).Fs.length)) (.i (((a.getD i.toNat default).Fs.getD k.toNat default).At.Kind==0) (.h (a,most,i,(IntKind.i64.wrap (k+1)),()) ()) (.bn (zwt zy ((a.length+most.toNat +i.toNat +k.toNat +Int.toNat 1+Int.toNat 0+((a.getD i.toNat default).Fs.getD k.toNat default).At.Ag.length+((a.getD i.toNat default).Fs.getD k.toNat default).At.Items.length+1)+zdY a) a most i k 1 0 (At.mk ((a.getD i.toNat default).Fs.getD k.toNat default).At.Kind ((a.getD i.toNat default).Fs.getD k.toNat default).At.Row ((a.getD i.toNat default).Fs.getD k.toNat default).At.Ag ((a.getD i.toNat default).Fs.getD k.toNat default).At.Func ((a.getD i.toNat default).Fs.getD k.toNat default).At.Items ((a.getD i.toNat default).Fs.getD k.toNat default).At.Op ((a.getD i.toNat default).Fs.getD k.toNat default).At.Bd)) λr5=>.bn (zDd zy ((r5.1.length+r5.2.1.toNat +r5.2.2.1.toNat +r5.2.2.2.1.toNat +r5.2.2.2.2.1.toNat +Int.toNat 0+r5.2.2.2.2.2.Ag.length+r5.2.2.2.2.2.Items.length+1)+zdY r5.1) r5.1 r5.2.1 r5.2.2.1 r5.2.2.2.1 r5.2.2.2.2.1 0 (At.mk r5.2.2.2.2.2.Kind r5.2.2.2.2.2.Row r5.2.2.2.2.2.Ag r5.2.2.2.2.2.Func r5.2.2.2.2.2.Items r5.2.2.2.2.2.Op r5.2.2.2.2.2.Bd)) λr4=>.h ((r4.1),(if r4.2.2.2.2>r4.2.1 then r4.2.2.2.2 else r4.2.1),(r4.2.2.1),(IntKind.i64.wrap (r4.2.2.2.1+1)),()) ())) .d) .d) (.k (a,most,i))) .d
def zx6 (zy:yB->Bool×Int) (x:zu4) (y:Unit):=zmo zy x.1 x.2.1 x.2.2.1 x.2.2.2.1
def zFo (zy:yB->Bool×Int) (n:Nat) (a:yB) (most:Int) (i:Int) (k:Int):=zA (zx6 zy) default n (a,most,i,k,()) ()
def zSa (r:zJS):LTree ty:=.done (.exit 2) [.sl 107 r.1,.lit (.int .i64 r.2.1),.lit (.int .i64 r.2.2)] []
def zV6:LL ty zu4:=za (lSl 107) (za zj (za zj (za zj zm)))
def zmz (zy:yB->Bool×Int) (a:yB) (most:Int) (i:Int):Wy zvd Unit (Int):=.i (decide (i<Int.ofNat a.length)) (.bn (zFo zy ((a.length+most.toNat +i.toNat +Int.toNat 0+1)+zdY a) a most i 0) λr8=>.h ((r8.1),(r8.2.1),(IntKind.i64.wrap (r8.2.2+1)),()) ()) (.k most)
def zxp (zy:yB->Bool×Int) (x:zvd) (y:Unit):=zmz zy x.1 x.2.1 x.2.2.1
def zFx (zy:yB->Bool×Int) (n:Nat) (a:yB) (most:Int) (i:Int):=zA (zxp zy) default n (a,most,i,()) ()
def zUW:LL ty zvd:=za (lSl 107) (za zj (za zj zm))
def zQO (x:zhO) (y:At×Unit):Nat:=((x.1.length+Int.toNat x.2.1+Int.toNat x.2.2.1+Int.toNat x.2.2.2.1+Int.toNat x.2.2.2.2.2.1+Int.toNat x.2.2.2.2.2.2.1+y.1.Ag.length+y.1.Items.length+1)+zdY x.1)
def zSF (x:zu4) (y:Unit):Nat:=((x.1.length+Int.toNat x.2.1+Int.toNat x.2.2.1+Int.toNat x.2.2.2.1+1)+zdY x.1)
def zSI (x:zvd) (y:Unit):Nat:=((x.1.length+Int.toNat x.2.1+Int.toNat x.2.2.1+1)+zdY x.1)
def zmD (zy:yB->Bool×Int):=zb1 base 75 [(182,(zog zy))] [] [(3,(kpL [0,3,4])),(6,(kpL [0,3,4,5])),(12,(kpL [0,3,4,5,6,7,8])),(16,(kpL [0,3,4,5,6,7,9]))] [(3,1,(kpL [3])),(6,3,(kpL [0,3,4])),(12,5,(kpL [0,3,4,5,6,7])),(16,7,(kpL [0,3,4,5,7]))] [(12,spW zSA zSi (zwG zy) default zPZ zQO),(16,spW zSA zSi (zwz zy) default zPz zQO),(6,spW zV6 z4x (zx6 zy) default zSa zSF),(3,spW zUW z4x (zxp zy) default zN0 zSI)] []
theorem zPq (zy:yB->Bool×Int):zJ (zmD zy) (lp (body f182) 2):=zq (id:=12) (hl:=rfl)
theorem zQJ (zy:yB->Bool×Int):zJ (zmD zy) (lp (body f182) 3):=zq (id:=16) (hl:=rfl)
theorem zSz (zy:yB->Bool×Int):zJ (zmD zy) (lp (body f182) 1):=zq (id:=6) (hl:=rfl)
theorem zSw (zy:yB->Bool×Int):zJ (zmD zy) (lp (body f182) 0):=zq (id:=3) (hl:=rfl)
def zGX (zy:yB->Bool×Int) (a:yB):Wy0 (Int):=.bn (zFx zy ((a.length+Int.toNat 0+Int.toNat 0+1)+zdY a) a 0 0) λr10=>.k r10
def zwX (zy:yB->Bool×Int) (a:yB):=(zGX zy a).fin default
theorem zNE (zy:yB->Bool×Int) (zWX:SdP 182 (zog zy)):SdP 182 (zog (zwX zy)):=
 sT (cx':=(zmD zy)) (zi ⟨zWX,trivial⟩) call182 func182 (lOK (aC (zSw zy) (aC (zSz zy) (aC (zPq zy) (aC (zQJ zy) aN)))))
def zVj:Nat->(yB->Bool×Int)
 | 0=>λ_=>(false,default)
 | n+1=>zwX (zVj n)
def zky (n:Nat):yB->Bool×Int:=zVj n
theorem zUM (n:Nat):zky (n+1)=zwX (zky n):=rfl
theorem zOC:∀ n,SdP 182 (zog (zky n))
 | 0=>zbk call182 (λ_=>rfl)
 | n+1=>by
  have ih:=zOC n;exact zNE _ (ih)
def zF6:yB->Bool×Int:=zky 1000
def zEF:Ab.Spec ty:=zog zF6
theorem zTg:SdP 182 zEF:=(zOC 1000)
abbrev zkY:=yB×Int×Int×Int×Unit×Int×Unit
abbrev zRB:=yB×Int×Int×Int×At
abbrev zRC:=yB×Int×Int×Int
abbrev zzX:=yB×Int×Int×Int×Unit
abbrev zRu:=yB×Int×Int
abbrev zzZ:=yB×Int×Int×Unit
def zqm (zQ:yB->Bool×Int) (a:yB) (n_:Int) (i:Int) (k:Int) (j:Int) (x_:At):Wy zkY (At×Unit) zRB:=.i (decide (j<Int.ofNat x_.Ag.length)) (.i (decide (0<=j)&&decide (j<Int.ofNat x_.Ag.length)) (.bn (zQ (x_.Ag.getD j.toNat default)) λr0=>.h (a,(IntKind.i64.wrap (n_+r0)),i,k,(),(IntKind.i64.wrap (j+1)),()) (x_,())) .d) (.k (a,n_,i,k,x_))
def zz7 (zQ:yB->Bool×Int) (x:zkY) (y:At×Unit):=zqm zQ x.1 x.2.1 x.2.2.1 x.2.2.2.1 x.2.2.2.2.2.1 y.1
def zIs (zQ:yB->Bool×Int) (n:Nat) (a:yB) (n_:Int) (i:Int) (k:Int) (j:Int) (x_:At):=zA (zz7 zQ) default n (a,n_,i,k,(),j,()) (x_,())
def zXh (r:zRB):LTree ty:=.done (.exit 4) [.sl 107 r.1,.lit (.int .i64 r.2.1),.lit (.int .i64 r.2.2.1),.lit (.int .i64 r.2.2.2.1),.ptr 284 0] [.box (base.enc 143 r.2.2.2.2) false]
def zYZ:LL ty zkY:=za (lSl 107) (za zj (za zj (za zj (za (zdH 284 0) (za zj zm)))))
def zpJ (zQ:yB->Bool×Int) (a:yB) (n_:Int) (i:Int) (k:Int) (j:Int) (x_:At):Wy zkY (At×Unit) zRC:=.i (decide (j<Int.ofNat x_.Items.length)) (.i (decide (0<=j)&&decide (j<Int.ofNat x_.Items.length)) (.bn (zQ (x_.Items.getD j.toNat default).Ann) λr2=>.h (a,(IntKind.i64.wrap (IntKind.i64.wrap (n_+1)+r2)),i,k,(),(IntKind.i64.wrap (j+1)),()) (x_,())) .d) (.k (a,n_,i,k))
def zz8 (zQ:yB->Bool×Int) (x:zkY) (y:At×Unit):=zpJ zQ x.1 x.2.1 x.2.2.1 x.2.2.2.1 x.2.2.2.2.2.1 y.1
def zIL (zQ:yB->Bool×Int) (n:Nat) (a:yB) (n_:Int) (i:Int) (k:Int) (j:Int) (x_:At):=zA (zz8 zQ) default n (a,n_,i,k,(),j,()) (x_,())
def zWN (r:zRC):LTree ty:=.done (.exit 6) [.sl 107 r.1,.lit (.int .i64 r.2.1),.lit (.int .i64 r.2.2.1),.lit (.int .i64 r.2.2.2)] []
def zrZ (zQ:yB->Bool×Int) (a:yB) (n_:Int) (i:Int) (k:Int):Wy zzX Unit zRu:=.i (decide (0<=i)&&decide (i<Int.ofNat a.length)) (.i (decide (k<Int.ofNat (a.getD i.toNat default).Fs.length)) (.i (decide (0<=i)&&decide (i<Int.ofNat a.length)) (.i (decide (0<=k)&&decide (k<Int.ofNat (a.getD i.toNat default).Fs.length)) (.bn (zIs zQ ((a.length+(IntKind.i64.wrap (n_+1)).toNat +i.toNat +k.toNat +Int.toNat 0+((a.getD i.toNat default).Fs.getD k.toNat default).At.Ag.length+((a.getD i.toNat default).Fs.getD k.toNat default).At.Items.length+1)+zdY a) a (IntKind.i64.wrap (n_+1)) i k 0 (At.mk ((a.getD i.toNat default).Fs.getD k.toNat default).At.Kind ((a.getD i.toNat default).Fs.getD k.toNat default).At.Row ((a.getD i.toNat default).Fs.getD k.toNat default).At.Ag ((a.getD i.toNat default).Fs.getD k.toNat default).At.Func ((a.getD i.toNat default).Fs.getD k.toNat default).At.Items ((a.getD i.toNat default).Fs.getD k.toNat default).At.Op ((a.getD i.toNat default).Fs.getD k.toNat default).At.Bd)) λr5=>.bn (zIL zQ ((r5.1.length+r5.2.1.toNat +r5.2.2.1.toNat +r5.2.2.2.1.toNat +Int.toNat 0+r5.2.2.2.2.Ag.length+r5.2.2.2.2.Items.length+1)+zdY r5.1) r5.1 r5.2.1 r5.2.2.1 r5.2.2.2.1 0 (At.mk r5.2.2.2.2.Kind r5.2.2.2.2.Row r5.2.2.2.2.Ag r5.2.2.2.2.Func r5.2.2.2.2.Items r5.2.2.2.2.Op r5.2.2.2.2.Bd)) λr4=>.h ((r4.1),(r4.2.1),(r4.2.2.1),(IntKind.i64.wrap (r4.2.2.2+1)),()) ()) .d) .d) (.k (a,n_,i))) .d
def zCI (zQ:yB->Bool×Int) (x:zzX) (y:Unit):=zrZ zQ x.1 x.2.1 x.2.2.1 x.2.2.2.1
def zLA (zQ:yB->Bool×Int) (n:Nat) (a:yB) (n_:Int) (i:Int) (k:Int):=zA (zCI zQ) default n (a,n_,i,k,()) ()
def zYS (r:zRu):LTree ty:=.done (.exit 2) [.sl 107 r.1,.lit (.int .i64 r.2.1),.lit (.int .i64 r.2.2)] []
def z0v:LL ty zzX:=za (lSl 107) (za zj (za zj (za zj zm)))
def zrJ (zQ:yB->Bool×Int) (a:yB) (n_:Int) (i:Int):Wy zzZ Unit (Int):=.i (decide (i<Int.ofNat a.length)) (.bn (zLA zQ ((a.length+(IntKind.i64.wrap (n_+1)).toNat +i.toNat +Int.toNat 0+1)+zdY a) a (IntKind.i64.wrap (n_+1)) i 0) λr8=>.h ((r8.1),(r8.2.1),(IntKind.i64.wrap (r8.2.2+1)),()) ()) (.k n_)
def zCt (zQ:yB->Bool×Int) (x:zzZ) (y:Unit):=zrJ zQ x.1 x.2.1 x.2.2.1
def zLe (zQ:yB->Bool×Int) (n:Nat) (a:yB) (n_:Int) (i:Int):=zA (zCt zQ) default n (a,n_,i,()) ()
def z0X:LL ty zzZ:=za (lSl 107) (za zj (za zj zm))
def zWE (x:zkY) (y:At×Unit):Nat:=((x.1.length+Int.toNat x.2.1+Int.toNat x.2.2.1+Int.toNat x.2.2.2.1+Int.toNat x.2.2.2.2.2.1+y.1.Ag.length+y.1.Items.length+1)+zdY x.1)
def zYM (x:zzX) (y:Unit):Nat:=((x.1.length+Int.toNat x.2.1+Int.toNat x.2.2.1+Int.toNat x.2.2.2.1+1)+zdY x.1)
def zZH (x:zzZ) (y:Unit):Nat:=((x.1.length+Int.toNat x.2.1+Int.toNat x.2.2.1+1)+zdY x.1)
def zsh (zQ:yB->Bool×Int):=zb1 base 71 [(183,(zog zQ))] [] [(3,(kpL [0,3,4])),(7,(kpL [0,3,4,5])),(12,(kpL [0,3,4,5,6,7])),(16,(kpL [0,3,4,5,6,8]))] [(3,1,(kpL [3])),(7,3,(kpL [0,3,4])),(12,5,(kpL [0,3,4,5,6])),(16,7,(kpL [0,3,4,5]))] [(12,spW zYZ zSi (zz7 zQ) default zXh zWE),(16,spW zYZ zSi (zz8 zQ) default zWN zWE),(7,spW z0v z4x (zCI zQ) default zYS zYM),(3,spW z0X z4x (zCt zQ) default zN0 zZH)] []
theorem zWB (zQ:yB->Bool×Int):zJ (zsh zQ) (lp (body f183) 2):=zq (id:=12) (hl:=rfl)
theorem zXf (zQ:yB->Bool×Int):zJ (zsh zQ) (lp (body f183) 3):=zq (id:=16) (hl:=rfl)
theorem zYw (zQ:yB->Bool×Int):zJ (zsh zQ) (lp (body f183) 1):=zq (id:=7) (hl:=rfl)
theorem zZz (zQ:yB->Bool×Int):zJ (zsh zQ) (lp (body f183) 0):=zq (id:=3) (hl:=rfl)
def zOu (zQ:yB->Bool×Int) (a:yB):Wy0 (Int):=.bn (zLe zQ ((a.length+Int.toNat 0+Int.toNat 0+1)+zdY a) a 0 0) λr10=>.k r10
def zCq (zQ:yB->Bool×Int) (a:yB):=(zOu zQ a).fin default
theorem zVg (zQ:yB->Bool×Int) (z2n:SdP 183 (zog zQ)):SdP 183 (zog (zCq zQ)):=
 sT (cx':=(zsh zQ)) (zi ⟨z2n,trivial⟩) call183 func183 (lOK (aC (zZz zQ) (aC (zYw zQ) (aC (zWB zQ) (aC (zXf zQ) aN)))))
def z3C:Nat->(yB->Bool×Int)
 | 0=>λ_=>(false,default)
 | n+1=>zCq (z3C n)
def zt2 (n:Nat):yB->Bool×Int:=z3C n
theorem z1J (n:Nat):zt2 (n+1)=zCq (zt2 n):=rfl
theorem zYd:∀ n,SdP 183 (zog (zt2 n))
 | 0=>zbk call183 (λ_=>rfl)
 | n+1=>by
  have ih:=zYd n;exact zVg _ (ih)
def zQI:yB->Bool×Int:=zt2 1000
def zLz:Ab.Spec ty:=zog zQI
theorem zZu:SdP 183 zLz:=(zYd 1000)
abbrev zzS:=yB×Int×Int×Unit
abbrev zRH:=Bool⊕(yB×Int)
abbrev zz0:=yB×Int×Unit
def zvq (a:yB) (i:Int) (k:Int):Wy zzS Unit zRH:=.i (decide (0<=i)&&decide (i<Int.ofNat a.length)) (.i (decide (k<Int.ofNat (a.getD i.toNat default).Fs.length)) (.i (decide (0<=i)&&decide (i<Int.ofNat a.length)) (.i (decide (0<=k)&&decide (k<Int.ofNat (a.getD i.toNat default).Fs.length)) (.i (decide (((a.getD i.toNat default).Fs.getD k.toNat default).Exp>64)) (.k (.inl false)) (.i (decide (0<=i)&&decide (i<Int.ofNat a.length)) (.i (decide (0<=k)&&decide (k<Int.ofNat (a.getD i.toNat default).Fs.length)) (.i (decide (Int.ofNat ((a.getD i.toNat default).Fs.getD k.toNat default).At.Items.length>1024)) (.k (.inl false)) (.h (a,i,(IntKind.i64.wrap (k+1)),()) ())) .d) .d)) .d) .d) (.k (.inr (a,i)))) .d
def zF1 (x:zzS) (y:Unit):=zvq x.1 x.2.1 x.2.2.1
def zRE (n:Nat) (a:yB) (i:Int) (k:Int):=zA (zF1) (.inl default) n (a,i,k,()) ()
def z3k (r:zRH):LTree ty:=.ite (isL r) (.done .ret [.lit (.bool (getL r))] []) (.done (.exit 2) [.sl 107 (getR r).1,.lit (.int .i64 (getR r).2)] [])
def z4R:LL ty zzS:=za (lSl 107) (za zj (za zj zm))
def zvX (a:yB) (i:Int):Wy zz0 Unit (Bool⊕Unit):=.i (decide (i<Int.ofNat a.length)) (.i (decide (0<=i)&&decide (i<Int.ofNat a.length)) (.i (decide (Int.ofNat (a.getD i.toNat default).Fs.length>64)) (.k (.inl false)) (.bn (zRE ((a.length+i.toNat +Int.toNat 0+1)+zdY a) a i 0) λr0=>.i (isL r0) (.k (.inl (getL r0))) (.h ((getR r0).1,(IntKind.i64.wrap ((getR r0).2+1)),()) ()))) .d) (.k (.inr ()))
def zGJ (x:zz0) (y:Unit):=zvX x.1 x.2.1
def zRl (n:Nat) (a:yB) (i:Int):=zA (zGJ) (.inl default) n (a,i,()) ()
def z5y:LL ty zz0:=za (lSl 107) (za zj zm)
def z19 (x:zzS) (y:Unit):Nat:=((x.1.length+Int.toNat x.2.1+Int.toNat x.2.2.1+1)+zdY x.1)
def z2f (x:zz0) (y:Unit):Nat:=((x.1.length+Int.toNat x.2.1+1)+zdY x.1)
def zGu:=zb1 base 65 [(182,zEF),(183,zLz)] [] [(4,(kpL [0,3])),(9,(kpL [0,3,4]))] [(4,1,[]),(4,0,(kpL [2])),(9,3,(kpL [0,3])),(9,0,(kpL [2]))] [(9,spW z4R z4x (zF1) (.inl default) z3k z19),(4,spW z5y z4x (zGJ) (.inl default) zmp z2f)] []
theorem z2r:zJ zGu (lp (body f109) 1):=zq (id:=9) (hl:=rfl)
theorem z24:zJ zGu (lp (body f109) 0):=zq (id:=4) (hl:=rfl)
def zVZ (a:yB):Wy0 (Bool):=.i (decide (Int.ofNat a.length>512)) (.k false) (.bn (zF6 a) λr4=>.i (decide (r4>8)) (.k false) (.bn (zQI a) λr3=>.i (decide (r3>4096)) (.k false) (.bn (zRl ((a.length+Int.toNat 0+1)+zdY a) a 0) λr2=>.i (isL r2) (.k (getL r2)) (.k true))))
def zyo (a:yB):=(zVZ a).fin default
def zCb:=zh zUU λx=>((zyo x.1).1,zTe (zyo x.1).2)
theorem zJB:SdP 109 zCb:=
 sT (cx':=zGu) (zi ⟨zTg,zZu,trivial⟩) call109 func109 (lOK (aC z24 (aC z2r aN)))
abbrev zyt:=yB×Int×Unit×Int×Unit
abbrev zOV:=Bool⊕(yB×Int)
abbrev zye:=yB×Int×Unit
def zoj (zV:At->Bool×Bool) (a:yB) (i:Int) (k:Int) (t:Term):Wy zyt (Term×Unit) zOV:=.i (decide (k<Int.ofNat t.Fs.length)) (.i (decide (0<=k)&&decide (k<Int.ofNat t.Fs.length)) (.i (decide ((t.Fs.getD k.toNat default).Exp<1)) (.k (.inl false)) (.i (decide ((t.Fs.getD k.toNat default).Exp>1)) (.i (decide ((t.Fs.getD k.toNat default).At.Kind≥3)) (.k (.inl false)) (.bn (zV (At.mk (t.Fs.getD k.toNat default).At.Kind (t.Fs.getD k.toNat default).At.Row (t.Fs.getD k.toNat default).At.Ag (t.Fs.getD k.toNat default).At.Func (t.Fs.getD k.toNat default).At.Items (t.Fs.getD k.toNat default).At.Op (t.Fs.getD k.toNat default).At.Bd)) λr1=>.i (!r1) (.k (.inl false)) (.i (decide (k>0)) (.i (decide (0<=IntKind.i64.wrap (k - 1))&&decide (IntKind.i64.wrap (k - 1)<Int.ofNat t.Fs.length)) (.bn (zkJ (At.mk (t.Fs.getD (IntKind.i64.wrap (k - 1)).toNat default).At.Kind (t.Fs.getD (IntKind.i64.wrap (k - 1)).toNat default).At.Row (t.Fs.getD (IntKind.i64.wrap (k - 1)).toNat default).At.Ag (t.Fs.getD (IntKind.i64.wrap (k - 1)).toNat default).At.Func (t.Fs.getD (IntKind.i64.wrap (k - 1)).toNat default).At.Items (t.Fs.getD (IntKind.i64.wrap (k - 1)).toNat default).At.Op (t.Fs.getD (IntKind.i64.wrap (k - 1)).toNat default).At.Bd) (At.mk (t.Fs.getD k.toNat default).At.Kind (t.Fs.getD k.toNat default).At.Row (t.Fs.getD k.toNat default).At.Ag (t.Fs.getD k.toNat default).At.Func (t.Fs.getD k.toNat default).At.Items (t.Fs.getD k.toNat default).At.Op (t.Fs.getD k.toNat default).At.Bd)) λr0=>.i (decide (r0≥0)) (.k (.inl false)) (.h (a,i,(),(IntKind.i64.wrap (k+1)),()) (t,()))) .d) (.h (a,i,(),(IntKind.i64.wrap (k+1)),()) (t,()))))) (.bn (zV (At.mk (t.Fs.getD k.toNat default).At.Kind (t.Fs.getD k.toNat default).At.Row (t.Fs.getD k.toNat default).At.Ag (t.Fs.getD k.toNat default).At.Func (t.Fs.getD k.toNat default).At.Items (t.Fs.getD k.toNat default).At.Op (t.Fs.getD k.toNat default).At.Bd)) λr3=>.i (!r3) (.k (.inl false)) (.i (decide (k>0)) (.i (decide (0<=IntKind.i64.wrap (k - 1))&&decide (IntKind.i64.wrap (k - 1)<Int.ofNat t.Fs.length)) (.bn (zkJ (At.mk (t.Fs.getD (IntKind.i64.wrap (k - 1)).toNat default).At.Kind (t.Fs.getD (IntKind.i64.wrap (k - 1)).toNat default).At.Row (t.Fs.getD (IntKind.i64.wrap (k - 1)).toNat default).At.Ag (t.Fs.getD (IntKind.i64.wrap (k - 1)).toNat default).At.Func (t.Fs.getD (IntKind.i64.wrap (k - 1)).toNat default).At.Items (t.Fs.getD (IntKind.i64.wrap (k - 1)).toNat default).At.Op (t.Fs.getD (IntKind.i64.wrap (k - 1)).toNat default).At.Bd) (At.mk (t.Fs.getD k.toNat default).At.Kind (t.Fs.getD k.toNat default).At.Row (t.Fs.getD k.toNat default).At.Ag (t.Fs.getD k.toNat default).At.Func (t.Fs.getD k.toNat default).At.Items (t.Fs.getD k.toNat default).At.Op (t.Fs.getD k.toNat default).At.Bd)) λr2=>.i (decide (r2≥0)) (.k (.inl false)) (.h (a,i,(),(IntKind.i64.wrap (k+1)),()) (t,()))) .d) (.h (a,i,(),(IntKind.i64.wrap (k+1)),()) (t,())))))) .d) (.k (.inr (a,i)))
def zyX (zV:At->Bool×Bool) (x:zyt) (y:Term×Unit):=zoj zV x.1 x.2.1 x.2.2.2.1 y.1
def zyW (zV:At->Bool×Bool) (n:Nat) (a:yB) (i:Int) (k:Int) (t:Term):=zA (zyX zV) (.inl default) n (a,i,(),k,()) (t,())
def zVf (r:zOV):LTree ty:=.ite (isL r) (.done .ret [.lit (.bool (getL r))] []) (.done (.exit 2) [.sl 107 (getR r).1,.lit (.int .i64 (getR r).2)] [])
def zW9:LL ty zyt:=za (lSl 107) (za zj (za (zdH 372 0) (za zj zm)))
def zp3 (zV:At->Bool×Bool) (a:yB) (i:Int):Wy zye Unit (Bool⊕Unit):=.i (decide (i<Int.ofNat a.length)) (.i (decide (0<=i)&&decide (i<Int.ofNat a.length)) (.i (decide ((a.getD i.toNat default).Cf<1)) (.k (.inl false)) (.i (decide ((a.getD i.toNat default).Cf>1152921504606846976)) (.k (.inl false)) (.i (decide (i>0)) (.i (decide (0<=IntKind.i64.wrap (i - 1))&&decide (IntKind.i64.wrap (i - 1)<Int.ofNat a.length)) (.bn (zkl (a.getD (IntKind.i64.wrap (i - 1)).toNat default).Fs (a.getD i.toNat default).Fs) λr9=>.i (decide (r9≥0)) (.k (.inl false)) (.bn (zyW zV ((a.length+i.toNat +Int.toNat 0+(a.getD i.toNat default).Fs.length+1)+zdY a) a i 0 (a.getD i.toNat default)) λr8=>.i (isL r8) (.k (.inl (getL r8))) (.h ((getR r8).1,(IntKind.i64.wrap ((getR r8).2+1)),()) ()))) .d) (.bn (zyW zV ((a.length+i.toNat +Int.toNat 0+(a.getD i.toNat default).Fs.length+1)+zdY a) a i 0 (a.getD i.toNat default)) λr10=>.i (isL r10) (.k (.inl (getL r10))) (.h ((getR r10).1,(IntKind.i64.wrap ((getR r10).2+1)),()) ()))))) .d) (.k (.inr ()))
def zAh (zV:At->Bool×Bool) (x:zye) (y:Unit):=zp3 zV x.1 x.2.1
def zIt (zV:At->Bool×Bool) (n:Nat) (a:yB) (i:Int):=zA (zAh zV) (.inl default) n (a,i,()) ()
def zYu:LL ty zye:=za (lSl 107) (za zj zm)
def zVC (x:zyt) (y:Term×Unit):Nat:=((x.1.length+Int.toNat x.2.1+Int.toNat x.2.2.2.1+y.1.Fs.length+1)+zdY x.1)
def zW6 (x:zye) (y:Unit):Nat:=((x.1.length+Int.toNat x.2.1+1)+zdY x.1)
def zAb (zV:At->Bool×Bool):=zb1 base 93 [(109,zCb),(110,zo2),(111,(zl8 zV)),(112,zzL)] [] [(4,(kpL [0,3])),(10,(kpL [0,3,4,5]))] [(4,1,[]),(4,0,(kpL [2])),(10,3,(kpL [0,3])),(10,0,(kpL [2]))] [(10,spW zW9 zON (zyX zV) (.inl default) zVf zVC),(4,spW zYu z4x (zAh zV) (.inl default) zmp zW6)] []
theorem zVM (zV:At->Bool×Bool):zJ (zAb zV) (lp (body f56) 1):=zq (id:=10) (hl:=rfl)
theorem zW3 (zV:At->Bool×Bool):zJ (zAb zV) (lp (body f56) 0):=zq (id:=4) (hl:=rfl)
def zLf (zV:At->Bool×Bool) (a:yB):Wy0 (Bool):=.bn (zyo a) λr15=>.i (!r15) (.k false) (.bn (zIt zV ((a.length+Int.toNat 0+1)+zdY a) a 0) λr14=>.i (isL r14) (.k (getL r14)) (.k true))
def zvS (zV:At->Bool×Bool) (a:yB):=(zLf zV a).fin default
theorem zSb (zV:At->Bool×Bool) (zS1:SdP 111 (zl8 zV)):SdP 56 (zhC (zvS zV)):=
 sT (cx':=(zAb zV)) (zi ⟨zJB,zvs,zS1,zKQ,trivial⟩) call56 func56 (lOK (aC (zW3 zV) (aC (zVM zV) aN)))
def z0O:=zbx base 42 []
def zNQ (a:yB):Wy0 (Bool):=.i (Int.ofNat a.length==1) (.i (decide ((0:Int)<=(0:Int))&&decide (0<Int.ofNat a.length)) (.i ((a.getD (Int.toNat 0) default).Cf==1) (.i (decide ((0:Int)<=(0:Int))&&decide (0<Int.ofNat a.length)) (.i (Int.ofNat (a.getD (Int.toNat 0) default).Fs.length==1) (.i (decide ((0:Int)<=(0:Int))&&decide (0<Int.ofNat a.length)) (.i (decide ((0:Int)<=(0:Int))&&decide (0<Int.ofNat (a.getD (Int.toNat 0) default).Fs.length)) (.i (decide (((a.getD (Int.toNat 0) default).Fs.getD (Int.toNat 0) default).At.Kind≥2)) (.i (decide ((0:Int)<=(0:Int))&&decide (0<Int.ofNat a.length)) (.i (decide ((0:Int)<=(0:Int))&&decide (0<Int.ofNat (a.getD (Int.toNat 0) default).Fs.length)) (.k (((a.getD (Int.toNat 0) default).Fs.getD (Int.toNat 0) default).Exp==1)) .d) .d) (.k false)) .d) .d) (.k false)) .d) (.k false)) .d) (.k false)
def zpM (a:yB):=(zNQ a).fin default
def zHd:=zh zUU λx=>((zpM x.1).1,zTe (zpM x.1).2)
theorem zTT:SdP 186 zHd:=
 sT (cx':=z0O) (zi trivial) call186 func186 (lOK aN)
abbrev zzk:=yB×Int×Unit
def zn5 (a:yB) (i:Int):Wy zzk Unit (Bool⊕Unit):=.i (decide (i<Int.ofNat a.length)) (.i (decide (0<=i)&&decide (i<Int.ofNat a.length)) (.i (Int.ofNat (a.getD i.toNat default).Fs.length==0) (.k (.inl true)) (.h (a,(IntKind.i64.wrap (i+1)),()) ())) .d) (.k (.inr ()))
def zy2 (x:zzk) (y:Unit):=zn5 x.1 x.2.1
def zGY (n:Nat) (a:yB) (i:Int):=zA (zy2) (.inl default) n (a,i,()) ()
def zWL:LL ty zzk:=za (lSl 107) (za zj zm)
def zGZ:=zb1 base 17 [] [] [(2,(kpL [0,3]))] [(2,1,[]),(2,0,(kpL [2]))] [(2,spW zWL z4x (zy2) (.inl default) zmp λx y=>(x.1.length+Int.toNat x.2.1+1))] []
theorem zUK:zJ zGZ (lp (body f185) 0):=zq (id:=2) (hl:=rfl)
def zIy (a:yB):Wy0 (Bool):=.bn (zGY (a.length+Int.toNat 0+1) a 0) λr0=>.i (isL r0) (.k (getL r0)) (.k false)
def zh7 (a:yB):=(zIy a).fin default
def zDp:=zh zUU λx=>((zh7 x.1).1,zTe (zh7 x.1).2)
theorem zPr:SdP 185 zDp:=
 sT (cx':=zGZ) (zi trivial) call185 func185 (lOK (aC zUK aN))
def z2B:=zbx base 36 []
def zRI (v:Value):Wy0 (Bool):=.i (v.Kind==0) (.k (v.Text.toList==(ByteArray.mk #[]).toList)) (.i (v.Kind==1) (.i (v.Int==0) (.k (decide (Int.ofNat v.Text.size<=255))) (.k false)) (.i (v.Kind==2) (.i (v.Text.toList==(ByteArray.mk #[]).toList) (.i (v.Int==0) (.k true) (.k (v.Int==1))) (.k false)) (.k false)))
def zsV (v:Value):=(zRI v).fin default
def zz3:=zh z4C λx=>((zsV x.1).1,zTe (zsV x.1).2)
theorem zG6:SdP 108 zz3:=
 sT (cx':=z2B) (zi trivial) call108 func108 (lOK aN)
abbrev zx8:=Int×yD×Unit×Int×Unit
def ztz (fn:Int) (items:yD) (i:Int) (bound:Value):Wy zx8 (Value×Unit) (Bool⊕Unit):=.i (decide (i<Int.ofNat items.length)) (.i (decide (0<=i)&&decide (i<Int.ofNat items.length)) (.bn (zsV (items.getD i.toNat default).Value) λr0=>.i (!r0) (.k (.inl false)) (.i ((items.getD i.toNat default).Value.Kind != bound.Kind) (.k (.inl false)) (.i (fn==0) (.i ((items.getD i.toNat default).Value.Int != 1) (.k (.inl false)) (.h (fn,items,(),(IntKind.i64.wrap (i+1)),()) (bound,()))) (.h (fn,items,(),(IntKind.i64.wrap (i+1)),()) (bound,()))))) .d) (.k (.inr ()))
def zDC (x:zx8) (y:Value×Unit):=ztz x.1 x.2.1 x.2.2.2.1 y.1
def zDA (n:Nat) (fn:Int) (items:yD) (i:Int) (bound:Value):=zA (zDC) (.inl default) n (fn,items,(),i,()) (bound,())
def z10:LL ty zx8:=za zj (za (lSl 169) (za (zdH 276 0) (za zj zm)))
def z2N:BL ty (Value×Unit):=zfj (zgi (λx=>(⟨x.1,x.2.1,x.2.2.1⟩:Value)) (λx=>(x.Kind,x.Int,x.Text,())) (λ_=>rfl) (za (zS .i64) (za (zS .i64) (za znN zm)))) false (zbg)
def z1o (x:zx8) (y:Value×Unit):Nat:=(Int.toNat x.1+x.2.1.length+Int.toNat x.2.2.2.1+1)
def zOb:=zb1 base 69 [(108,zz3)] [] [(4,(kpL [0,1,7,9]))] [(4,1,[]),(4,0,(kpL [8]))] [(4,spW z10 z2N (zDC) (.inl default) zmp z1o)] []
theorem zZ5:zJ zOb (lp (body f187) 0):=zq (id:=4) (hl:=rfl)
def zRy (fn:Int) (items:yD) (op:Int) (bound:Value):Wy0 (Bool):=.i (decide (fn<0)) (.k false) (.i (decide (fn>3)) (.k false) (.i (decide (op<5)) (.k false) (.i (decide (op>10)) (.k false) (.bn (zsV bound) λr4=>.i (!r4) (.k false) (.i (decide (fn<=1)) (.i (bound.Kind != 0) (.k false) (.bn (zDA (fn.toNat +items.length+Int.toNat 0+1) fn items 0 bound) λr2=>.i (isL r2) (.k (getL r2)) (.k true))) (.bn (zDA (fn.toNat +items.length+Int.toNat 0+1) fn items 0 bound) λr3=>.i (isL r3) (.k (getL r3)) (.k true)))))))
def zv9 (fn:Int) (items:yD) (op:Int) (bound:Value):=(zRy fn items op bound).fin default
def zJG:=zh zQ9 λx=>((zv9 x.1 x.2.1 x.2.2.1 x.2.2.2.1).1,zTe (zv9 x.1 x.2.1 x.2.2.1 x.2.2.2.1).2)
theorem zWS:SdP 187 zJG:=
 sT (cx':=zOb) (zi ⟨zG6,trivial⟩) call187 func187 (lOK (aC zZ5 aN))
def z1P:=zbx base 23 []
def zRD (x_:At):Wy0 (Bool):=.i (x_.Func==0) (.i (Int.ofNat x_.Items.length==0) (.i (x_.Op==0) (.k (x_.Bd.Kind==0&&(x_.Bd.Int==0&&(x_.Bd.Text.toList==(ByteArray.mk #[]).toList&&true)))) (.k false)) (.k false)) (.k false)
def zo8 (x_:At):=(zRD x_).fin default
def zIu:=zh z6N λx=>((zo8 x.1).1,zTe (zo8 x.1).2)
theorem zXt:SdP 184 zIu:=
 sT (cx':=z1P) (zi trivial) call184 func184 (lOK aN)
abbrev zfC:=Unit×Int×Unit
def zj6 (zbq:yB->Bool×Bool) (i:Int) (x_:At):Wy zfC (At×Unit) (Bool⊕At):=.i (decide (i<Int.ofNat x_.Ag.length)) (.i (decide (0<=i)&&decide (i<Int.ofNat x_.Ag.length)) (.i (Int.ofNat (List.length (x_.Ag.getD i.toNat default))==0) (.k (.inl false)) (.i (decide (0<=i)&&decide (i<Int.ofNat x_.Ag.length)) (.bn (zbq (x_.Ag.getD i.toNat default)) λr0=>.i (!r0) (.k (.inl false)) (.h ((),(IntKind.i64.wrap (i+1)),()) (x_,()))) .d)) .d) (.k (.inr x_))
def zuI (zbq:yB->Bool×Bool) (x:zfC) (y:At×Unit):=zj6 zbq x.2.1 y.1
def zu8 (zbq:yB->Bool×Bool) (n:Nat) (i:Int) (x_:At):=zA (zuI zbq) (.inl default) n ((),i,()) (x_,())
def zNB (r:Bool⊕At):LTree ty:=.ite (isL r) (.done .ret [.lit (.bool (getL r))] []) (.done (.exit 0) [.ptr 824 0] [.box (base.enc 143 (getR r)) false])
def zRg:LL ty zfC:=za (zdH 824 0) (za zj zm)
def zjC (zbq:yB->Bool×Bool) (i:Int) (x_:At):Wy zfC (At×Unit) (Bool⊕Unit):=.i (decide (i<Int.ofNat x_.Items.length)) (.i (decide (0<=i)&&decide (i<Int.ofNat x_.Items.length)) (.i (Int.ofNat (x_.Items.getD i.toNat default).Ann.length==0) (.k (.inl false)) (.i (decide (0<=i)&&decide (i<Int.ofNat x_.Items.length)) (.bn (zbq (x_.Items.getD i.toNat default).Ann) λr3=>.i (!r3) (.k (.inl false)) (.i (decide (i>0)) (.i (decide (0<=IntKind.i64.wrap (i - 1))&&decide (IntKind.i64.wrap (i - 1)<=i)&&decide (i<=Int.ofNat x_.Items.length)) (.i (decide (0<=i)&&decide (i<=IntKind.i64.wrap (i+1))&&decide (IntKind.i64.wrap (i+1)<=Int.ofNat x_.Items.length)) (.bn (zrR (List.take (i.toNat - (IntKind.i64.wrap (i - 1)).toNat) (List.drop (IntKind.i64.wrap (i - 1)).toNat x_.Items)) (List.take ((IntKind.i64.wrap (i+1)).toNat - i.toNat) (List.drop i.toNat x_.Items))) λr2=>.i (decide (r2>0)) (.k (.inl false)) (.h ((),(IntKind.i64.wrap (i+1)),()) (x_,()))) .d) .d) (.h ((),(IntKind.i64.wrap (i+1)),()) (x_,())))) .d)) .d) (.k (.inr ()))
def ztw (zbq:yB->Bool×Bool) (x:zfC) (y:At×Unit):=zjC zbq x.2.1 y.1
def zAP (zbq:yB->Bool×Bool) (n:Nat) (i:Int) (x_:At):=zA (ztw zbq) (.inl default) n ((),i,()) (x_,())
def zM8 (r:Bool⊕Unit):LTree ty:=.ite (isL r) (.done .ret [.lit (.bool (getL r))] []) (.done (.exit 3) [] [])
def zO7 (x:zfC) (y:At×Unit):Nat:=(Int.toNat x.2.1+y.1.Ag.length+y.1.Items.length+1)
def zu5 (zbq:yB->Bool×Bool):=zb1 base 206 [(33,zCM),(56,(zhC zbq)),(184,zIu),(185,zDp),(186,zHd),(187,zJG),(188,zyw)] [] [(6,(kpL [1,3])),(21,(kpL [1,4]))] [(6,1,(kpL [1])),(6,0,(kpL [2])),(21,4,[]),(21,0,(kpL [2]))] [(6,spW zRg zSi (zuI zbq) (.inl default) zNB zO7),(21,spW zRg zSi (ztw zbq) (.inl default) zM8 zO7)] []
theorem zNO (zbq:yB->Bool×Bool):zJ (zu5 zbq) (lp (body f111) 0):=zq (id:=6) (hl:=rfl)
theorem zLX (zbq:yB->Bool×Bool):zJ (zu5 zbq) (lp (body f111) 1):=zq (id:=21) (hl:=rfl)
def zDs (zbq:yB->Bool×Bool) (x_:At):Wy0 (Bool):=.i (x_.Kind==0) (.i (decide (x_.Row.Table≥1)) (.i (decide (x_.Row.Seq≥1)) (.i (Int.ofNat x_.Ag.length==0) (.bn (zo8 (At.mk x_.Kind x_.Row x_.Ag x_.Func x_.Items x_.Op x_.Bd)) λr6=>.k r6) (.k false)) (.k false)) (.k false)) (.i (!(x_.Row.Table==0&&(x_.Row.Seq==0&&true))) (.k false) (.bn (zu8 zbq (Int.toNat 0+x_.Ag.length+x_.Items.length+1) 0 (At.mk x_.Kind x_.Row x_.Ag x_.Func x_.Items x_.Op x_.Bd)) λr17=>.i (isL r17) (.k (getL r17)) (.i ((getR r17).Kind==1) (.i (Int.ofNat (getR r17).Ag.length==2) (.bn (zo8 (At.mk (getR r17).Kind (getR r17).Row (getR r17).Ag (getR r17).Func (getR r17).Items (getR r17).Op (getR r17).Bd)) λr8=>.i (r8) (.i (decide ((0:Int)<=(0:Int))&&decide (0<Int.ofNat (getR r17).Ag.length)) (.i (decide ((0:Int)<=(1:Int))&&decide (1<Int.ofNat (getR r17).Ag.length)) (.bn (zoS ((getR r17).Ag.getD (Int.toNat 0) default) ((getR r17).Ag.getD (Int.toNat 1) default)) λr7=>.k (!r7)) .d) .d) (.k false)) (.k false)) (.i ((getR r17).Kind==2) (.i (Int.ofNat (getR r17).Ag.length==1) (.bn (zo8 (At.mk (getR r17).Kind (getR r17).Row (getR r17).Ag (getR r17).Func (getR r17).Items (getR r17).Op (getR r17).Bd)) λr12=>.i (r12) (.i (decide ((0:Int)<=(0:Int))&&decide (0<Int.ofNat (getR r17).Ag.length)) (.i (Int.ofNat (List.length ((getR r17).Ag.getD (Int.toNat 0) default))==1) (.i (decide ((0:Int)<=(0:Int))&&decide (0<Int.ofNat (getR r17).Ag.length)) (.bn (zh7 ((getR r17).Ag.getD (Int.toNat 0) default)) λr10=>.i (!r10) (.i (decide ((0:Int)<=(0:Int))&&decide (0<Int.ofNat (getR r17).Ag.length)) (.bn (zpM ((getR r17).Ag.getD (Int.toNat 0) default)) λr9=>.k (!r9)) .d) (.k false)) .d) (.i (decide ((0:Int)<=(0:Int))&&decide (0<Int.ofNat (getR r17).Ag.length)) (.bn (zpM ((getR r17).Ag.getD (Int.toNat 0) default)) λr11=>.k (!r11)) .d)) .d) (.k false)) (.k false)) (.i ((getR r17).Kind==3) (.i (Int.ofNat (getR r17).Ag.length==1) (.bn (zo8 (At.mk (getR r17).Kind (getR r17).Row (getR r17).Ag (getR r17).Func (getR r17).Items (getR r17).Op (getR r17).Bd)) λr14=>.i (r14) (.i (decide ((0:Int)<=(0:Int))&&decide (0<Int.ofNat (getR r17).Ag.length)) (.bn (zh7 ((getR r17).Ag.getD (Int.toNat 0) default)) λr13=>.k (!r13)) .d) (.k false)) (.k false)) (.i ((getR r17).Kind==4) (.i (Int.ofNat (getR r17).Ag.length != 0) (.k false) (.i (Int.ofNat (getR r17).Items.length==0) (.k false) (.i (decide (Int.ofNat (getR r17).Items.length>1024)) (.k false) (.bn (zv9 (getR r17).Func (getR r17).Items (getR r17).Op (getR r17).Bd) λr16=>.i (!r16) (.k false) (.bn (zAP zbq (Int.toNat 0+(getR r17).Ag.length+(getR r17).Items.length+1) 0 (At.mk (getR r17).Kind (getR r17).Row (getR r17).Ag (getR r17).Func (getR r17).Items (getR r17).Op (getR r17).Bd)) λr15=>.i (isL r15) (.k (getL r15)) (.k true)))))) (.k false)))))))
def zop (zbq:yB->Bool×Bool) (x_:At):=(zDs zbq x_).fin default
theorem zKq (zbq:yB->Bool×Bool) (zZ2:SdP 56 (zhC zbq)):SdP 111 (zl8 (zop zbq)):=
 sT (cx':=(zu5 zbq)) (zi ⟨zJb,zZ2,zXt,zPr,zTT,zWS,zId,trivial⟩) call111 func111 (lOK (aC (zNO zbq) (aC (zLX zbq) aN)))
def zHC:Nat->(yB->Bool×Bool)×(At->Bool×Bool)
 | 0=>(λ_=>(false,default),λ_=>(false,default))
 | n+1=>(zvS ((zHC n).2),zop ((zHC n).1))
def zvJ (n:Nat):yB->Bool×Bool:=(zHC n).1
def ztg (n:Nat):At->Bool×Bool:=(zHC n).2
theorem zYx (n:Nat):zvJ (n+1)=zvS (ztg n):=rfl
theorem zQS (n:Nat):ztg (n+1)=zop (zvJ n):=rfl
theorem zVU:∀ n,SdP 56 (zhC (zvJ n))/\SdP 111 (zl8 (ztg n))
 | 0=>⟨zbk call56 (λ_=>rfl),zbk call111 (λ_=>rfl)⟩
 | n+1=>by
  have ih:=zVU n;exact ⟨zSb _ (ih.2),zKq _ (ih.1)⟩
def zgr:yB->Bool×Bool:=zvJ 1000
def zAg:Ab.Spec ty:=zhC zgr
theorem zG4:SdP 56 zAg:=(zVU 1000).1
abbrev zAk:=yH×Int×Unit
abbrev zIR:=Bool⊕yH
def zAt (l:yH) (i:Int):Wy zAk Unit zIR:=.i (decide (i<Int.ofNat l.length)) (.i (decide (0<=i)&&decide (i<Int.ofNat l.length)) (.i (decide ((l.getD i.toNat default).Type_<0)) (.k (.inl false)) (.i (decide (0<=i)&&decide (i<Int.ofNat l.length)) (.i (decide ((l.getD i.toNat default).Type_>2)) (.k (.inl false)) (.h (l,(IntKind.i64.wrap (i+1)),()) ())) .d)) .d) (.k (.inr l))
def zAw (x:zAk) (y:Unit):=zAt x.1 x.2.1
def zJL (n:Nat) (l:yH) (i:Int):=zA (zAw) (.inl default) n (l,i,()) ()
def zW2 (r:zIR):LTree ty:=.ite (isL r) (.done .ret [.lit (.bool (getL r))] []) (.done (.exit 0) [.sl 75 (getR r)] [])
def zY6:LL ty zAk:=za (lSl 75) (za zj zm)
def zJT:=zb1 base 27 [] [] [(2,(kpL [0,3]))] [(2,1,(kpL [0])),(2,0,(kpL [2]))] [(2,spW zY6 z4x (zAw) (.inl default) zW2 λx y=>(x.1.length+Int.toNat x.2.1+1))] []
theorem zXe:zJ zJT (lp (body f54) 0):=zq (id:=2) (hl:=rfl)
def zLx (l:yH):Wy0 (Bool):=.bn (zJL (l.length+Int.toNat 0+1) l 0) λr0=>.i (isL r0) (.k (getL r0)) (.k (decide (Int.ofNat (getR r0).length<=16)))
def zvV (l:yH):=(zLx l).fin default
def zFO:=zh zKw λx=>((zvV x.1).1,zTe (zvV x.1).2)
theorem zSp:SdP 54 zFO:=
 sT (cx':=zJT) (zi trivial) call54 func54 (lOK (aC zXe aN))
abbrev zzU:=yH×yG×Int×Unit
def zvO (l:yH) (row:yG) (i:Int):Wy zzU Unit (Bool⊕Unit):=.i (decide (i<Int.ofNat l.length)) (.i (decide (0<=i)&&decide (i<Int.ofNat row.length)) (.bn (zsV (row.getD i.toNat default)) λr0=>.i (!r0) (.k (.inl false)) (.i (decide (0<=i)&&decide (i<Int.ofNat row.length)) (.i (decide (0<=i)&&decide (i<Int.ofNat l.length)) (.i ((row.getD i.toNat default).Kind != (l.getD i.toNat default).Type_) (.k (.inl false)) (.h (l,row,(IntKind.i64.wrap (i+1)),()) ())) .d) .d)) .d) (.k (.inr ()))
def zGF (x:zzU) (y:Unit):=zvO x.1 x.2.1 x.2.2.1
def zRs (n:Nat) (l:yH) (row:yG) (i:Int):=zA (zGF) (.inl default) n (l,row,i,()) ()
def z5o:LL ty zzU:=za (lSl 75) (za (lSl 79) (za zj zm))
def z2l (x:zzU) (y:Unit):Nat:=(x.1.length+x.2.1.length+Int.toNat x.2.2.1+1)
def zRG:=zb1 base 36 [(108,zz3)] [] [(4,(kpL [0,1,5]))] [(4,1,[]),(4,0,(kpL [4]))] [(4,spW z5o z4x (zGF) (.inl default) zmp z2l)] []
theorem z2x:zJ zRG (lp (body f55) 0):=zq (id:=4) (hl:=rfl)
def zUr (l:yH) (row:yG):Wy0 (Bool):=.i (Int.ofNat l.length != Int.ofNat row.length) (.k false) (.bn (zRs (l.length+row.length+Int.toNat 0+1) l row 0) λr2=>.i (isL r2) (.k (getL r2)) (.k true))
def zB8 (l:yH) (row:yG):=(zUr l row).fin default
def zLl:=zh z1T λx=>((zB8 x.1 x.2.1).1,zTe (zB8 x.1 x.2.1).2)
theorem zYF:SdP 55 zLl:=
 sT (cx':=zRG) (zi ⟨zG6,trivial⟩) call55 func55 (lOK (aC z2x aN))
def z5m:=zbx base 9 []
def zVX (a:Int) (b:Int):Wy0 (Int):=.k (if 1152921504606846976<IntKind.i64.wrap (a+b) then 1152921504606846976 else IntKind.i64.wrap (a+b))
def zuS (a:Int) (b:Int):=(zVX a b).fin default
def zLC:=zh zSX λx=>((zuS x.1 x.2.1).1,zMl (zuS x.1 x.2.1).2)
theorem zZy:SdP 128 zLC:=
 sT (cx':=z5m) (zi trivial) call128 func128 (lOK aN)
abbrev zCr:=yB×Unit×Int×Unit
abbrev zVF:=yB×Int×Term
def zxx (a:yB) (i:Int) (t:Term):Wy zCr (Term×Unit) zVF:=.i (decide (i<Int.ofNat a.length)) (.i (decide (0<=i)&&decide (i<Int.ofNat a.length)) (.bn (zkl (a.getD i.toNat default).Fs t.Fs) λr0=>.i (decide (r0<0)) (.h (a,(),(IntKind.i64.wrap (i+1)),()) (t,())) (.k (a,i,t))) .d) (.k (a,i,t))
def zIc (x:zCr) (y:Term×Unit):=zxx x.1 x.2.2.1 y.1
def zVa (n:Nat) (a:yB) (i:Int) (t:Term):=zA (zIc) default n (a,(),i,()) (t,())
def z5q (r:zVF):LTree ty:=.done (.exit 0) [.sl 107 r.1,.ptr 288 0,.lit (.int .i64 r.2.1)] [.box (base.enc 107 r.2.2) false]
def z7E:LL ty zCr:=za (lSl 107) (za (zdH 288 0) (za zj zm))
def z5i (x:zCr) (y:Term×Unit):Nat:=(x.1.length+Int.toNat x.2.2.1+y.1.Fs.length+1)
def zTo:=zb1 base 72 [(110,zo2),(128,zLC)] [] [(2,(kpL [0,3,5]))] [(2,1,(kpL [0,3,5]))] [(2,spW z7E zON (zIc) default z5q z5i)] []
theorem z4P:zJ zTo (lp (body f75) 0):=zq (id:=2) (hl:=rfl)
def zYj (a:yB) (t:Term):Wy0 (yB):=.bn (zVa (a.length+Int.toNat 0+t.Fs.length+1) a 0 t) λr3=>.i (decide ((0:Int)<=(0:Int))&&decide (0<=r3.2.1)&&decide (r3.2.1<=Int.ofNat r3.1.length)) (.i (decide ((0+(List.take (r3.2.1.toNat - Int.toNat 0) (List.drop (Int.toNat 0) r3.1)).length)*32<=zF)) (.i (decide (r3.2.1<Int.ofNat r3.1.length)) (.i (decide (0<=r3.2.1)&&decide (r3.2.1<Int.ofNat r3.1.length)) (.bn (zkl (r3.1.getD r3.2.1.toNat default).Fs r3.2.2.Fs) λr2=>.i (r2==0) (.i (decide (0<=r3.2.1)&&decide (r3.2.1<Int.ofNat r3.1.length)) (.i (decide ((([]++List.take (r3.2.1.toNat - Int.toNat 0) (List.drop (Int.toNat 0) r3.1)).length+[TO.mk (zuS (r3.1.getD r3.2.1.toNat default).Cf r3.2.2.Cf).2 r3.2.2.Fs].length)*32<=zF)) (.i (decide (0<=IntKind.i64.wrap (r3.2.1+1))&&decide (IntKind.i64.wrap (r3.2.1+1)<=Int.ofNat r3.1.length)&&decide (Int.ofNat r3.1.length<=Int.ofNat r3.1.length)) (.i (decide ((([]++List.take (r3.2.1.toNat - Int.toNat 0) (List.drop (Int.toNat 0) r3.1)++[TO.mk (zuS (r3.1.getD r3.2.1.toNat default).Cf r3.2.2.Cf).2 r3.2.2.Fs]).length+(List.take ((Int.ofNat r3.1.length).toNat - (IntKind.i64.wrap (r3.2.1+1)).toNat) (List.drop (IntKind.i64.wrap (r3.2.1+1)).toNat r3.1)).length)*32<=zF)) (.k ([]++List.take (r3.2.1.toNat - Int.toNat 0) (List.drop (Int.toNat 0) r3.1)++[TO.mk (zuS (r3.1.getD r3.2.1.toNat default).Cf r3.2.2.Cf).2 r3.2.2.Fs]++List.take ((Int.ofNat r3.1.length).toNat - (IntKind.i64.wrap (r3.2.1+1)).toNat) (List.drop (IntKind.i64.wrap (r3.2.1+1)).toNat r3.1))) .d) .d) .d) .d) (.i (decide ((([]++List.take (r3.2.1.toNat - Int.toNat 0) (List.drop (Int.toNat 0) r3.1)).length+[r3.2.2].length)*32<=zF)) (.i (decide (0<=r3.2.1)&&decide (r3.2.1<=Int.ofNat r3.1.length)&&decide (Int.ofNat r3.1.length<=Int.ofNat r3.1.length)) (.i (decide ((([]++List.take (r3.2.1.toNat - Int.toNat 0) (List.drop (Int.toNat 0) r3.1)++[r3.2.2]).length+(List.take ((Int.ofNat r3.1.length).toNat - r3.2.1.toNat) (List.drop r3.2.1.toNat r3.1)).length)*32<=zF)) (.k ([]++List.take (r3.2.1.toNat - Int.toNat 0) (List.drop (Int.toNat 0) r3.1)++[r3.2.2]++List.take ((Int.ofNat r3.1.length).toNat - r3.2.1.toNat) (List.drop r3.2.1.toNat r3.1))) .d) .d) .d)) .d) (.i (decide ((([]++List.take (r3.2.1.toNat - Int.toNat 0) (List.drop (Int.toNat 0) r3.1)).length+[r3.2.2].length)*32<=zF)) (.i (decide (0<=r3.2.1)&&decide (r3.2.1<=Int.ofNat r3.1.length)&&decide (Int.ofNat r3.1.length<=Int.ofNat r3.1.length)) (.i (decide ((([]++List.take (r3.2.1.toNat - Int.toNat 0) (List.drop (Int.toNat 0) r3.1)++[r3.2.2]).length+(List.take ((Int.ofNat r3.1.length).toNat - r3.2.1.toNat) (List.drop r3.2.1.toNat r3.1)).length)*32<=zF)) (.k ([]++List.take (r3.2.1.toNat - Int.toNat 0) (List.drop (Int.toNat 0) r3.1)++[r3.2.2]++List.take ((Int.ofNat r3.1.length).toNat - r3.2.1.toNat) (List.drop r3.2.1.toNat r3.1))) .d) .d) .d)) .d) .d
def zAI (a:yB) (t:Term):=(zYj a t).fin default
def z8o:AL base (yB×Term×Unit):=zd (ze (vSl 107)) (zd (ze (zcd 107)) zt)
def zNV:=zh z8o λx=>((zAI x.1 x.2.1).1,z27 (zAI x.1 x.2.1).2)
theorem z0D:SdP 75 zNV:=
 sT (cx':=zTo) (zi ⟨zvs,zZy,trivial⟩) call75 func75 (lOK (aC z4P aN)) (sg:=⟨[.own 107],[]⟩)
abbrev zCU:=yB×yB×Int×Unit
def zx7 (a:yB) (b:yB) (i:Int):Wy zCU Unit (yB):=.i (decide (i<Int.ofNat b.length)) (.i (decide (0<=i)&&decide (i<Int.ofNat b.length)) (.bn (zAI a (b.getD i.toNat default)) λr0=>.h ((r0),b,(IntKind.i64.wrap (i+1)),()) ()) .d) (.k a)
def zJM (x:zCU) (y:Unit):=zx7 x.1 x.2.1 x.2.2.1
def zVd (n:Nat) (a:yB) (b:yB) (i:Int):=zA (zJM) default n (a,b,i,()) ()
def z5r (r:yB):LTree ty:=.done (.exit 0) [.sl 107 r] []
def z7n:LL ty zCU:=za (lSl 107) (za (lSl 107) (za zj zm))
def z5t (x:zCU) (y:Unit):Nat:=(x.1.length+x.2.1.length+Int.toNat x.2.2.1+1)
def zTB:=zb1 base 19 [(75,zNV)] [] [(2,[(0,.sl 107),(1,.keep),(5,.keep)])] [(2,1,(kpL [0]))] [(2,spW z7n z4x (zJM) default z5r z5t)] []
theorem z41:zJ zTB (lp (body f32) 0):=zq (id:=2) (hl:=rfl)
def zXQ (a:yB) (b:yB):Wy0 (yB):=.bn (zVd (a.length+b.length+Int.toNat 0+1) a b 0) λr2=>.k r2
def zEI (a:yB) (b:yB):=(zXQ a b).fin default
def z4X (r:yB):ARes ty:=⟨[.pure (.sl 107 r)],[]⟩
def zOc:=zh zPO λx=>((zEI x.1 x.2.1).1,z4X (zEI x.1 x.2.1).2)
theorem zZQ:SdP 32 zOc:=
 sT (cx':=zTB) (zi ⟨z0D,trivial⟩) call32 func32 (lOK (aC z41 aN))
def z7D:=zbx base 8 [(109,zCb)]
def zXX (a:yB):Wy0 (yB×Int):=.bn (zyo a) λr0=>.i (!r0) (.k ([],6)) (.k (a,0))
def zmi (a:yB):=(zXX a).fin default
def z5g (r:yB×Int):ARes ty:=⟨[.pure (.sl 107 r.1),.pure (.lit (.int .i64 r.2))],[]⟩
def zNU:=zh zUU λx=>((zmi x.1).1,z5g (zmi x.1).2)
theorem z1C:SdP 194 zNU:=
 sT (cx':=z7D) (zi ⟨zJB,trivial⟩) call194 func194 (lOK aN) (sg:=⟨[.pure,.pure],[]⟩)
def z6v:=zbx base 20 [(32,zOc),(56,zAg),(194,zNU)]
def zLV (a:yB) (b:yB):Wy0 (yB×Int):=.bn (zgr a) λr3=>.i (!r3) (.k ([],1)) (.bn (zgr b) λr2=>.i (!r2) (.k ([],1)) (.bn (zEI a b) λr1=>.bn (zmi r1) λr0=>.k (r0.1,r0.2)))
def zx5 (a:yB) (b:yB):=(zLV a b).fin default
def zOj:=zh zPO λx=>((zx5 x.1 x.2.1).1,z5g (zx5 x.1 x.2.1).2)
theorem z1N:SdP 127 zOj:=
 sT (cx':=z6v) (zi ⟨zZQ,zG4,z1C,trivial⟩) call127 func127 (lOK aN) (sg:=⟨[.pure,.pure],[]⟩)
end Go.Proofs.YtoknknbmfmddbaaGreatDoor
end
