/- Texts of this claim, joined (the program, its functions in plain words, and what they compute). -/
import Derived.Test.YtoknknbmfmddbaaGreatDoorGC4
set_option autoImplicit false
set_option linter.unusedVariables false
set_option linter.unusedSectionVars false
set_option linter.unusedSimpArgs false
set_option maxRecDepth 1000000
set_option maxHeartbeats 0
noncomputable section
namespace Go.Proofs.YtoknknbmfmddbaaGreatDoor
open Go Go.Ab
open Go.Proofs.Tryz
abbrev zn6:=Unit×Unit×yF×Int×Int×Unit
abbrev zn3:=Relation×(Unit×Unit×Unit)×Unit
abbrev zB7:=Int⊕Relation
abbrev zoa:=Unit×Unit×Unit×Int×Int×Unit
abbrev znT:=(Unit×Unit×Unit)×(Unit×Unit×Unit)×yF×yH×yF×Unit
abbrev zBY:=Int⊕(yH×yF)
def zuB (t19:yF) (t20:Int) (t21:Int) (r:Relation):Wy zn6 zn3 zB7:=.i (decide (t21<t20)) (.i (decide (0<=t21)&&decide (t21<Int.ofNat t19.length)) (.bn (zst r.Columns (t19.getD t21.toNat default).Values) λr5=>.i (!r5) (.k (.inl 7)) (.bn (zb9 (t19.getD t21.toNat default).Ann) λr4=>.i (!r4) (.k (.inl 1)) (.h ((),(),t19,t20,(IntKind.i64.wrap (t21+1)),()) (r,((),(),()),())))) .d) (.k (.inr r))
def zuI (x:zn6) (y:zn3):=zuB x.2.2.1 x.2.2.2.1 x.2.2.2.2.1 y.1
def zB9 (n:Nat) (t19:yF) (t20:Int) (t21:Int) (r:Relation):=zB (zuI) (.inl default) n ((),(),t19,t20,t21,()) (r,((),(),()),())
def zOj (r:zB7):LTree ty:=.ite (isL r) (.done .ret [.ptr 440 0,.lit (.int .i64 (getL r))] [.box ([.lit (.slice none 0 0),.lit (.slice none 0 0)]) false]) (.done (.exit 0) [.ptr 440 0,.ptr 441 0] [.box (base.enc 25 (getR r)) false,.box ([.lit (.slice none 0 0),.lit (.slice none 0 0)]) false])
def zOW:LL ty zn6:=za (zcI 440 0) (za (zcI 441 0) (za (lSl 54) (za zj (za zj zl))))
def zQG:BL ty zn3:=zd7 (zdv (λx=>(⟨x.1,x.2.1⟩:Relation)) (λx=>(x.Columns,x.Rows,())) (λ_=>rfl) (za (lSl 75) (za (lSl 54) zl))) false (zd7 (za zIm (za zIm zl)) false (zbe))
def ztM (t49:Int) (t50:Int) (t48:yF) (b3:yH) (b4:yF):Wy zoa znT zBY:=.i (decide (t50<t49)) (.i (decide (0<=t50)&&decide (t50<Int.ofNat t48.length)) (.i (Int.ofNat b4.length==0) (.bn (znW (t48.getD t50.toNat default) (t48.getD t50.toNat default).Ann) λr8=>.i (decide ((b4.length+[r8].length)*48<=zA)) (.h ((),(),(),t49,(IntKind.i64.wrap (t50+1)),()) (((),(),()),((),(),()),t48,b3,(b4++[r8]),())) .d) (.i (decide (0<=IntKind.i64.wrap (Int.ofNat b4.length - 1))&&decide (IntKind.i64.wrap (Int.ofNat b4.length - 1)<Int.ofNat b4.length)) (.bn (zcp (b4.getD (IntKind.i64.wrap (Int.ofNat b4.length - 1)).toNat default) (t48.getD t50.toNat default)) λr11=>.i (r11 != 0) (.bn (znW (t48.getD t50.toNat default) (t48.getD t50.toNat default).Ann) λr9=>.i (decide ((b4.length+[r9].length)*48<=zA)) (.h ((),(),(),t49,(IntKind.i64.wrap (t50+1)),()) (((),(),()),((),(),()),t48,b3,(b4++[r9]),())) .d) (.i (decide (0<=IntKind.i64.wrap (Int.ofNat b4.length - 1))&&decide (IntKind.i64.wrap (Int.ofNat b4.length - 1)<Int.ofNat b4.length)) (.bn (zql (b4.getD (IntKind.i64.wrap (Int.ofNat b4.length - 1)).toNat default).Ann (t48.getD t50.toNat default).Ann) λr10=>.i (r10.2 != 0) (.k (.inl (r10.2))) (.i (decide (0<=IntKind.i64.wrap (Int.ofNat b4.length - 1))&&decide (IntKind.i64.wrap (Int.ofNat b4.length - 1)<Int.ofNat b4.length)) (.i (decide ((IntKind.i64.wrap (Int.ofNat b4.length - 1)).toNat<b4.length)) (.h ((),(),(),t49,(IntKind.i64.wrap (t50+1)),()) (((),(),()),((),(),()),t48,b3,(b4.set (IntKind.i64.wrap (Int.ofNat b4.length - 1)).toNat (Row.mk (b4.getD (IntKind.i64.wrap (Int.ofNat b4.length - 1)).toNat default).Values r10.1)),())) .d) .d)) .d)) .d)) .d) (.k (.inr (b3,b4)))
def ztu (x:zoa) (y:znT):=ztM x.2.2.2.1 x.2.2.2.2.1 y.2.2.1 y.2.2.2.1 y.2.2.2.2.1
def zAL (n:Nat) (t49:Int) (t50:Int) (t48:yF) (b3:yH) (b4:yF):=zB (ztu) (.inl default) n ((),(),(),t49,t50,()) (((),(),()),((),(),()),t48,b3,b4,())
def zMa (r:zBY):LTree ty:=.ite (isL r) (.done .ret [.ptr 440 0,.lit (.int .i64 (getL r))] [.box ([.lit (.slice none 0 0),.lit (.slice none 0 0)]) false]) (.done (.exit 2) [.ptr 440 0,.ptr 441 0] [.box ([.lit (.slice none 0 0),.lit (.slice none 0 0)]) false,.box ([.own 442,.own 443]) false,.arr 75 (getR r).1 false,.arr 54 (getR r).2 false])
def zNu:LL ty zoa:=za (zcI 440 0) (za (zcI 441 0) (za (zgd 442) (za zj (za zj zl))))
def zOE:BL ty znT:=zd7 (za zIm (za zIm zl)) false (zd7 (za (zgd 443) (za (zgd 444) zl)) false (zge 54 false (zge 75 false (zge 54 false (zbe)))))
def zNL (x:zn6) (y:zn3):Nat:=(x.2.2.1.length+Int.toNat x.2.2.2.1+Int.toNat x.2.2.2.2.1+y.1.Columns.length+y.1.Rows.length+1000)
def zMl (x:zoa) (y:znT):Nat:=(Int.toNat x.2.2.2.1+Int.toNat x.2.2.2.2.1+y.2.2.1.length+y.2.2.2.1.length+y.2.2.2.2.1.length+1000)
def zum:=zbZ zbt 110 [(50,zoC),(51,zyr),(52,zcn),(53,zfF),(61,zkM),(67,zlC),(68,zoX),(69,zjM),(70,zjP),(71,zDK),(72,zxM)] [(67,[true,false]),(70,[true,false])] [(4,(kpL [1,2,19,20,21])),(15,[(2,.keep),(7,.boxOwn [(1,54)]),(48,.keep),(49,.keep),(50,.keep)])] [(4,1,(kpL [1,2])),(4,0,(kpL [2,3])),(15,3,(kpL [2,7])),(15,0,(kpL [2,3]))] [(4,spW zOW zQG (zuI) (.inl default) zOj zNL),(15,spW zNu zOE (ztu) (.inl default) zMa zMl)] []
theorem zOH:zI zum (lp (body f28) 0):=zo (id:=4) (hl:=rfl)
theorem zMv:zI zum (lp (body f28) 1):=zo (id:=15) (hl:=rfl)
def zDc (r:Relation):Wy0 (Relation×Int):=.bn (zhv r.Columns) λr22=>.i (!r22) (.k ((⟨[],[]⟩:Relation),1)) (.bn (zB9 (r.Rows.length+(Int.ofNat r.Rows.length).toNat +Int.toNat 0+r.Columns.length+r.Rows.length+1000) r.Rows (Int.ofNat r.Rows.length) 0 r) λr21=>.i (isL r21) (.k ((⟨[],[]⟩:Relation),getL r21)) (.bn (zfd (getR r21).Rows) λr20=>.bn (zd6 r20) λr19=>.bn (zct r19) λr18=>.bn (zdR (getR r21).Columns) λr17=>.bn (zAL ((Int.ofNat r18.length).toNat +Int.toNat 0+r18.length+r17.length+0+1000) (Int.ofNat r18.length) 0 r18 r17 []) λr16=>.i (isL r16) (.k ((⟨[],[]⟩:Relation),getL r16)) (.i (decide (Int.ofNat (getR r16).2.length>1024)) (.k ((⟨[],[]⟩:Relation),6)) (.k ((⟨(getR r16).1,(getR r16).2⟩:Relation),0)))))
def zh7 (r:Relation):=(zDc r).fin default
def zOD (r:Relation×Int):ARes ty:=⟨[.pure (.agg (base.enc 25 r.1)),.pure (.lit (.int .i64 r.2))],[]⟩
def ziL:=zh zYL λx=>((zh7 x.1).1,zOD (zh7 x.1).2)
theorem zlb:Sound Tryz.prog zbt 28 ziL:=
 sU (cx':=zum) (zi ⟨zvw.nodr,zEN.nodr,zcx.nodr,zgP.nodr,zu2.nodr,zvV.nodr,zzn.nodr,znf.nodr,ztL.nodr,zOV,zCX,trivial⟩) call28 func28 (lOK (aC zOH (aC zMv aN))) (sg:=⟨[.pure,.pure],[]⟩)
def z4K:=zbv zbt 50 [(12,zDY),(14,zrm),(16,zEA),(28,ziL),(42,zIx)]
def z6X:Wy0 (Bool):=.k true
def zZE:Bool×Bool:=(z6X).fin default
def z6x:AL zbt (Unit):=zr
def zKR:=zh z6x λx=>((zZE ).1,zUI (zZE ).2)
theorem zX7:Sound Tryz.prog zbt 10 zKR:=
 sU (cx':=z4K) (zi ⟨zOM,zvO.nodr,zR6.nodr,zlb,zWU.nodr,trivial⟩) call10 func10 (lOK aN)
abbrev zpL:=yH×yH×Int×Unit
def zkW (a:yH) (b:yH) (i:Int):Wy zpL Unit (Bool⊕Unit):=.i (decide (i<Int.ofNat a.length)) (.i (decide (0<=i)&&decide (i<Int.ofNat a.length)) (.i (decide (0<=i)&&decide (i<Int.ofNat b.length)) (.i (!((a.getD i.toNat default).Name.toList==(b.getD i.toNat default).Name.toList&&((a.getD i.toNat default).Type_==(b.getD i.toNat default).Type_&&true))) (.k (.inl false)) (.h (a,b,(IntKind.i64.wrap (i+1)),()) ())) .d) .d) (.k (.inr ()))
def zwa (x:zpL) (y:Unit):=zkW x.1 x.2.1 x.2.2.1
def zDJ (n:Nat) (a:yH) (b:yH) (i:Int):=zB (zwa) (.inl default) n (a,b,i,()) ()
def zRx:LL ty zpL:=za (lSl 75) (za (lSl 75) (za zj zl))
def zO2 (x:zpL) (y:Unit):Nat:=(x.1.length+x.2.1.length+Int.toNat x.2.2.1+1)
def zDd:=zbZ base 26 [] [] [(4,(kpL [0,1,5]))] [(4,1,[]),(4,0,(kpL [4]))] [(4,spW zRx z6k (zwa) (.inl default) znl zO2)] []
theorem zPN:zI zDd (lp (body f23) 0):=zo (id:=4) (hl:=rfl)
def zEE (a:yH) (b:yH):Wy0 (Bool):=.i (Int.ofNat a.length != Int.ofNat b.length) (.k false) (.bn (zDJ (a.length+b.length+Int.toNat 0+1) a b 0) λr0=>.i (isL r0) (.k (getL r0)) (.k true))
def zoL (a:yH) (b:yH):=(zEE a b).fin default
def zAW:=zh zyc λx=>((zoL x.1 x.2.1).1,zUI (zoL x.1 x.2.1).2)
theorem zLR:SdP 23 zAW:=
 sT (cx':=zDd) (zi trivial) call23 func23 (lOK (aC zPN aN))
def z6c:=zbv base 4 []
def zWh (less:Bool):Wy0 (Int):=.i (less) (.k (-1:Int)) (.k 1)
def zs9 (less:Bool):=(zWh less).fin default
def z8X:AL base (Bool×Unit):=zd (ze zbhU) zr
def zDN:=zh z8X λx=>((zs9 x.1).1,zOz (zs9 x.1).2)
theorem zLt:SdP 114 zDN:=
 sT (cx':=z6c) (zi trivial) call114 func114 (lOK aN)
def z0G:=zbv base 38 [(114,zDN)]
def zNg (a:Value) (b:Value):Wy0 (Int):=.i (a.Kind != b.Kind) (.bn (zs9 (decide (a.Kind<b.Kind))) λr0=>.k r0) (.i (a.Int != b.Int) (.bn (zs9 (decide (a.Int<b.Int))) λr1=>.k r1) (.i (!a.Text.toList==b.Text.toList) (.bn (zs9 (Op.bytesLess a.Text.toList b.Text.toList)) λr2=>.k r2) (.k 0)))
def zjL (a:Value) (b:Value):=(zNg a b).fin default
def zsx:=zh z1I λx=>((zjL x.1 x.2.1).1,zOz (zjL x.1 x.2.1).2)
theorem zxq:SdP 113 zsx:=
 sT (cx':=z0G) (zi ⟨zLt,trivial⟩) call113 func113 (lOK aN)
abbrev znS:=yG×yG×Int×Unit
abbrev zBV:=Int⊕(yG×yG)
def zvK (a:yG) (b:yG) (i:Int):Wy znS Unit zBV:=.i (decide (i<Int.ofNat a.length)) (.i (decide (i<Int.ofNat b.length)) (.i (decide (0<=i)&&decide (i<Int.ofNat a.length)) (.i (decide (0<=i)&&decide (i<Int.ofNat b.length)) (.bn (zjL (a.getD i.toNat default) (b.getD i.toNat default)) λr0=>.i (r0 != 0) (.k (.inl (r0))) (.h (a,b,(IntKind.i64.wrap (i+1)),()) ())) .d) .d) (.k (.inr (a,b)))) (.k (.inr (a,b)))
def zDM (x:znS) (y:Unit):=zvK x.1 x.2.1 x.2.2.1
def zv0 (n:Nat) (a:yG) (b:yG) (i:Int):=zB (zDM) (.inl default) n (a,b,i,()) ()
def zPy (r:zBV):LTree ty:=.ite (isL r) (.done .ret [.lit (.int .i64 (getL r))] []) (.done (.exit 0) [.sl 79 (getR r).1,.sl 79 (getR r).2] [])
def zSo:LL ty znS:=za (lSl 79) (za (lSl 79) (za zj zl))
def zQq (x:znS) (y:Unit):Nat:=(x.1.length+x.2.1.length+Int.toNat x.2.2.1+1)
def zDs:=zbZ base 42 [(113,zsx),(114,zDN)] [] [(2,(kpL [0,1,5]))] [(2,1,(kpL [0,1])),(2,0,(kpL [4]))] [(2,spW zSo z6k (zDM) (.inl default) zPy zQq)] []
theorem zPC:zI zDs (lp (body f57) 0):=zo (id:=2) (hl:=rfl)
def zEQ (a:yG) (b:yG):Wy0 (Int):=.bn (zv0 (a.length+b.length+Int.toNat 0+1) a b 0) λr3=>.i (isL r3) (.k (getL r3)) (.i (Int.ofNat (getR r3).1.length==Int.ofNat (getR r3).2.length) (.k 0) (.bn (zs9 (decide (Int.ofNat (getR r3).1.length<Int.ofNat (getR r3).2.length))) λr2=>.k r2))
def zi0 (a:yG) (b:yG):=(zEQ a b).fin default
def zmK:=zh zUi λx=>((zi0 x.1 x.2.1).1,zOz (zi0 x.1 x.2.1).2)
theorem zr1:SdP 57 zmK:=
 sT (cx':=zDs) (zi ⟨zxq,zLt,trivial⟩) call57 func57 (lOK (aC zPC aN))
def z6D:=zbv base 9 [(57,zmK)]
def zVE (a:yG) (b:yG):Wy0 (Bool):=.bn (zi0 a b) λr0=>.k (r0==0)
def zzC (a:yG) (b:yG):=(zVE a b).fin default
def zC4:=zh zUi λx=>((zzC x.1 x.2.1).1,zUI (zzC x.1 x.2.1).2)
theorem zKO:SdP 31 zC4:=
 sT (cx':=z6D) (zi ⟨zr1,trivial⟩) call31 func31 (lOK aN)
def zjy (F:yC->yC->Bool×Int):Ab.Spec ty:=zh zYI λx=>((F x.1 x.2.1).1,zOz (F x.1 x.2.1).2)
def zSG:AL base (yD×yD×Unit):=zd (ze (vSl 169)) (zd (ze (vSl 169)) zr)
def zlq (F:yD->yD->Bool×Int):Ab.Spec ty:=zh zSG λx=>((F x.1 x.2.1).1,zOz (F x.1 x.2.1).2)
def z2w:=zbv base 11 []
def zPl (a:Int) (b:Int):Wy0 (Int):=.i (decide (a<b)) (.k (-1:Int)) (.i (decide (a>b)) (.k 1) (.k 0))
def zcM (a:Int) (b:Int):=(zPl a b).fin default
def zls:=zh zTs λx=>((zcM x.1 x.2.1).1,zOz (zcM x.1 x.2.1).2)
theorem znm:SdP 129 zls:=
 sT (cx':=z2w) (zi trivial) call129 func129 (lOK aN)
abbrev zvR:=yB×yB×Int×Unit
abbrev zKG:=Int⊕(yB×yB)
def zUX (zbh:yC->yC->Bool×Int) (a:yB) (b:yB) (i:Int):Wy zvR Unit zKG:=.i (decide (i<Int.ofNat a.length)) (.i (decide (i<Int.ofNat b.length)) (.i (decide (0<=i)&&decide (i<Int.ofNat a.length)) (.i (decide (0<=i)&&decide (i<Int.ofNat b.length)) (.bn (zbh (a.getD i.toNat default).Fs (b.getD i.toNat default).Fs) λr1=>.i (r1 != 0) (.k (.inl (r1))) (.i (decide (0<=i)&&decide (i<Int.ofNat a.length)) (.i (decide (0<=i)&&decide (i<Int.ofNat b.length)) (.bn (zcM (a.getD i.toNat default).Cf (b.getD i.toNat default).Cf) λr0=>.i (r0 != 0) (.k (.inl (r0))) (.h (a,b,(IntKind.i64.wrap (i+1)),()) ())) .d) .d)) .d) .d) (.k (.inr (a,b)))) (.k (.inr (a,b)))
def zGx (zbh:yC->yC->Bool×Int) (x:zvR) (y:Unit):=zUX zbh x.1 x.2.1 x.2.2.1
def zUN (zbh:yC->yC->Bool×Int) (n:Nat) (a:yB) (b:yB) (i:Int):=zB (zGx zbh) (.inl default) n (a,b,i,()) ()
def zUd (r:zKG):LTree ty:=.ite (isL r) (.done .ret [.lit (.int .i64 (getL r))] []) (.done (.exit 0) [.sl 107 (getR r).1,.sl 107 (getR r).2] [])
def zXl:LL ty zvR:=za (lSl 107) (za (lSl 107) (za zj zl))
def zUz (x:zvR) (y:Unit):Nat:=(x.1.length+x.2.1.length+Int.toNat x.2.2.1+1)
def zGR (zbh:yC->yC->Bool×Int):=zbZ base 53 [(110,(zjy zbh)),(129,zls)] [] [(2,(kpL [0,1,5]))] [(2,1,(kpL [0,1])),(2,0,(kpL [4]))] [(2,spW zXl z6k (zGx zbh) (.inl default) zUd zUz)] []
theorem zUk (zbh:yC->yC->Bool×Int):zI (zGR zbh) (lp (body f76) 0):=zo (id:=2) (hl:=rfl)
def zYQ (zbh:yC->yC->Bool×Int) (a:yB) (b:yB):Wy0 (Int):=.bn (zUN zbh (a.length+b.length+Int.toNat 0+1) a b 0) λr5=>.i (isL r5) (.k (getL r5)) (.bn (zcM (Int.ofNat (getR r5).1.length) (Int.ofNat (getR r5).2.length)) λr4=>.k r4)
def zxX (zbh:yC->yC->Bool×Int) (a:yB) (b:yB):=(zYQ zbh a b).fin default
theorem zPJ (zbh:yC->yC->Bool×Int) (zK5:SdP 110 (zjy zbh)):SdP 76 (zee (zxX zbh)):=
 sT (cx':=(zGR zbh)) (zi ⟨zK5,znm,trivial⟩) call76 func76 (lOK (aC (zUk zbh) aN))
def zTH:=zbv base 19 [(129,zls)]
def zF4 (a:RowID) (b:RowID):Wy0 (Int):=.bn (zcM a.Table b.Table) λr1=>.i (r1 != 0) (.k r1) (.bn (zcM a.Seq b.Seq) λr0=>.k r0)
def zqG (a:RowID) (b:RowID):=(zF4 a b).fin default
def zW2:AL base (RowID×RowID×Unit):=zd (ze (zbX 63)) (zd (ze (zbX 63)) zr)
def zCj:=zh zW2 λx=>((zqG x.1 x.2.1).1,zOz (zqG x.1 x.2.1).2)
theorem zOm:SdP 189 zCj:=
 sT (cx':=zTH) (zi ⟨znm,trivial⟩) call189 func189 (lOK aN)
abbrev zpe:=Unit×Unit×Int×Unit
abbrev zpm:=At×At×Unit
abbrev zDx:=Int⊕(At×At)
def zty (zR:yB->yB->Bool×Int) (zbs:yD->yD->Bool×Int) (i:Int) (a:At) (b:At):Wy zpe zpm zDx:=.i (decide (i<Int.ofNat a.Ag.length)) (.i (decide (i<Int.ofNat b.Ag.length)) (.i (decide (0<=i)&&decide (i<Int.ofNat a.Ag.length)) (.i (decide (0<=i)&&decide (i<Int.ofNat b.Ag.length)) (.bn (zR (a.Ag.getD i.toNat default) (b.Ag.getD i.toNat default)) λr0=>.i (r0 != 0) (.k (.inl (r0))) (.h ((),(),(IntKind.i64.wrap (i+1)),()) (a,b,()))) .d) .d) (.k (.inr (a,b)))) (.k (.inr (a,b)))
def zAy (zR:yB->yB->Bool×Int) (zbs:yD->yD->Bool×Int) (x:zpe) (y:zpm):=zty zR zbs x.2.2.1 y.1 y.2.1
def ztJ (zR:yB->yB->Bool×Int) (zbs:yD->yD->Bool×Int) (n:Nat) (i:Int) (a:At) (b:At):=zB (zAy zR zbs) (.inl default) n ((),(),i,()) (a,b,())
def zMi (r:zDx):LTree ty:=.ite (isL r) (.done .ret [.lit (.int .i64 (getL r))] []) (.done (.exit 0) [.ptr 384 0,.ptr 385 0] [.box (base.enc 143 (getR r).1) false,.box (base.enc 143 (getR r).2) false])
def zNP:LL ty zpe:=za (zcI 384 0) (za (zcI 385 0) (za zj zl))
def zNx:BL ty zpm:=zd7 (zdv (λx=>(⟨x.1,⟨x.2.1,x.2.2.1⟩,x.2.2.2.1,x.2.2.2.2.1,x.2.2.2.2.2.1,x.2.2.2.2.2.2.1,⟨x.2.2.2.2.2.2.2.1,x.2.2.2.2.2.2.2.2.1,x.2.2.2.2.2.2.2.2.2.1⟩⟩:At)) (λx=>(x.Kind,x.Row.Table,x.Row.Seq,x.Ag,x.Func,x.Items,x.Op,x.Bd.Kind,x.Bd.Int,x.Bd.Text,())) (λ_=>rfl) (za (zT .i64) (za (zT .i64) (za (zT .i64) (za (lSl 51) (za (zT .i64) (za (lSl 169) (za (zT .i64) (za (zT .i64) (za (zT .i64) (za ztx zl))))))))))) false (zd7 (zdv (λx=>(⟨x.1,⟨x.2.1,x.2.2.1⟩,x.2.2.2.1,x.2.2.2.2.1,x.2.2.2.2.2.1,x.2.2.2.2.2.2.1,⟨x.2.2.2.2.2.2.2.1,x.2.2.2.2.2.2.2.2.1,x.2.2.2.2.2.2.2.2.2.1⟩⟩:At)) (λx=>(x.Kind,x.Row.Table,x.Row.Seq,x.Ag,x.Func,x.Items,x.Op,x.Bd.Kind,x.Bd.Int,x.Bd.Text,())) (λ_=>rfl) (za (zT .i64) (za (zT .i64) (za (zT .i64) (za (lSl 51) (za (zT .i64) (za (lSl 169) (za (zT .i64) (za (zT .i64) (za (zT .i64) (za ztx zl))))))))))) false (zbe))
def zLP (x:zpe) (y:zpm):Nat:=(Int.toNat x.2.2.1+y.1.Ag.length+y.1.Items.length+y.2.1.Ag.length+y.2.1.Items.length+1)
def zAG (zR:yB->yB->Bool×Int) (zbs:yD->yD->Bool×Int):=zbZ base 96 [(76,(zee zR)),(113,zsx),(129,zls),(188,(zlq zbs)),(189,zCj)] [] [(8,(kpL [2,3,7]))] [(8,1,(kpL [2,3])),(8,0,(kpL [4]))] [(8,spW zNP zNx (zAy zR zbs) (.inl default) zMi zLP)] []
theorem zL8 (zR:yB->yB->Bool×Int) (zbs:yD->yD->Bool×Int):zI (zAG zR zbs) (lp (body f112) 0):=zo (id:=8) (hl:=rfl)
def zCd (zR:yB->yB->Bool×Int) (zbs:yD->yD->Bool×Int) (a:At) (b:At):Wy0 (Int):=.bn (zcM a.Kind b.Kind) λr9=>.i (r9 != 0) (.k r9) (.bn (zqG a.Row b.Row) λr8=>.i (r8 != 0) (.k r8) (.bn (ztJ zR zbs (Int.toNat 0+a.Ag.length+a.Items.length+b.Ag.length+b.Items.length+1) 0 (At.mk a.Kind a.Row a.Ag a.Func a.Items a.Op a.Bd) (At.mk b.Kind b.Row b.Ag b.Func b.Items b.Op b.Bd)) λr7=>.i (isL r7) (.k (getL r7)) (.bn (zcM (Int.ofNat (getR r7).1.Ag.length) (Int.ofNat (getR r7).2.Ag.length)) λr6=>.i (r6 != 0) (.k r6) (.bn (zcM (getR r7).1.Func (getR r7).2.Func) λr5=>.i (r5 != 0) (.k r5) (.bn (zbs (getR r7).1.Items (getR r7).2.Items) λr4=>.i (r4 != 0) (.k r4) (.bn (zcM (getR r7).1.Op (getR r7).2.Op) λr3=>.i (r3 != 0) (.k r3) (.bn (zjL (getR r7).1.Bd (getR r7).2.Bd) λr2=>.k r2)))))))
def zlY (zR:yB->yB->Bool×Int) (zbs:yD->yD->Bool×Int) (a:At) (b:At):=(zCd zR zbs a b).fin default
theorem zJv (zR:yB->yB->Bool×Int) (zbs:yD->yD->Bool×Int) (zAc:SdP 76 (zee zR)) (zOr:SdP 188 (zlq zbs)):SdP 112 (zhj (zlY zR zbs)):=
 sT (cx':=(zAG zR zbs)) (zi ⟨zAc,zxq,znm,zOr,zOm,trivial⟩) call112 func112 (lOK (aC (zL8 zR zbs) aN))
abbrev zlV:=yC×yC×Int×Unit
abbrev zzV:=Int⊕(yC×yC)
def zx6 (zbz:At->At->Bool×Int) (a:yC) (b:yC) (i:Int):Wy zlV Unit zzV:=.i (decide (i<Int.ofNat a.length)) (.i (decide (i<Int.ofNat b.length)) (.i (decide (0<=i)&&decide (i<Int.ofNat a.length)) (.i (decide (0<=i)&&decide (i<Int.ofNat b.length)) (.bn (zbz (At.mk (a.getD i.toNat default).At.Kind (a.getD i.toNat default).At.Row (a.getD i.toNat default).At.Ag (a.getD i.toNat default).At.Func (a.getD i.toNat default).At.Items (a.getD i.toNat default).At.Op (a.getD i.toNat default).At.Bd) (At.mk (b.getD i.toNat default).At.Kind (b.getD i.toNat default).At.Row (b.getD i.toNat default).At.Ag (b.getD i.toNat default).At.Func (b.getD i.toNat default).At.Items (b.getD i.toNat default).At.Op (b.getD i.toNat default).At.Bd)) λr1=>.i (r1 != 0) (.k (.inl (r1))) (.i (decide (0<=i)&&decide (i<Int.ofNat a.length)) (.i (decide (0<=i)&&decide (i<Int.ofNat b.length)) (.bn (zcM (a.getD i.toNat default).Exp (b.getD i.toNat default).Exp) λr0=>.i (r0 != 0) (.k (.inl (r0))) (.h (a,b,(IntKind.i64.wrap (i+1)),()) ())) .d) .d)) .d) .d) (.k (.inr (a,b)))) (.k (.inr (a,b)))
def zko (zbz:At->At->Bool×Int) (x:zlV) (y:Unit):=zx6 zbz x.1 x.2.1 x.2.2.1
def zxQ (zbz:At->At->Bool×Int) (n:Nat) (a:yC) (b:yC) (i:Int):=zB (zko zbz) (.inl default) n (a,b,i,()) ()
def zHV (r:zzV):LTree ty:=.ite (isL r) (.done .ret [.lit (.int .i64 (getL r))] []) (.done (.exit 0) [.sl 145 (getR r).1,.sl 145 (getR r).2] [])
def zIO:LL ty zlV:=za (lSl 145) (za (lSl 145) (za zj zl))
def zH6 (x:zlV) (y:Unit):Nat:=(x.1.length+x.2.1.length+Int.toNat x.2.2.1+1)
def zx2 (zbz:At->At->Bool×Int):=zbZ base 53 [(112,(zhj zbz)),(129,zls)] [] [(2,(kpL [0,1,5]))] [(2,1,(kpL [0,1])),(2,0,(kpL [4]))] [(2,spW zIO z6k (zko zbz) (.inl default) zHV zH6)] []
theorem zIj (zbz:At->At->Bool×Int):zI (zx2 zbz) (lp (body f110) 0):=zo (id:=2) (hl:=rfl)
def zyU (zbz:At->At->Bool×Int) (a:yC) (b:yC):Wy0 (Int):=.bn (zxQ zbz (a.length+b.length+Int.toNat 0+1) a b 0) λr5=>.i (isL r5) (.k (getL r5)) (.bn (zcM (Int.ofNat (getR r5).1.length) (Int.ofNat (getR r5).2.length)) λr4=>.k r4)
def zjA (zbz:At->At->Bool×Int) (a:yC) (b:yC):=(zyU zbz a b).fin default
theorem zFu (zbz:At->At->Bool×Int) (zQt:SdP 112 (zhj zbz)):SdP 110 (zjy (zjA zbz)):=
 sT (cx':=(zx2 zbz)) (zi ⟨zQt,znm,trivial⟩) call110 func110 (lOK (aC (zIj zbz) aN))
abbrev znQ:=yD×yD×Int×Unit
abbrev zCk:=Int⊕(yD×yD)
def zL3 (zR:yB->yB->Bool×Int) (a:yD) (b:yD) (i:Int):Wy znQ Unit zCk:=.i (decide (i<Int.ofNat a.length)) (.i (decide (i<Int.ofNat b.length)) (.i (decide (0<=i)&&decide (i<Int.ofNat a.length)) (.i (decide (0<=i)&&decide (i<Int.ofNat b.length)) (.bn (zjL (a.getD i.toNat default).Value (b.getD i.toNat default).Value) λr1=>.i (r1 != 0) (.k (.inl (r1))) (.i (decide (0<=i)&&decide (i<Int.ofNat a.length)) (.i (decide (0<=i)&&decide (i<Int.ofNat b.length)) (.bn (zR (a.getD i.toNat default).Ann (b.getD i.toNat default).Ann) λr0=>.i (r0 != 0) (.k (.inl (r0))) (.h (a,b,(IntKind.i64.wrap (i+1)),()) ())) .d) .d)) .d) .d) (.k (.inr (a,b)))) (.k (.inr (a,b)))
def zzG (zR:yB->yB->Bool×Int) (x:znQ) (y:Unit):=zL3 zR x.1 x.2.1 x.2.2.1
def zLS (zR:yB->yB->Bool×Int) (n:Nat) (a:yD) (b:yD) (i:Int):=zB (zzG zR) (.inl default) n (a,b,i,()) ()
def zLF (r:zCk):LTree ty:=.ite (isL r) (.done .ret [.lit (.int .i64 (getL r))] []) (.done (.exit 0) [.sl 169 (getR r).1,.sl 169 (getR r).2] [])
def zMw:LL ty znQ:=za (lSl 169) (za (lSl 169) (za zj zl))
def zKM (x:znQ) (y:Unit):Nat:=(x.1.length+x.2.1.length+Int.toNat x.2.2.1+1)
def zzU (zR:yB->yB->Bool×Int):=zbZ base 53 [(76,(zee zR)),(113,zsx),(129,zls)] [] [(2,(kpL [0,1,5]))] [(2,1,(kpL [0,1])),(2,0,(kpL [4]))] [(2,spW zMw z6k (zzG zR) (.inl default) zLF zKM)] []
theorem zJS (zR:yB->yB->Bool×Int):zI (zzU zR) (lp (body f188) 0):=zo (id:=2) (hl:=rfl)
def zOq (zR:yB->yB->Bool×Int) (a:yD) (b:yD):Wy0 (Int):=.bn (zLS zR (a.length+b.length+Int.toNat 0+1) a b 0) λr5=>.i (isL r5) (.k (getL r5)) (.bn (zcM (Int.ofNat (getR r5).1.length) (Int.ofNat (getR r5).2.length)) λr4=>.k r4)
def zpy (zR:yB->yB->Bool×Int) (a:yD) (b:yD):=(zOq zR a b).fin default
theorem zH5 (zR:yB->yB->Bool×Int) (zAc:SdP 76 (zee zR)):SdP 188 (zlq (zpy zR)):=
 sT (cx':=(zzU zR)) (zi ⟨zAc,zxq,znm,trivial⟩) call188 func188 (lOK (aC (zJS zR) aN))
def zkI:Nat->(yB->yB->Bool×Int)×(yC->yC->Bool×Int)×(At->At->Bool×Int)×(yD->yD->Bool×Int)
 | 0=>(λ_ _=>(false,default),λ_ _=>(false,default),λ_ _=>(false,default),λ_ _=>(false,default))
 | n+1=>(zxX ((zkI n).2.1),zjA ((zkI n).2.2.1),zlY ((zkI n).1) ((zkI n).2.2.2),zpy ((zkI n).1))
def zn0 (n:Nat):yB->yB->Bool×Int:=(zkI n).1
def zjE (n:Nat):yC->yC->Bool×Int:=(zkI n).2.1
def zlZ (n:Nat):At->At->Bool×Int:=(zkI n).2.2.1
def zk9 (n:Nat):yD->yD->Bool×Int:=(zkI n).2.2.2
theorem zVB (n:Nat):zn0 (n+1)=zxX (zjE n):=rfl
theorem zIT (n:Nat):zjE (n+1)=zjA (zlZ n):=rfl
theorem zNN (n:Nat):zlZ (n+1)=zlY (zn0 n) (zk9 n):=rfl
theorem zLU (n:Nat):zk9 (n+1)=zpy (zn0 n):=rfl
theorem zup:∀ n,SdP 76 (zee (zn0 n))/\SdP 110 (zjy (zjE n))/\SdP 112 (zhj (zlZ n))/\SdP 188 (zlq (zk9 n))
 | 0=>⟨zbk call76 (λ_=>rfl),zbk call110 (λ_=>rfl),zbk call112 (λ_=>rfl),zbk call188 (λ_=>rfl)⟩
 | n+1=>by
  have ih:=zup n;exact ⟨zPJ _ (ih.2.1),zFu _ (ih.2.2.1),zJv _ _ (ih.1) (ih.2.2.2),zH5 _ (ih.1)⟩
def zHO:yB->yB->Bool×Int:=zn0 1000
def zHd:Ab.Spec ty:=zee zHO
theorem zT6:SdP 76 zHd:=(zup 1000).1
def zkO:yC->yC->Bool×Int:=zjE 1000
def zpl:Ab.Spec ty:=zjy zkO
theorem zwz:SdP 110 zpl:=(zup 1000).2.1
def zlw:At->At->Bool×Int:=zlZ 1000
def zAz:Ab.Spec ty:=zhj zlw
theorem zMr:SdP 112 zAz:=(zup 1000).2.2.1
def zs5:yD->yD->Bool×Int:=zk9 1000
def zzT:Ab.Spec ty:=zlq zs5
theorem zKQ:SdP 188 zzT:=(zup 1000).2.2.2
def z6i:=zbv base 9 [(76,zHd)]
def zV0 (a:yB) (b:yB):Wy0 (Bool):=.bn (zHO a b) λr0=>.k (r0==0)
def zpB (a:yB) (b:yB):=(zV0 a b).fin default
def zDZ:=zh zRo λx=>((zpB x.1 x.2.1).1,zUI (zpB x.1 x.2.1).2)
theorem zKN:SdP 33 zDZ:=
 sT (cx':=z6i) (zi ⟨zT6,trivial⟩) call33 func33 (lOK aN)
abbrev zs6:=yF×yF×Int×Unit
def zoR (a:yF) (b:yF) (i:Int):Wy zs6 Unit (Bool⊕Unit):=.i (decide (i<Int.ofNat a.length)) (.i (decide (0<=i)&&decide (i<Int.ofNat a.length)) (.i (decide (0<=i)&&decide (i<Int.ofNat b.length)) (.bn (zzC (a.getD i.toNat default).Values (b.getD i.toNat default).Values) λr1=>.i (!r1) (.k (.inl false)) (.i (decide (0<=i)&&decide (i<Int.ofNat a.length)) (.i (decide (0<=i)&&decide (i<Int.ofNat b.length)) (.bn (zpB (a.getD i.toNat default).Ann (b.getD i.toNat default).Ann) λr0=>.i (!r0) (.k (.inl false)) (.h (a,b,(IntKind.i64.wrap (i+1)),()) ())) .d) .d)) .d) .d) (.k (.inr ()))
def zAe (x:zs6) (y:Unit):=zoR x.1 x.2.1 x.2.2.1
def zIN (n:Nat) (a:yF) (b:yF) (i:Int):=zB (zAe) (.inl default) n (a,b,i,()) ()
def zYq:LL ty zs6:=za (lSl 54) (za (lSl 54) (za zj zl))
def zVR (x:zs6) (y:Unit):Nat:=(x.1.length+x.2.1.length+Int.toNat x.2.2.1+1)
def zIw:=zbZ base 43 [(31,zC4),(33,zDZ)] [] [(4,(kpL [0,1,5]))] [(4,1,[]),(4,0,(kpL [4]))] [(4,spW zYq z6k (zAe) (.inl default) znl zVR)] []
theorem zWw:zI zIw (lp (body f24) 0):=zo (id:=4) (hl:=rfl)
def zKt (a:yF) (b:yF):Wy0 (Bool):=.i (Int.ofNat a.length != Int.ofNat b.length) (.k false) (.bn (zIN (a.length+b.length+Int.toNat 0+1) a b 0) λr4=>.i (isL r4) (.k (getL r4)) (.k true))
def zuT (a:yF) (b:yF):=(zKt a b).fin default
def zZ5:AL base (yF×yF×Unit):=zd (ze (vSl 54)) (zd (ze (vSl 54)) zr)
def zED:=zh zZ5 λx=>((zuT x.1 x.2.1).1,zUI (zuT x.1 x.2.1).2)
theorem zQU:SdP 24 zED:=
 sT (cx':=zIw) (zi ⟨zKO,zKN,trivial⟩) call24 func24 (lOK (aC zWw aN))
def z6L:=zbv base 17 [(23,zAW),(24,zED)]
def zVM (a:Relation) (b:Relation):Wy0 (Bool):=.bn (zoL a.Columns b.Columns) λr1=>.i (r1) (.bn (zuT a.Rows b.Rows) λr0=>.k r0) (.k false)
def zDn (a:Relation) (b:Relation):=(zVM a b).fin default
def zMG:=zh z0t λx=>((zDn x.1 x.2.1).1,zUI (zDn x.1 x.2.1).2)
theorem zZ2:SdP 17 zMG:=
 sT (cx':=z6L) (zi ⟨zLR,zQU,trivial⟩) call17 func17 (lOK aN)
def z6q:=zbv base 17 [(17,zMG)]
def zV5 (a:Relation) (e:Int) (b:Relation) (f:Int):Wy0 (Bool):=.i (e==f) (.bn (zDn a b) λr0=>.k r0) (.k false)
def zwi (a:Relation) (e:Int) (b:Relation) (f:Int):=(zV5 a e b f).fin default
def z79:AL base (Relation×Int×Relation×Int×Unit):=zd (ze (zbX 25)) (zd (ze zgq) (zd (ze (zbX 25)) (zd (ze zgq) zr)))
def zNk:=zh z79 λx=>((zwi x.1 x.2.1 x.2.2.1 x.2.2.2.1).1,zUI (zwi x.1 x.2.1 x.2.2.1 x.2.2.2.1).2)
theorem zZO:SdP 25 zNk:=
 sT (cx':=z6q) (zi ⟨zZ2,trivial⟩) call25 func25 (lOK aN)
end Go.Proofs.YtoknknbmfmddbaaGreatDoor
/- What lies inside lists of terms and factors: fuel for loops. -/
namespace Go.Proofs.YtoknknbmfmddbaaGreatDoor
open Go.Proofs.Tryz
def z7M:yC->Nat
 | []=>0
 | f::r=>f.Exp.toNat +f.At.Ag.length+f.At.Items.length+1+z7M r
def zd5:yB->Nat
 | []=>0
 | t::r=>z7M t.Fs+1+zd5 r
end Go.Proofs.YtoknknbmfmddbaaGreatDoor
namespace Go.Proofs.YtoknknbmfmddbaaGreatDoor
open Go Go.Ab
open Go.Proofs.Tryz
abbrev zh4:=yB×Int×Int×Int×Unit×Int×Int×Unit
abbrev zLA:=yB×Int×Int×Int×Int×At
abbrev zLd:=yB×Int×Int×Int×Int
abbrev zwd:=yB×Int×Int×Int×Unit
abbrev zK7:=yB×Int×Int
abbrev zv1:=yB×Int×Int×Unit
def zmh (zC:yB->Bool×Int) (a:yB) (most:Int) (i:Int) (k:Int) (n_:Int) (j:Int) (x_:At):Wy zh4 (At×Unit) zLA:=.i (decide (j<Int.ofNat x_.Ag.length)) (.i (decide (0<=j)&&decide (j<Int.ofNat x_.Ag.length)) (.bn (zC (x_.Ag.getD j.toNat default)) λr0=>.h (a,most,i,k,(),(if IntKind.i64.wrap (1+r0)>n_ then IntKind.i64.wrap (1+r0) else n_),(IntKind.i64.wrap (j+1)),()) (x_,())) .d) (.k (a,most,i,k,n_,x_))
def zxp (zC:yB->Bool×Int) (x:zh4) (y:At×Unit):=zmh zC x.1 x.2.1 x.2.2.1 x.2.2.2.1 x.2.2.2.2.2.1 x.2.2.2.2.2.2.1 y.1
def zxz (zC:yB->Bool×Int) (n:Nat) (a:yB) (most:Int) (i:Int) (k:Int) (n_:Int) (j:Int) (x_:At):=zB (zxp zC) default n (a,most,i,k,(),n_,j,()) (x_,())
def zQ5 (r:zLA):LTree ty:=.done (.exit 4) [.sl 107 r.1,.lit (.int .i64 r.2.1),.lit (.int .i64 r.2.2.1),.lit (.int .i64 r.2.2.2.1),.ptr 300 0,.lit (.int .i64 r.2.2.2.2.1)] [.box (base.enc 143 r.2.2.2.2.2) false]
def zUq:LL ty zh4:=za (lSl 107) (za zj (za zj (za zj (za (zcI 300 0) (za zj (za zj zl))))))
def zTT:BL ty (At×Unit):=zd7 (zdv (λx=>(⟨x.1,⟨x.2.1,x.2.2.1⟩,x.2.2.2.1,x.2.2.2.2.1,x.2.2.2.2.2.1,x.2.2.2.2.2.2.1,⟨x.2.2.2.2.2.2.2.1,x.2.2.2.2.2.2.2.2.1,x.2.2.2.2.2.2.2.2.2.1⟩⟩:At)) (λx=>(x.Kind,x.Row.Table,x.Row.Seq,x.Ag,x.Func,x.Items,x.Op,x.Bd.Kind,x.Bd.Int,x.Bd.Text,())) (λ_=>rfl) (za (zT .i64) (za (zT .i64) (za (zT .i64) (za (lSl 51) (za (zT .i64) (za (lSl 169) (za (zT .i64) (za (zT .i64) (za (zT .i64) (za ztx zl))))))))))) false (zbe)
def zma (zC:yB->Bool×Int) (a:yB) (most:Int) (i:Int) (k:Int) (n_:Int) (j:Int) (x_:At):Wy zh4 (At×Unit) zLd:=.i (decide (j<Int.ofNat x_.Items.length)) (.i (decide (0<=j)&&decide (j<Int.ofNat x_.Items.length)) (.bn (zC (x_.Items.getD j.toNat default).Ann) λr2=>.h (a,most,i,k,(),(if IntKind.i64.wrap (1+r2)>n_ then IntKind.i64.wrap (1+r2) else n_),(IntKind.i64.wrap (j+1)),()) (x_,())) .d) (.k (a,most,i,k,n_))
def zxI (zC:yB->Bool×Int) (x:zh4) (y:At×Unit):=zma zC x.1 x.2.1 x.2.2.1 x.2.2.2.1 x.2.2.2.2.2.1 x.2.2.2.2.2.2.1 y.1
def zEP (zC:yB->Bool×Int) (n:Nat) (a:yB) (most:Int) (i:Int) (k:Int) (n_:Int) (j:Int) (x_:At):=zB (zxI zC) default n (a,most,i,k,(),n_,j,()) (x_,())
def zRT (r:zLd):LTree ty:=.done (.exit 6) [.sl 107 r.1,.lit (.int .i64 r.2.1),.lit (.int .i64 r.2.2.1),.lit (.int .i64 r.2.2.2.1),.lit (.int .i64 r.2.2.2.2)] []
def znq (zC:yB->Bool×Int) (a:yB) (most:Int) (i:Int) (k:Int):Wy zwd Unit zK7:=.i (decide (0<=i)&&decide (i<Int.ofNat a.length)) (.i (decide (k<Int.ofNat (a.getD i.toNat default).Fs.length)) (.i (decide (0<=i)&&decide (i<Int.ofNat a.length)) (.i (decide (0<=k)&&decide (k<Int.ofNat (a.getD i.toNat default).Fs.length)) (.i (((a.getD i.toNat default).Fs.getD k.toNat default).At.Kind==0) (.h (a,most,i,(IntKind.i64.wrap (k+1)),()) ()) (.bn (zxz zC ((a.length+most.toNat +i.toNat +k.toNat +Int.toNat 1+Int.toNat 0+((a.getD i.toNat default).Fs.getD k.toNat default).At.Ag.length+((a.getD i.toNat default).Fs.getD k.toNat default).At.Items.length+1)+zd5 a) a most i k 1 0 (At.mk ((a.getD i.toNat default).Fs.getD k.toNat default).At.Kind ((a.getD i.toNat default).Fs.getD k.toNat default).At.Row ((a.getD i.toNat default).Fs.getD k.toNat default).At.Ag ((a.getD i.toNat default).Fs.getD k.toNat default).At.Func ((a.getD i.toNat default).Fs.getD k.toNat default).At.Items ((a.getD i.toNat default).Fs.getD k.toNat default).At.Op ((a.getD i.toNat default).Fs.getD k.toNat default).At.Bd)) λr5=>.bn (zEP zC ((r5.1.length+r5.2.1.toNat +r5.2.2.1.toNat +r5.2.2.2.1.toNat +r5.2.2.2.2.1.toNat +Int.toNat 0+r5.2.2.2.2.2.Ag.length+r5.2.2.2.2.2.Items.length+1)+zd5 r5.1) r5.1 r5.2.1 r5.2.2.1 r5.2.2.2.1 r5.2.2.2.2.1 0 (At.mk r5.2.2.2.2.2.Kind r5.2.2.2.2.2.Row r5.2.2.2.2.2.Ag r5.2.2.2.2.2.Func r5.2.2.2.2.2.Items r5.2.2.2.2.2.Op r5.2.2.2.2.2.Bd)) λr4=>.h ((r4.1),(if r4.2.2.2.2>r4.2.1 then r4.2.2.2.2 else r4.2.1),(r4.2.2.1),(IntKind.i64.wrap (r4.2.2.2.1+1)),()) ())) .d) .d) (.k (a,most,i))) .d
def zyt (zC:yB->Bool×Int) (x:zwd) (y:Unit):=znq zC x.1 x.2.1 x.2.2.1 x.2.2.2.1
def zGU (zC:yB->Bool×Int) (n:Nat) (a:yB) (most:Int) (i:Int) (k:Int):=zB (zyt zC) default n (a,most,i,k,()) ()
def zUu (r:zK7):LTree ty:=.done (.exit 2) [.sl 107 r.1,.lit (.int .i64 r.2.1),.lit (.int .i64 r.2.2)] []
def zUZ:LL ty zwd:=za (lSl 107) (za zj (za zj (za zj zl)))
def zmX (zC:yB->Bool×Int) (a:yB) (most:Int) (i:Int):Wy zv1 Unit (Int):=.i (decide (i<Int.ofNat a.length)) (.bn (zGU zC ((a.length+most.toNat +i.toNat +Int.toNat 0+1)+zd5 a) a most i 0) λr8=>.h ((r8.1),(r8.2.1),(IntKind.i64.wrap (r8.2.2+1)),()) ()) (.k most)
def zyJ (zC:yB->Bool×Int) (x:zv1) (y:Unit):=zmX zC x.1 x.2.1 x.2.2.1
def zGb (zC:yB->Bool×Int) (n:Nat) (a:yB) (most:Int) (i:Int):=zB (zyJ zC) default n (a,most,i,()) ()
def zVL:LL ty zv1:=za (lSl 107) (za zj (za zj zl))
def zRg (x:zh4) (y:At×Unit):Nat:=((x.1.length+Int.toNat x.2.1+Int.toNat x.2.2.1+Int.toNat x.2.2.2.1+Int.toNat x.2.2.2.2.2.1+Int.toNat x.2.2.2.2.2.2.1+y.1.Ag.length+y.1.Items.length+1)+zd5 x.1)
def zUv (x:zwd) (y:Unit):Nat:=((x.1.length+Int.toNat x.2.1+Int.toNat x.2.2.1+Int.toNat x.2.2.2.1+1)+zd5 x.1)
def zUm (x:zv1) (y:Unit):Nat:=((x.1.length+Int.toNat x.2.1+Int.toNat x.2.2.1+1)+zd5 x.1)
def znk (zC:yB->Bool×Int):=zbZ base 75 [(182,(zoQ zC))] [] [(3,(kpL [0,3,4])),(6,(kpL [0,3,4,5])),(12,(kpL [0,3,4,5,6,7,8])),(16,(kpL [0,3,4,5,6,7,9]))] [(3,1,(kpL [3])),(6,3,(kpL [0,3,4])),(12,5,(kpL [0,3,4,5,6,7])),(16,7,(kpL [0,3,4,5,7]))] [(12,spW zUq zTT (zxp zC) default zQ5 zRg),(16,spW zUq zTT (zxI zC) default zRT zRg),(6,spW zUZ z6k (zyt zC) default zUu zUv),(3,spW zVL z6k (zyJ zC) default zO0 zUm)] []
theorem zQW (zC:yB->Bool×Int):zI (znk zC) (lp (body f182) 2):=zo (id:=12) (hl:=rfl)
theorem zRM (zC:yB->Bool×Int):zI (znk zC) (lp (body f182) 3):=zo (id:=16) (hl:=rfl)
theorem zUw (zC:yB->Bool×Int):zI (znk zC) (lp (body f182) 1):=zo (id:=6) (hl:=rfl)
theorem zUG (zC:yB->Bool×Int):zI (znk zC) (lp (body f182) 0):=zo (id:=3) (hl:=rfl)
def zIJ (zC:yB->Bool×Int) (a:yB):Wy0 (Int):=.bn (zGb zC ((a.length+Int.toNat 0+Int.toNat 0+1)+zd5 a) a 0 0) λr10=>.k r10
def zxV (zC:yB->Bool×Int) (a:yB):=(zIJ zC a).fin default
theorem zPm (zC:yB->Bool×Int) (zX8:SdP 182 (zoQ zC)):SdP 182 (zoQ (zxV zC)):=
 sT (cx':=(znk zC)) (zi ⟨zX8,trivial⟩) call182 func182 (lOK (aC (zUG zC) (aC (zUw zC) (aC (zQW zC) (aC (zRM zC) aN)))))
def zV3:Nat->(yB->Bool×Int)
 | 0=>λ_=>(false,default)
 | n+1=>zxV (zV3 n)
def zkS (n:Nat):yB->Bool×Int:=zV3 n
theorem zVJ (n:Nat):zkS (n+1)=zxV (zkS n):=rfl
theorem zQl:∀ n,SdP 182 (zoQ (zkS n))
 | 0=>zbk call182 (λ_=>rfl)
 | n+1=>by
  have ih:=zQl n;exact zPm _ (ih)
def zHP:yB->Bool×Int:=zkS 1000
def zGC:Ab.Spec ty:=zoQ zHP
theorem zTE:SdP 182 zGC:=(zQl 1000)
abbrev zlA:=yB×Int×Int×Int×Unit×Int×Unit
abbrev zTa:=yB×Int×Int×Int×At
abbrev zS8:=yB×Int×Int×Int
abbrev zA3:=yB×Int×Int×Int×Unit
abbrev zTc:=yB×Int×Int
abbrev zA1:=yB×Int×Int×Unit
def zre (zQ:yB->Bool×Int) (a:yB) (n_:Int) (i:Int) (k:Int) (j:Int) (x_:At):Wy zlA (At×Unit) zTa:=.i (decide (j<Int.ofNat x_.Ag.length)) (.i (decide (0<=j)&&decide (j<Int.ofNat x_.Ag.length)) (.bn (zQ (x_.Ag.getD j.toNat default)) λr0=>.h (a,(IntKind.i64.wrap (n_+r0)),i,k,(),(IntKind.i64.wrap (j+1)),()) (x_,())) .d) (.k (a,n_,i,k,x_))
def zBj (zQ:yB->Bool×Int) (x:zlA) (y:At×Unit):=zre zQ x.1 x.2.1 x.2.2.1 x.2.2.2.1 x.2.2.2.2.2.1 y.1
def zKS (zQ:yB->Bool×Int) (n:Nat) (a:yB) (n_:Int) (i:Int) (k:Int) (j:Int) (x_:At):=zB (zBj zQ) default n (a,n_,i,k,(),j,()) (x_,())
def zYo (r:zTa):LTree ty:=.done (.exit 4) [.sl 107 r.1,.lit (.int .i64 r.2.1),.lit (.int .i64 r.2.2.1),.lit (.int .i64 r.2.2.2.1),.ptr 284 0] [.box (base.enc 143 r.2.2.2.2) false]
def z0P:LL ty zlA:=za (lSl 107) (za zj (za zj (za zj (za (zcI 284 0) (za zj zl)))))
def zqL (zQ:yB->Bool×Int) (a:yB) (n_:Int) (i:Int) (k:Int) (j:Int) (x_:At):Wy zlA (At×Unit) zS8:=.i (decide (j<Int.ofNat x_.Items.length)) (.i (decide (0<=j)&&decide (j<Int.ofNat x_.Items.length)) (.bn (zQ (x_.Items.getD j.toNat default).Ann) λr2=>.h (a,(IntKind.i64.wrap (IntKind.i64.wrap (n_+1)+r2)),i,k,(),(IntKind.i64.wrap (j+1)),()) (x_,())) .d) (.k (a,n_,i,k))
def zBx (zQ:yB->Bool×Int) (x:zlA) (y:At×Unit):=zqL zQ x.1 x.2.1 x.2.2.1 x.2.2.2.1 x.2.2.2.2.2.1 y.1
def zLw (zQ:yB->Bool×Int) (n:Nat) (a:yB) (n_:Int) (i:Int) (k:Int) (j:Int) (x_:At):=zB (zBx zQ) default n (a,n_,i,k,(),j,()) (x_,())
def zYG (r:zS8):LTree ty:=.done (.exit 6) [.sl 107 r.1,.lit (.int .i64 r.2.1),.lit (.int .i64 r.2.2.1),.lit (.int .i64 r.2.2.2)] []
def zs1 (zQ:yB->Bool×Int) (a:yB) (n_:Int) (i:Int) (k:Int):Wy zA3 Unit zTc:=.i (decide (0<=i)&&decide (i<Int.ofNat a.length)) (.i (decide (k<Int.ofNat (a.getD i.toNat default).Fs.length)) (.i (decide (0<=i)&&decide (i<Int.ofNat a.length)) (.i (decide (0<=k)&&decide (k<Int.ofNat (a.getD i.toNat default).Fs.length)) (.bn (zKS zQ ((a.length+(IntKind.i64.wrap (n_+1)).toNat +i.toNat +k.toNat +Int.toNat 0+((a.getD i.toNat default).Fs.getD k.toNat default).At.Ag.length+((a.getD i.toNat default).Fs.getD k.toNat default).At.Items.length+1)+zd5 a) a (IntKind.i64.wrap (n_+1)) i k 0 (At.mk ((a.getD i.toNat default).Fs.getD k.toNat default).At.Kind ((a.getD i.toNat default).Fs.getD k.toNat default).At.Row ((a.getD i.toNat default).Fs.getD k.toNat default).At.Ag ((a.getD i.toNat default).Fs.getD k.toNat default).At.Func ((a.getD i.toNat default).Fs.getD k.toNat default).At.Items ((a.getD i.toNat default).Fs.getD k.toNat default).At.Op ((a.getD i.toNat default).Fs.getD k.toNat default).At.Bd)) λr5=>.bn (zLw zQ ((r5.1.length+r5.2.1.toNat +r5.2.2.1.toNat +r5.2.2.2.1.toNat +Int.toNat 0+r5.2.2.2.2.Ag.length+r5.2.2.2.2.Items.length+1)+zd5 r5.1) r5.1 r5.2.1 r5.2.2.1 r5.2.2.2.1 0 (At.mk r5.2.2.2.2.Kind r5.2.2.2.2.Row r5.2.2.2.2.Ag r5.2.2.2.2.Func r5.2.2.2.2.Items r5.2.2.2.2.Op r5.2.2.2.2.Bd)) λr4=>.h ((r4.1),(r4.2.1),(r4.2.2.1),(IntKind.i64.wrap (r4.2.2.2+1)),()) ()) .d) .d) (.k (a,n_,i))) .d
def zC8 (zQ:yB->Bool×Int) (x:zA3) (y:Unit):=zs1 zQ x.1 x.2.1 x.2.2.1 x.2.2.2.1
def zM7 (zQ:yB->Bool×Int) (n:Nat) (a:yB) (n_:Int) (i:Int) (k:Int):=zB (zC8 zQ) default n (a,n_,i,k,()) ()
def z0p (r:zTc):LTree ty:=.done (.exit 2) [.sl 107 r.1,.lit (.int .i64 r.2.1),.lit (.int .i64 r.2.2)] []
def z1m:LL ty zA3:=za (lSl 107) (za zj (za zj (za zj zl)))
def zth (zQ:yB->Bool×Int) (a:yB) (n_:Int) (i:Int):Wy zA1 Unit (Int):=.i (decide (i<Int.ofNat a.length)) (.bn (zM7 zQ ((a.length+(IntKind.i64.wrap (n_+1)).toNat +i.toNat +Int.toNat 0+1)+zd5 a) a (IntKind.i64.wrap (n_+1)) i 0) λr8=>.h ((r8.1),(r8.2.1),(IntKind.i64.wrap (r8.2.2+1)),()) ()) (.k n_)
def zC7 (zQ:yB->Bool×Int) (x:zA1) (y:Unit):=zth zQ x.1 x.2.1 x.2.2.1
def zMO (zQ:yB->Bool×Int) (n:Nat) (a:yB) (n_:Int) (i:Int):=zB (zC7 zQ) default n (a,n_,i,()) ()
def z2M:LL ty zA1:=za (lSl 107) (za zj (za zj zl))
def zYv (x:zlA) (y:At×Unit):Nat:=((x.1.length+Int.toNat x.2.1+Int.toNat x.2.2.1+Int.toNat x.2.2.2.1+Int.toNat x.2.2.2.2.2.1+y.1.Ag.length+y.1.Items.length+1)+zd5 x.1)
def z0q (x:zA3) (y:Unit):Nat:=((x.1.length+Int.toNat x.2.1+Int.toNat x.2.2.1+Int.toNat x.2.2.2.1+1)+zd5 x.1)
def z0y (x:zA1) (y:Unit):Nat:=((x.1.length+Int.toNat x.2.1+Int.toNat x.2.2.1+1)+zd5 x.1)
def ztb (zQ:yB->Bool×Int):=zbZ base 71 [(183,(zoQ zQ))] [] [(3,(kpL [0,3,4])),(7,(kpL [0,3,4,5])),(12,(kpL [0,3,4,5,6,7])),(16,(kpL [0,3,4,5,6,8]))] [(3,1,(kpL [3])),(7,3,(kpL [0,3,4])),(12,5,(kpL [0,3,4,5,6])),(16,7,(kpL [0,3,4,5]))] [(12,spW z0P zTT (zBj zQ) default zYo zYv),(16,spW z0P zTT (zBx zQ) default zYG zYv),(7,spW z1m z6k (zC8 zQ) default z0p z0q),(3,spW z2M z6k (zC7 zQ) default zO0 z0y)] []
theorem zYn (zQ:yB->Bool×Int):zI (ztb zQ) (lp (body f183) 2):=zo (id:=12) (hl:=rfl)
theorem zYw (zQ:yB->Bool×Int):zI (ztb zQ) (lp (body f183) 3):=zo (id:=16) (hl:=rfl)
theorem z0z (zQ:yB->Bool×Int):zI (ztb zQ) (lp (body f183) 1):=zo (id:=7) (hl:=rfl)
theorem z0Q (zQ:yB->Bool×Int):zI (ztb zQ) (lp (body f183) 0):=zo (id:=3) (hl:=rfl)
def zOY (zQ:yB->Bool×Int) (a:yB):Wy0 (Int):=.bn (zMO zQ ((a.length+Int.toNat 0+Int.toNat 0+1)+zd5 a) a 0 0) λr10=>.k r10
def zDb (zQ:yB->Bool×Int) (a:yB):=(zOY zQ a).fin default
theorem zU4 (zQ:yB->Bool×Int) (z3I:SdP 183 (zoQ zQ)):SdP 183 (zoQ (zDb zQ)):=
 sT (cx':=(ztb zQ)) (zi ⟨z3I,trivial⟩) call183 func183 (lOK (aC (z0Q zQ) (aC (z0z zQ) (aC (zYn zQ) (aC (zYw zQ) aN)))))
def z5b:Nat->(yB->Bool×Int)
 | 0=>λ_=>(false,default)
 | n+1=>zDb (z5b n)
def zuv (n:Nat):yB->Bool×Int:=z5b n
theorem z18 (n:Nat):zuv (n+1)=zDb (zuv n):=rfl
theorem zZB:∀ n,SdP 183 (zoQ (zuv n))
 | 0=>zbk call183 (λ_=>rfl)
 | n+1=>by
  have ih:=zZB n;exact zU4 _ (ih)
def zRi:yB->Bool×Int:=zuv 1000
def zMQ:Ab.Spec ty:=zoQ zRi
theorem z0i:SdP 183 zMQ:=(zZB 1000)
abbrev zA9:=yB×Int×Int×Unit
abbrev zTp:=Bool⊕(yB×Int)
abbrev zA7:=yB×Int×Unit
def zwQ (a:yB) (i:Int) (k:Int):Wy zA9 Unit zTp:=.i (decide (0<=i)&&decide (i<Int.ofNat a.length)) (.i (decide (k<Int.ofNat (a.getD i.toNat default).Fs.length)) (.i (decide (0<=i)&&decide (i<Int.ofNat a.length)) (.i (decide (0<=k)&&decide (k<Int.ofNat (a.getD i.toNat default).Fs.length)) (.i (decide (((a.getD i.toNat default).Fs.getD k.toNat default).Exp>64)) (.k (.inl false)) (.i (decide (0<=i)&&decide (i<Int.ofNat a.length)) (.i (decide (0<=k)&&decide (k<Int.ofNat (a.getD i.toNat default).Fs.length)) (.i (decide (Int.ofNat ((a.getD i.toNat default).Fs.getD k.toNat default).At.Items.length>1024)) (.k (.inl false)) (.h (a,i,(IntKind.i64.wrap (k+1)),()) ())) .d) .d)) .d) .d) (.k (.inr (a,i)))) .d
def zH0 (x:zA9) (y:Unit):=zwQ x.1 x.2.1 x.2.2.1
def zTg (n:Nat) (a:yB) (i:Int) (k:Int):=zB (zH0) (.inl default) n (a,i,k,()) ()
def z3y (r:zTp):LTree ty:=.ite (isL r) (.done .ret [.lit (.bool (getL r))] []) (.done (.exit 2) [.sl 107 (getR r).1,.lit (.int .i64 (getR r).2)] [])
def z59:LL ty zA9:=za (lSl 107) (za zj (za zj zl))
def zwP (a:yB) (i:Int):Wy zA7 Unit (Bool⊕Unit):=.i (decide (i<Int.ofNat a.length)) (.i (decide (0<=i)&&decide (i<Int.ofNat a.length)) (.i (decide (Int.ofNat (a.getD i.toNat default).Fs.length>64)) (.k (.inl false)) (.bn (zTg ((a.length+i.toNat +Int.toNat 0+1)+zd5 a) a i 0) λr0=>.i (isL r0) (.k (.inl (getL r0))) (.h ((getR r0).1,(IntKind.i64.wrap ((getR r0).2+1)),()) ()))) .d) (.k (.inr ()))
def zHD (x:zA7) (y:Unit):=zwP x.1 x.2.1
def zTi (n:Nat) (a:yB) (i:Int):=zB (zHD) (.inl default) n (a,i,()) ()
def z6Q:LL ty zA7:=za (lSl 107) (za zj zl)
def z4u (x:zA9) (y:Unit):Nat:=((x.1.length+Int.toNat x.2.1+Int.toNat x.2.2.1+1)+zd5 x.1)
def z3F (x:zA7) (y:Unit):Nat:=((x.1.length+Int.toNat x.2.1+1)+zd5 x.1)
def zIe:=zbZ base 65 [(182,zGC),(183,zMQ)] [] [(4,(kpL [0,3])),(9,(kpL [0,3,4]))] [(4,1,[]),(4,0,(kpL [2])),(9,3,(kpL [0,3])),(9,0,(kpL [2]))] [(9,spW z59 z6k (zH0) (.inl default) z3y z4u),(4,spW z6Q z6k (zHD) (.inl default) znl z3F)] []
theorem z3w:zI zIe (lp (body f109) 1):=zo (id:=9) (hl:=rfl)
theorem z34:zI zIe (lp (body f109) 0):=zo (id:=4) (hl:=rfl)
def zXa (a:yB):Wy0 (Bool):=.i (decide (Int.ofNat a.length>512)) (.k false) (.bn (zHP a) λr4=>.i (decide (r4>8)) (.k false) (.bn (zRi a) λr3=>.i (decide (r3>4096)) (.k false) (.bn (zTi ((a.length+Int.toNat 0+1)+zd5 a) a 0) λr2=>.i (isL r2) (.k (getL r2)) (.k true))))
def zzB (a:yB):=(zXa a).fin default
def zC5:=zh zVa λx=>((zzB x.1).1,zUI (zzB x.1).2)
theorem zJ5:SdP 109 zC5:=
 sT (cx':=zIe) (zi ⟨zTE,z0i,trivial⟩) call109 func109 (lOK (aC z34 (aC z3w aN)))
abbrev zzm:=yB×Int×Unit×Int×Unit
abbrev zQz:=Bool⊕(yB×Int)
abbrev zzD:=yB×Int×Unit
def zo2 (zW:At->Bool×Bool) (a:yB) (i:Int) (k:Int) (t:Term):Wy zzm (Term×Unit) zQz:=.i (decide (k<Int.ofNat t.Fs.length)) (.i (decide (0<=k)&&decide (k<Int.ofNat t.Fs.length)) (.i (decide ((t.Fs.getD k.toNat default).Exp<1)) (.k (.inl false)) (.i (decide ((t.Fs.getD k.toNat default).Exp>1)) (.i (decide ((t.Fs.getD k.toNat default).At.Kind≥3)) (.k (.inl false)) (.bn (zW (At.mk (t.Fs.getD k.toNat default).At.Kind (t.Fs.getD k.toNat default).At.Row (t.Fs.getD k.toNat default).At.Ag (t.Fs.getD k.toNat default).At.Func (t.Fs.getD k.toNat default).At.Items (t.Fs.getD k.toNat default).At.Op (t.Fs.getD k.toNat default).At.Bd)) λr1=>.i (!r1) (.k (.inl false)) (.i (decide (k>0)) (.i (decide (0<=IntKind.i64.wrap (k - 1))&&decide (IntKind.i64.wrap (k - 1)<Int.ofNat t.Fs.length)) (.bn (zlw (At.mk (t.Fs.getD (IntKind.i64.wrap (k - 1)).toNat default).At.Kind (t.Fs.getD (IntKind.i64.wrap (k - 1)).toNat default).At.Row (t.Fs.getD (IntKind.i64.wrap (k - 1)).toNat default).At.Ag (t.Fs.getD (IntKind.i64.wrap (k - 1)).toNat default).At.Func (t.Fs.getD (IntKind.i64.wrap (k - 1)).toNat default).At.Items (t.Fs.getD (IntKind.i64.wrap (k - 1)).toNat default).At.Op (t.Fs.getD (IntKind.i64.wrap (k - 1)).toNat default).At.Bd) (At.mk (t.Fs.getD k.toNat default).At.Kind (t.Fs.getD k.toNat default).At.Row (t.Fs.getD k.toNat default).At.Ag (t.Fs.getD k.toNat default).At.Func (t.Fs.getD k.toNat default).At.Items (t.Fs.getD k.toNat default).At.Op (t.Fs.getD k.toNat default).At.Bd)) λr0=>.i (decide (r0≥0)) (.k (.inl false)) (.h (a,i,(),(IntKind.i64.wrap (k+1)),()) (t,()))) .d) (.h (a,i,(),(IntKind.i64.wrap (k+1)),()) (t,()))))) (.bn (zW (At.mk (t.Fs.getD k.toNat default).At.Kind (t.Fs.getD k.toNat default).At.Row (t.Fs.getD k.toNat default).At.Ag (t.Fs.getD k.toNat default).At.Func (t.Fs.getD k.toNat default).At.Items (t.Fs.getD k.toNat default).At.Op (t.Fs.getD k.toNat default).At.Bd)) λr3=>.i (!r3) (.k (.inl false)) (.i (decide (k>0)) (.i (decide (0<=IntKind.i64.wrap (k - 1))&&decide (IntKind.i64.wrap (k - 1)<Int.ofNat t.Fs.length)) (.bn (zlw (At.mk (t.Fs.getD (IntKind.i64.wrap (k - 1)).toNat default).At.Kind (t.Fs.getD (IntKind.i64.wrap (k - 1)).toNat default).At.Row (t.Fs.getD (IntKind.i64.wrap (k - 1)).toNat default).At.Ag (t.Fs.getD (IntKind.i64.wrap (k - 1)).toNat default).At.Func (t.Fs.getD (IntKind.i64.wrap (k - 1)).toNat default).At.Items (t.Fs.getD (IntKind.i64.wrap (k - 1)).toNat default).At.Op (t.Fs.getD (IntKind.i64.wrap (k - 1)).toNat default).At.Bd) (At.mk (t.Fs.getD k.toNat default).At.Kind (t.Fs.getD k.toNat default).At.Row (t.Fs.getD k.toNat default).At.Ag (t.Fs.getD k.toNat default).At.Func (t.Fs.getD k.toNat default).At.Items (t.Fs.getD k.toNat default).At.Op (t.Fs.getD k.toNat default).At.Bd)) λr2=>.i (decide (r2≥0)) (.k (.inl false)) (.h (a,i,(),(IntKind.i64.wrap (k+1)),()) (t,()))) .d) (.h (a,i,(),(IntKind.i64.wrap (k+1)),()) (t,())))))) .d) (.k (.inr (a,i)))
def zAh (zW:At->Bool×Bool) (x:zzm) (y:Term×Unit):=zo2 zW x.1 x.2.1 x.2.2.2.1 y.1
def zAj (zW:At->Bool×Bool) (n:Nat) (a:yB) (i:Int) (k:Int) (t:Term):=zB (zAh zW) (.inl default) n (a,i,(),k,()) (t,())
def zWf (r:zQz):LTree ty:=.ite (isL r) (.done .ret [.lit (.bool (getL r))] []) (.done (.exit 2) [.sl 107 (getR r).1,.lit (.int .i64 (getR r).2)] [])
def zYj:LL ty zzm:=za (lSl 107) (za zj (za (zcI 372 0) (za zj zl)))
def zqz (zW:At->Bool×Bool) (a:yB) (i:Int):Wy zzD Unit (Bool⊕Unit):=.i (decide (i<Int.ofNat a.length)) (.i (decide (0<=i)&&decide (i<Int.ofNat a.length)) (.i (decide ((a.getD i.toNat default).Cf<1)) (.k (.inl false)) (.i (decide ((a.getD i.toNat default).Cf>1152921504606846976)) (.k (.inl false)) (.i (decide (i>0)) (.i (decide (0<=IntKind.i64.wrap (i - 1))&&decide (IntKind.i64.wrap (i - 1)<Int.ofNat a.length)) (.bn (zkO (a.getD (IntKind.i64.wrap (i - 1)).toNat default).Fs (a.getD i.toNat default).Fs) λr9=>.i (decide (r9≥0)) (.k (.inl false)) (.bn (zAj zW ((a.length+i.toNat +Int.toNat 0+(a.getD i.toNat default).Fs.length+1)+zd5 a) a i 0 (a.getD i.toNat default)) λr8=>.i (isL r8) (.k (.inl (getL r8))) (.h ((getR r8).1,(IntKind.i64.wrap ((getR r8).2+1)),()) ()))) .d) (.bn (zAj zW ((a.length+i.toNat +Int.toNat 0+(a.getD i.toNat default).Fs.length+1)+zd5 a) a i 0 (a.getD i.toNat default)) λr10=>.i (isL r10) (.k (.inl (getL r10))) (.h ((getR r10).1,(IntKind.i64.wrap ((getR r10).2+1)),()) ()))))) .d) (.k (.inr ()))
def zBi (zW:At->Bool×Bool) (x:zzD) (y:Unit):=zqz zW x.1 x.2.1
def zJP (zW:At->Bool×Bool) (n:Nat) (a:yB) (i:Int):=zB (zBi zW) (.inl default) n (a,i,()) ()
def z0U:LL ty zzD:=za (lSl 107) (za zj zl)
def zXx (x:zzm) (y:Term×Unit):Nat:=((x.1.length+Int.toNat x.2.1+Int.toNat x.2.2.2.1+y.1.Fs.length+1)+zd5 x.1)
def zXZ (x:zzD) (y:Unit):Nat:=((x.1.length+Int.toNat x.2.1+1)+zd5 x.1)
def zBe (zW:At->Bool×Bool):=zbZ base 93 [(109,zC5),(110,zpl),(111,(zmS zW)),(112,zAz)] [] [(4,(kpL [0,3])),(10,(kpL [0,3,4,5]))] [(4,1,[]),(4,0,(kpL [2])),(10,3,(kpL [0,3])),(10,0,(kpL [2]))] [(10,spW zYj zQn (zAh zW) (.inl default) zWf zXx),(4,spW z0U z6k (zBi zW) (.inl default) znl zXZ)] []
theorem zWP (zW:At->Bool×Bool):zI (zBe zW) (lp (body f56) 1):=zo (id:=10) (hl:=rfl)
theorem zX9 (zW:At->Bool×Bool):zI (zBe zW) (lp (body f56) 0):=zo (id:=4) (hl:=rfl)
def zMF (zW:At->Bool×Bool) (a:yB):Wy0 (Bool):=.bn (zzB a) λr15=>.i (!r15) (.k false) (.bn (zJP zW ((a.length+Int.toNat 0+1)+zd5 a) a 0) λr14=>.i (isL r14) (.k (getL r14)) (.k true))
def zwB (zW:At->Bool×Bool) (a:yB):=(zMF zW a).fin default
theorem zTB (zW:At->Bool×Bool) (zUK:SdP 111 (zmS zW)):SdP 56 (zhW (zwB zW)):=
 sT (cx':=(zBe zW)) (zi ⟨zJ5,zwz,zUK,zMr,trivial⟩) call56 func56 (lOK (aC (zX9 zW) (aC (zWP zW) aN)))
def z2I:=zbv base 42 []
def zPg (a:yB):Wy0 (Bool):=.i (Int.ofNat a.length==1) (.i (decide ((0:Int)<=(0:Int))&&decide (0<Int.ofNat a.length)) (.i ((a.getD (Int.toNat 0) default).Cf==1) (.i (decide ((0:Int)<=(0:Int))&&decide (0<Int.ofNat a.length)) (.i (Int.ofNat (a.getD (Int.toNat 0) default).Fs.length==1) (.i (decide ((0:Int)<=(0:Int))&&decide (0<Int.ofNat a.length)) (.i (decide ((0:Int)<=(0:Int))&&decide (0<Int.ofNat (a.getD (Int.toNat 0) default).Fs.length)) (.i (decide (((a.getD (Int.toNat 0) default).Fs.getD (Int.toNat 0) default).At.Kind≥2)) (.i (decide ((0:Int)<=(0:Int))&&decide (0<Int.ofNat a.length)) (.i (decide ((0:Int)<=(0:Int))&&decide (0<Int.ofNat (a.getD (Int.toNat 0) default).Fs.length)) (.k (((a.getD (Int.toNat 0) default).Fs.getD (Int.toNat 0) default).Exp==1)) .d) .d) (.k false)) .d) .d) (.k false)) .d) (.k false)) .d) (.k false)
def zqM (a:yB):=(zPg a).fin default
def zIL:=zh zVa λx=>((zqM x.1).1,zUI (zqM x.1).2)
theorem zWd:SdP 186 zIL:=
 sT (cx':=z2I) (zi trivial) call186 func186 (lOK aN)
abbrev zAg:=yB×Int×Unit
def zoW (a:yB) (i:Int):Wy zAg Unit (Bool⊕Unit):=.i (decide (i<Int.ofNat a.length)) (.i (decide (0<=i)&&decide (i<Int.ofNat a.length)) (.i (Int.ofNat (a.getD i.toNat default).Fs.length==0) (.k (.inl true)) (.h (a,(IntKind.i64.wrap (i+1)),()) ())) .d) (.k (.inr ()))
def zAp (x:zAg) (y:Unit):=zoW x.1 x.2.1
def zIr (n:Nat) (a:yB) (i:Int):=zB (zAp) (.inl default) n (a,i,()) ()
def zYR:LL ty zAg:=za (lSl 107) (za zj zl)
def zIC:=zbZ base 17 [] [] [(2,(kpL [0,3]))] [(2,1,[]),(2,0,(kpL [2]))] [(2,spW zYR z6k (zAp) (.inl default) znl λx y=>(x.1.length+Int.toNat x.2.1+1))] []
theorem zXh:zI zIC (lp (body f185) 0):=zo (id:=2) (hl:=rfl)
def zKm (a:yB):Wy0 (Bool):=.bn (zIr (a.length+Int.toNat 0+1) a 0) λr0=>.i (isL r0) (.k (getL r0)) (.k false)
def ziB (a:yB):=(zKm a).fin default
def zEI:=zh zVa λx=>((ziB x.1).1,zUI (ziB x.1).2)
theorem zRf:SdP 185 zEI:=
 sT (cx':=zIC) (zi trivial) call185 func185 (lOK (aC zXh aN))
def z4D:=zbv base 36 []
def zTn (v:Value):Wy0 (Bool):=.i (v.Kind==0) (.k (v.Text.toList==(ByteArray.mk #[]).toList)) (.i (v.Kind==1) (.i (v.Int==0) (.k (decide (Int.ofNat v.Text.size<=255))) (.k false)) (.i (v.Kind==2) (.i (v.Text.toList==(ByteArray.mk #[]).toList) (.i (v.Int==0) (.k true) (.k (v.Int==1))) (.k false)) (.k false)))
def ztz (v:Value):=(zTn v).fin default
def zBC:=zh z6m λx=>((ztz x.1).1,zUI (ztz x.1).2)
theorem zIA:SdP 108 zBC:=
 sT (cx':=z4D) (zi trivial) call108 func108 (lOK aN)
abbrev zzb:=Int×yD×Unit×Int×Unit
def zux (fn:Int) (items:yD) (i:Int) (bound:Value):Wy zzb (Value×Unit) (Bool⊕Unit):=.i (decide (i<Int.ofNat items.length)) (.i (decide (0<=i)&&decide (i<Int.ofNat items.length)) (.bn (ztz (items.getD i.toNat default).Value) λr0=>.i (!r0) (.k (.inl false)) (.i ((items.getD i.toNat default).Value.Kind != bound.Kind) (.k (.inl false)) (.i (fn==0) (.i ((items.getD i.toNat default).Value.Int != 1) (.k (.inl false)) (.h (fn,items,(),(IntKind.i64.wrap (i+1)),()) (bound,()))) (.h (fn,items,(),(IntKind.i64.wrap (i+1)),()) (bound,()))))) .d) (.k (.inr ()))
def zFF (x:zzb) (y:Value×Unit):=zux x.1 x.2.1 x.2.2.2.1 y.1
def zFJ (n:Nat) (fn:Int) (items:yD) (i:Int) (bound:Value):=zB (zFF) (.inl default) n (fn,items,(),i,()) (bound,())
def z3t:LL ty zzb:=za zj (za (lSl 169) (za (zcI 276 0) (za zj zl)))
def z3H:BL ty (Value×Unit):=zd7 (zdv (λx=>(⟨x.1,x.2.1,x.2.2.1⟩:Value)) (λx=>(x.Kind,x.Int,x.Text,())) (λ_=>rfl) (za (zT .i64) (za (zT .i64) (za ztx zl)))) false (zbe)
def z28 (x:zzb) (y:Value×Unit):Nat:=(Int.toNat x.1+x.2.1.length+Int.toNat x.2.2.2.1+1)
def zPG:=zbZ base 69 [(108,zBC)] [] [(4,(kpL [0,1,7,9]))] [(4,1,[]),(4,0,(kpL [8]))] [(4,spW z3t z3H (zFF) (.inl default) znl z28)] []
theorem z1W:zI zPG (lp (body f187) 0):=zo (id:=4) (hl:=rfl)
def zTe (fn:Int) (items:yD) (op:Int) (bound:Value):Wy0 (Bool):=.i (decide (fn<0)) (.k false) (.i (decide (fn>3)) (.k false) (.i (decide (op<5)) (.k false) (.i (decide (op>10)) (.k false) (.bn (ztz bound) λr4=>.i (!r4) (.k false) (.i (decide (fn<=1)) (.i (bound.Kind != 0) (.k false) (.bn (zFJ (fn.toNat +items.length+Int.toNat 0+1) fn items 0 bound) λr2=>.i (isL r2) (.k (getL r2)) (.k true))) (.bn (zFJ (fn.toNat +items.length+Int.toNat 0+1) fn items 0 bound) λr3=>.i (isL r3) (.k (getL r3)) (.k true)))))))
def zxi (fn:Int) (items:yD) (op:Int) (bound:Value):=(zTe fn items op bound).fin default
def zLx:=zh zRB λx=>((zxi x.1 x.2.1 x.2.2.1 x.2.2.2.1).1,zUI (zxi x.1 x.2.1 x.2.2.1 x.2.2.2.1).2)
theorem zYO:SdP 187 zLx:=
 sT (cx':=zPG) (zi ⟨zIA,trivial⟩) call187 func187 (lOK (aC z1W aN))
def z4Q:=zbv base 23 []
def zSW (x_:At):Wy0 (Bool):=.i (x_.Func==0) (.i (Int.ofNat x_.Items.length==0) (.i (x_.Op==0) (.k (x_.Bd.Kind==0&&(x_.Bd.Int==0&&(x_.Bd.Text.toList==(ByteArray.mk #[]).toList&&true)))) (.k false)) (.k false)) (.k false)
def zp1 (x_:At):=(zSW x_).fin default
def zJ0:=zh z9g λx=>((zp1 x.1).1,zUI (zp1 x.1).2)
theorem zYx:SdP 184 zJ0:=
 sT (cx':=z4Q) (zi trivial) call184 func184 (lOK aN)
abbrev zfZ:=Unit×Int×Unit
def zkV (zbq:yB->Bool×Bool) (i:Int) (x_:At):Wy zfZ (At×Unit) (Bool⊕At):=.i (decide (i<Int.ofNat x_.Ag.length)) (.i (decide (0<=i)&&decide (i<Int.ofNat x_.Ag.length)) (.i (Int.ofNat (List.length (x_.Ag.getD i.toNat default))==0) (.k (.inl false)) (.i (decide (0<=i)&&decide (i<Int.ofNat x_.Ag.length)) (.bn (zbq (x_.Ag.getD i.toNat default)) λr0=>.i (!r0) (.k (.inl false)) (.h ((),(IntKind.i64.wrap (i+1)),()) (x_,()))) .d)) .d) (.k (.inr x_))
def zvz (zbq:yB->Bool×Bool) (x:zfZ) (y:At×Unit):=zkV zbq x.2.1 y.1
def zv9 (zbq:yB->Bool×Bool) (n:Nat) (i:Int) (x_:At):=zB (zvz zbq) (.inl default) n ((),i,()) (x_,())
def zOJ (r:Bool⊕At):LTree ty:=.ite (isL r) (.done .ret [.lit (.bool (getL r))] []) (.done (.exit 0) [.ptr 824 0] [.box (base.enc 143 (getR r)) false])
def zRJ:LL ty zfZ:=za (zcI 824 0) (za zj zl)
def zj2 (zbq:yB->Bool×Bool) (i:Int) (x_:At):Wy zfZ (At×Unit) (Bool⊕Unit):=.i (decide (i<Int.ofNat x_.Items.length)) (.i (decide (0<=i)&&decide (i<Int.ofNat x_.Items.length)) (.i (Int.ofNat (x_.Items.getD i.toNat default).Ann.length==0) (.k (.inl false)) (.i (decide (0<=i)&&decide (i<Int.ofNat x_.Items.length)) (.bn (zbq (x_.Items.getD i.toNat default).Ann) λr3=>.i (!r3) (.k (.inl false)) (.i (decide (i>0)) (.i (decide (0<=IntKind.i64.wrap (i - 1))&&decide (IntKind.i64.wrap (i - 1)<=i)&&decide (i<=Int.ofNat x_.Items.length)) (.i (decide (0<=i)&&decide (i<=IntKind.i64.wrap (i+1))&&decide (IntKind.i64.wrap (i+1)<=Int.ofNat x_.Items.length)) (.bn (zs5 (List.take (i.toNat - (IntKind.i64.wrap (i - 1)).toNat) (List.drop (IntKind.i64.wrap (i - 1)).toNat x_.Items)) (List.take ((IntKind.i64.wrap (i+1)).toNat - i.toNat) (List.drop i.toNat x_.Items))) λr2=>.i (decide (r2>0)) (.k (.inl false)) (.h ((),(IntKind.i64.wrap (i+1)),()) (x_,()))) .d) .d) (.h ((),(IntKind.i64.wrap (i+1)),()) (x_,())))) .d)) .d) (.k (.inr ()))
def zuP (zbq:yB->Bool×Bool) (x:zfZ) (y:At×Unit):=zj2 zbq x.2.1 y.1
def zCo (zbq:yB->Bool×Bool) (n:Nat) (i:Int) (x_:At):=zB (zuP zbq) (.inl default) n ((),i,()) (x_,())
def zNs (r:Bool⊕Unit):LTree ty:=.ite (isL r) (.done .ret [.lit (.bool (getL r))] []) (.done (.exit 3) [] [])
def zPc (x:zfZ) (y:At×Unit):Nat:=(Int.toNat x.2.1+y.1.Ag.length+y.1.Items.length+1)
def zvE (zbq:yB->Bool×Bool):=zbZ base 206 [(33,zDZ),(56,(zhW zbq)),(184,zJ0),(185,zEI),(186,zIL),(187,zLx),(188,zzT)] [] [(6,(kpL [1,3])),(21,(kpL [1,4]))] [(6,1,(kpL [1])),(6,0,(kpL [2])),(21,4,[]),(21,0,(kpL [2]))] [(6,spW zRJ zTT (zvz zbq) (.inl default) zOJ zPc),(21,spW zRJ zTT (zuP zbq) (.inl default) zNs zPc)] []
theorem zQi (zbq:yB->Bool×Bool):zI (zvE zbq) (lp (body f111) 0):=zo (id:=6) (hl:=rfl)
theorem zNF (zbq:yB->Bool×Bool):zI (zvE zbq) (lp (body f111) 1):=zo (id:=21) (hl:=rfl)
def zEY (zbq:yB->Bool×Bool) (x_:At):Wy0 (Bool):=.i (x_.Kind==0) (.i (decide (x_.Row.Table≥1)) (.i (decide (x_.Row.Seq≥1)) (.i (Int.ofNat x_.Ag.length==0) (.bn (zp1 (At.mk x_.Kind x_.Row x_.Ag x_.Func x_.Items x_.Op x_.Bd)) λr6=>.k r6) (.k false)) (.k false)) (.k false)) (.i (!(x_.Row.Table==0&&(x_.Row.Seq==0&&true))) (.k false) (.bn (zv9 zbq (Int.toNat 0+x_.Ag.length+x_.Items.length+1) 0 (At.mk x_.Kind x_.Row x_.Ag x_.Func x_.Items x_.Op x_.Bd)) λr17=>.i (isL r17) (.k (getL r17)) (.i ((getR r17).Kind==1) (.i (Int.ofNat (getR r17).Ag.length==2) (.bn (zp1 (At.mk (getR r17).Kind (getR r17).Row (getR r17).Ag (getR r17).Func (getR r17).Items (getR r17).Op (getR r17).Bd)) λr8=>.i (r8) (.i (decide ((0:Int)<=(0:Int))&&decide (0<Int.ofNat (getR r17).Ag.length)) (.i (decide ((0:Int)<=(1:Int))&&decide (1<Int.ofNat (getR r17).Ag.length)) (.bn (zpB ((getR r17).Ag.getD (Int.toNat 0) default) ((getR r17).Ag.getD (Int.toNat 1) default)) λr7=>.k (!r7)) .d) .d) (.k false)) (.k false)) (.i ((getR r17).Kind==2) (.i (Int.ofNat (getR r17).Ag.length==1) (.bn (zp1 (At.mk (getR r17).Kind (getR r17).Row (getR r17).Ag (getR r17).Func (getR r17).Items (getR r17).Op (getR r17).Bd)) λr12=>.i (r12) (.i (decide ((0:Int)<=(0:Int))&&decide (0<Int.ofNat (getR r17).Ag.length)) (.i (Int.ofNat (List.length ((getR r17).Ag.getD (Int.toNat 0) default))==1) (.i (decide ((0:Int)<=(0:Int))&&decide (0<Int.ofNat (getR r17).Ag.length)) (.bn (ziB ((getR r17).Ag.getD (Int.toNat 0) default)) λr10=>.i (!r10) (.i (decide ((0:Int)<=(0:Int))&&decide (0<Int.ofNat (getR r17).Ag.length)) (.bn (zqM ((getR r17).Ag.getD (Int.toNat 0) default)) λr9=>.k (!r9)) .d) (.k false)) .d) (.i (decide ((0:Int)<=(0:Int))&&decide (0<Int.ofNat (getR r17).Ag.length)) (.bn (zqM ((getR r17).Ag.getD (Int.toNat 0) default)) λr11=>.k (!r11)) .d)) .d) (.k false)) (.k false)) (.i ((getR r17).Kind==3) (.i (Int.ofNat (getR r17).Ag.length==1) (.bn (zp1 (At.mk (getR r17).Kind (getR r17).Row (getR r17).Ag (getR r17).Func (getR r17).Items (getR r17).Op (getR r17).Bd)) λr14=>.i (r14) (.i (decide ((0:Int)<=(0:Int))&&decide (0<Int.ofNat (getR r17).Ag.length)) (.bn (ziB ((getR r17).Ag.getD (Int.toNat 0) default)) λr13=>.k (!r13)) .d) (.k false)) (.k false)) (.i ((getR r17).Kind==4) (.i (Int.ofNat (getR r17).Ag.length != 0) (.k false) (.i (Int.ofNat (getR r17).Items.length==0) (.k false) (.i (decide (Int.ofNat (getR r17).Items.length>1024)) (.k false) (.bn (zxi (getR r17).Func (getR r17).Items (getR r17).Op (getR r17).Bd) λr16=>.i (!r16) (.k false) (.bn (zCo zbq (Int.toNat 0+(getR r17).Ag.length+(getR r17).Items.length+1) 0 (At.mk (getR r17).Kind (getR r17).Row (getR r17).Ag (getR r17).Func (getR r17).Items (getR r17).Op (getR r17).Bd)) λr15=>.i (isL r15) (.k (getL r15)) (.k true)))))) (.k false)))))))
def zoM (zbq:yB->Bool×Bool) (x_:At):=(zEY zbq x_).fin default
theorem zLQ (zbq:yB->Bool×Bool) (z2N:SdP 56 (zhW zbq)):SdP 111 (zmS (zoM zbq)):=
 sT (cx':=(zvE zbq)) (zi ⟨zKN,z2N,zYx,zRf,zWd,zYO,zKQ,trivial⟩) call111 func111 (lOK (aC (zQi zbq) (aC (zNF zbq) aN)))
def zI9:Nat->(yB->Bool×Bool)×(At->Bool×Bool)
 | 0=>(λ_=>(false,default),λ_=>(false,default))
 | n+1=>(zwB ((zI9 n).2),zoM ((zI9 n).1))
def zwU (n:Nat):yB->Bool×Bool:=(zI9 n).1
def zt9 (n:Nat):At->Bool×Bool:=(zI9 n).2
theorem z0A (n:Nat):zwU (n+1)=zwB (zt9 n):=rfl
theorem zSf (n:Nat):zt9 (n+1)=zoM (zwU n):=rfl
theorem zWK:∀ n,SdP 56 (zhW (zwU n))/\SdP 111 (zmS (zt9 n))
 | 0=>⟨zbk call56 (λ_=>rfl),zbk call111 (λ_=>rfl)⟩
 | n+1=>by
  have ih:=zWK n;exact ⟨zTB _ (ih.2),zLQ _ (ih.1)⟩
def zfK:yB->Bool×Bool:=zwU 1000
def zvW:Ab.Spec ty:=zhW zfK
theorem zz3:SdP 56 zvW:=(zWK 1000).1
abbrev zBl:=yH×Int×Unit
abbrev zK6:=Bool⊕yH
def zBv (l:yH) (i:Int):Wy zBl Unit zK6:=.i (decide (i<Int.ofNat l.length)) (.i (decide (0<=i)&&decide (i<Int.ofNat l.length)) (.i (decide ((l.getD i.toNat default).Type_<0)) (.k (.inl false)) (.i (decide (0<=i)&&decide (i<Int.ofNat l.length)) (.i (decide ((l.getD i.toNat default).Type_>2)) (.k (.inl false)) (.h (l,(IntKind.i64.wrap (i+1)),()) ())) .d)) .d) (.k (.inr l))
def zBq (x:zBl) (y:Unit):=zBv x.1 x.2.1
def zJN (n:Nat) (l:yH) (i:Int):=zB (zBq) (.inl default) n (l,i,()) ()
def zX0 (r:zK6):LTree ty:=.ite (isL r) (.done .ret [.lit (.bool (getL r))] []) (.done (.exit 0) [.sl 75 (getR r)] [])
def z0r:LL ty zBl:=za (lSl 75) (za zj zl)
def zKK:=zbZ base 27 [] [] [(2,(kpL [0,3]))] [(2,1,(kpL [0])),(2,0,(kpL [2]))] [(2,spW z0r z6k (zBq) (.inl default) zX0 λx y=>(x.1.length+Int.toNat x.2.1+1))] []
theorem zYk:zI zKK (lp (body f54) 0):=zo (id:=2) (hl:=rfl)
def zM6 (l:yH):Wy0 (Bool):=.bn (zJN (l.length+Int.toNat 0+1) l 0) λr0=>.i (isL r0) (.k (getL r0)) (.k (decide (Int.ofNat (getR r0).length<=16)))
def zsn (l:yH):=(zM6 l).fin default
def zyp:=zh zMf λx=>((zsn x.1).1,zUI (zsn x.1).2)
theorem zEJ:SdP 54 zyp:=
 sT (cx':=zKK) (zi trivial) call54 func54 (lOK (aC zYk aN))
abbrev zA6:=yH×yG×Int×Unit
def zwZ (l:yH) (row:yG) (i:Int):Wy zA6 Unit (Bool⊕Unit):=.i (decide (i<Int.ofNat l.length)) (.i (decide (0<=i)&&decide (i<Int.ofNat row.length)) (.bn (ztz (row.getD i.toNat default)) λr0=>.i (!r0) (.k (.inl false)) (.i (decide (0<=i)&&decide (i<Int.ofNat row.length)) (.i (decide (0<=i)&&decide (i<Int.ofNat l.length)) (.i ((row.getD i.toNat default).Kind != (l.getD i.toNat default).Type_) (.k (.inl false)) (.h (l,row,(IntKind.i64.wrap (i+1)),()) ())) .d) .d)) .d) (.k (.inr ()))
def zHU (x:zA6) (y:Unit):=zwZ x.1 x.2.1 x.2.2.1
def zS3 (n:Nat) (l:yH) (row:yG) (i:Int):=zB (zHU) (.inl default) n (l,row,i,()) ()
def z6N:LL ty zA6:=za (lSl 75) (za (lSl 79) (za zj zl))
def z3O (x:zA6) (y:Unit):Nat:=(x.1.length+x.2.1.length+Int.toNat x.2.2.1+1)
def zS5:=zbZ base 36 [(108,zBC)] [] [(4,(kpL [0,1,5]))] [(4,1,[]),(4,0,(kpL [4]))] [(4,spW z6N z6k (zHU) (.inl default) znl z3O)] []
theorem z4N:zI zS5 (lp (body f55) 0):=zo (id:=4) (hl:=rfl)
def zV9 (l:yH) (row:yG):Wy0 (Bool):=.i (Int.ofNat l.length != Int.ofNat row.length) (.k false) (.bn (zS3 (l.length+row.length+Int.toNat 0+1) l row 0) λr2=>.i (isL r2) (.k (getL r2)) (.k true))
def zzy (l:yH) (row:yG):=(zV9 l row).fin default
def zD9:=zh z4L λx=>((zzy x.1 x.2.1).1,zUI (zzy x.1 x.2.1).2)
theorem zJ3:SdP 55 zD9:=
 sT (cx':=zS5) (zi ⟨zIA,trivial⟩) call55 func55 (lOK (aC z4N aN))
def z6z:=zbv base 9 []
def zVO (a:Int) (b:Int):Wy0 (Int):=.k (if 1152921504606846976<IntKind.i64.wrap (a+b) then 1152921504606846976 else IntKind.i64.wrap (a+b))
def zwe (a:Int) (b:Int):=(zVO a b).fin default
def zNm:=zh zTs λx=>((zwe x.1 x.2.1).1,zOz (zwe x.1 x.2.1).2)
theorem zZU:SdP 128 zNm:=
 sT (cx':=z6z) (zi trivial) call128 func128 (lOK aN)
abbrev zDl:=yB×Unit×Int×Unit
abbrev zXp:=yB×Int×Term
def zyR (a:yB) (i:Int) (t:Term):Wy zDl (Term×Unit) zXp:=.i (decide (i<Int.ofNat a.length)) (.i (decide (0<=i)&&decide (i<Int.ofNat a.length)) (.bn (zkO (a.getD i.toNat default).Fs t.Fs) λr0=>.i (decide (r0<0)) (.h (a,(),(IntKind.i64.wrap (i+1)),()) (t,())) (.k (a,i,t))) .d) (.k (a,i,t))
def zKq (x:zDl) (y:Term×Unit):=zyR x.1 x.2.2.1 y.1
def zVH (n:Nat) (a:yB) (i:Int) (t:Term):=zB (zKq) default n (a,(),i,()) (t,())
def z6h (r:zXp):LTree ty:=.done (.exit 0) [.sl 107 r.1,.ptr 288 0,.lit (.int .i64 r.2.1)] [.box (base.enc 107 r.2.2) false]
def z9i:LL ty zDl:=za (lSl 107) (za (zcI 288 0) (za zj zl))
def z6O (x:zDl) (y:Term×Unit):Nat:=(x.1.length+Int.toNat x.2.2.1+y.1.Fs.length+1)
def zVj:=zbZ base 72 [(110,zpl),(128,zNm)] [] [(2,(kpL [0,3,5]))] [(2,1,(kpL [0,3,5]))] [(2,spW z9i zQn (zKq) default z6h z6O)] []
theorem z6e:zI zVj (lp (body f75) 0):=zo (id:=2) (hl:=rfl)
def zZH (a:yB) (t:Term):Wy0 (yB):=.bn (zVH (a.length+Int.toNat 0+t.Fs.length+1) a 0 t) λr3=>.i (decide ((0:Int)<=(0:Int))&&decide (0<=r3.2.1)&&decide (r3.2.1<=Int.ofNat r3.1.length)) (.i (decide ((0+(List.take (r3.2.1.toNat - Int.toNat 0) (List.drop (Int.toNat 0) r3.1)).length)*32<=zA)) (.i (decide (r3.2.1<Int.ofNat r3.1.length)) (.i (decide (0<=r3.2.1)&&decide (r3.2.1<Int.ofNat r3.1.length)) (.bn (zkO (r3.1.getD r3.2.1.toNat default).Fs r3.2.2.Fs) λr2=>.i (r2==0) (.i (decide (0<=r3.2.1)&&decide (r3.2.1<Int.ofNat r3.1.length)) (.i (decide ((([]++List.take (r3.2.1.toNat - Int.toNat 0) (List.drop (Int.toNat 0) r3.1)).length+[TO.mk (zwe (r3.1.getD r3.2.1.toNat default).Cf r3.2.2.Cf).2 r3.2.2.Fs].length)*32<=zA)) (.i (decide (0<=IntKind.i64.wrap (r3.2.1+1))&&decide (IntKind.i64.wrap (r3.2.1+1)<=Int.ofNat r3.1.length)&&decide (Int.ofNat r3.1.length<=Int.ofNat r3.1.length)) (.i (decide ((([]++List.take (r3.2.1.toNat - Int.toNat 0) (List.drop (Int.toNat 0) r3.1)++[TO.mk (zwe (r3.1.getD r3.2.1.toNat default).Cf r3.2.2.Cf).2 r3.2.2.Fs]).length+(List.take ((Int.ofNat r3.1.length).toNat - (IntKind.i64.wrap (r3.2.1+1)).toNat) (List.drop (IntKind.i64.wrap (r3.2.1+1)).toNat r3.1)).length)*32<=zA)) (.k ([]++List.take (r3.2.1.toNat - Int.toNat 0) (List.drop (Int.toNat 0) r3.1)++[TO.mk (zwe (r3.1.getD r3.2.1.toNat default).Cf r3.2.2.Cf).2 r3.2.2.Fs]++List.take ((Int.ofNat r3.1.length).toNat - (IntKind.i64.wrap (r3.2.1+1)).toNat) (List.drop (IntKind.i64.wrap (r3.2.1+1)).toNat r3.1))) .d) .d) .d) .d) (.i (decide ((([]++List.take (r3.2.1.toNat - Int.toNat 0) (List.drop (Int.toNat 0) r3.1)).length+[r3.2.2].length)*32<=zA)) (.i (decide (0<=r3.2.1)&&decide (r3.2.1<=Int.ofNat r3.1.length)&&decide (Int.ofNat r3.1.length<=Int.ofNat r3.1.length)) (.i (decide ((([]++List.take (r3.2.1.toNat - Int.toNat 0) (List.drop (Int.toNat 0) r3.1)++[r3.2.2]).length+(List.take ((Int.ofNat r3.1.length).toNat - r3.2.1.toNat) (List.drop r3.2.1.toNat r3.1)).length)*32<=zA)) (.k ([]++List.take (r3.2.1.toNat - Int.toNat 0) (List.drop (Int.toNat 0) r3.1)++[r3.2.2]++List.take ((Int.ofNat r3.1.length).toNat - r3.2.1.toNat) (List.drop r3.2.1.toNat r3.1))) .d) .d) .d)) .d) (.i (decide ((([]++List.take (r3.2.1.toNat - Int.toNat 0) (List.drop (Int.toNat 0) r3.1)).length+[r3.2.2].length)*32<=zA)) (.i (decide (0<=r3.2.1)&&decide (r3.2.1<=Int.ofNat r3.1.length)&&decide (Int.ofNat r3.1.length<=Int.ofNat r3.1.length)) (.i (decide ((([]++List.take (r3.2.1.toNat - Int.toNat 0) (List.drop (Int.toNat 0) r3.1)++[r3.2.2]).length+(List.take ((Int.ofNat r3.1.length).toNat - r3.2.1.toNat) (List.drop r3.2.1.toNat r3.1)).length)*32<=zA)) (.k ([]++List.take (r3.2.1.toNat - Int.toNat 0) (List.drop (Int.toNat 0) r3.1)++[r3.2.2]++List.take ((Int.ofNat r3.1.length).toNat - r3.2.1.toNat) (List.drop r3.2.1.toNat r3.1))) .d) .d) .d)) .d) .d
def zCa (a:yB) (t:Term):=(zZH a t).fin default
def z97:AL base (yB×Term×Unit):=zd (ze (vSl 107)) (zd (ze (zbX 107)) zr)
def zQp:=zh z97 λx=>((zCa x.1 x.2.1).1,z3K (zCa x.1 x.2.1).2)
theorem z3e:SdP 75 zQp:=
 sT (cx':=zVj) (zi ⟨zwz,zZU,trivial⟩) call75 func75 (lOK (aC z6e aN)) (sg:=⟨[.own 107],[]⟩)
abbrev zDQ:=yB×yB×Int×Unit
def zy0 (a:yB) (b:yB) (i:Int):Wy zDQ Unit (yB):=.i (decide (i<Int.ofNat b.length)) (.i (decide (0<=i)&&decide (i<Int.ofNat b.length)) (.bn (zCa a (b.getD i.toNat default)) λr0=>.h ((r0),b,(IntKind.i64.wrap (i+1)),()) ()) .d) (.k a)
def zKx (x:zDQ) (y:Unit):=zy0 x.1 x.2.1 x.2.2.1
def zV6 (n:Nat) (a:yB) (b:yB) (i:Int):=zB (zKx) default n (a,b,i,()) ()
def z6g (r:yB):LTree ty:=.done (.exit 0) [.sl 107 r] []
def z7U:LL ty zDQ:=za (lSl 107) (za (lSl 107) (za zj zl))
def z67 (x:zDQ) (y:Unit):Nat:=(x.1.length+x.2.1.length+Int.toNat x.2.2.1+1)
def zWM:=zbZ base 19 [(75,zQp)] [] [(2,[(0,.sl 107),(1,.keep),(5,.keep)])] [(2,1,(kpL [0]))] [(2,spW z7U z6k (zKx) default z6g z67)] []
theorem z6j:zI zWM (lp (body f32) 0):=zo (id:=2) (hl:=rfl)
def zZG (a:yB) (b:yB):Wy0 (yB):=.bn (zV6 (a.length+b.length+Int.toNat 0+1) a b 0) λr2=>.k r2
def zHt (a:yB) (b:yB):=(zZG a b).fin default
def z56 (r:yB):ARes ty:=⟨[.pure (.sl 107 r)],[]⟩
def zPh:=zh zRo λx=>((zHt x.1 x.2.1).1,z56 (zHt x.1 x.2.1).2)
theorem z15:SdP 32 zPh:=
 sT (cx':=zWM) (zi ⟨z3e,trivial⟩) call32 func32 (lOK (aC z6j aN))
def z8D:=zbv base 8 [(109,zC5)]
def zZn (a:yB):Wy0 (yB×Int):=.bn (zzB a) λr0=>.i (!r0) (.k ([],6)) (.k (a,0))
def zm5 (a:yB):=(zZn a).fin default
def z6d (r:yB×Int):ARes ty:=⟨[.pure (.sl 107 r.1),.pure (.lit (.int .i64 r.2))],[]⟩
def zP4:=zh zVa λx=>((zm5 x.1).1,z6d (zm5 x.1).2)
theorem z1X:SdP 194 zP4:=
 sT (cx':=z8D) (zi ⟨zJ5,trivial⟩) call194 func194 (lOK aN) (sg:=⟨[.pure,.pure],[]⟩)
def z8y:=zbv base 20 [(32,zPh),(56,zvW),(194,zP4)]
def zNT (a:yB) (b:yB):Wy0 (yB×Int):=.bn (zfK a) λr3=>.i (!r3) (.k ([],1)) (.bn (zfK b) λr2=>.i (!r2) (.k ([],1)) (.bn (zHt a b) λr1=>.bn (zm5 r1) λr0=>.k (r0.1,r0.2)))
def zy6 (a:yB) (b:yB):=(zNT a b).fin default
def zP2:=zh zRo λx=>((zy6 x.1 x.2.1).1,z6d (zy6 x.1 x.2.1).2)
theorem z3b:SdP 127 zP2:=
 sT (cx':=z8y) (zi ⟨z15,zz3,z1X,trivial⟩) call127 func127 (lOK aN) (sg:=⟨[.pure,.pure],[]⟩)
abbrev zEk:=yF×Unit×Int×Unit
abbrev zWr:=yF×Int×Row
def zyn (l:yF) (i:Int) (x_:Row):Wy zEk (Row×Unit) zWr:=.i (decide (i<Int.ofNat l.length)) (.i (decide (0<=i)&&decide (i<Int.ofNat l.length)) (.bn (zi0 (l.getD i.toNat default).Values x_.Values) λr0=>.i (decide (r0<0)) (.h (l,(),(IntKind.i64.wrap (i+1)),()) (x_,())) (.k (l,i,x_))) .d) (.k (l,i,x_))
def zKf (x:zEk) (y:Row×Unit):=zyn x.1 x.2.2.1 y.1
def zVD (n:Nat) (l:yF) (i:Int) (x_:Row):=zB (zKf) default n (l,(),i,()) (x_,())
def z6K (r:zWr):LTree ty:=.done (.exit 0) [.sl 54 r.1,.ptr 320 0,.lit (.int .i64 r.2.1)] [.box (base.enc 54 r.2.2) false]
def z8G:LL ty zEk:=za (lSl 54) (za (zcI 320 0) (za zj zl))
def z7E:BL ty (Row×Unit):=zd7 (zdv (λx=>(⟨x.1,x.2.1⟩:Row)) (λx=>(x.Values,x.Ann,())) (λ_=>rfl) (za (lSl 79) (za (lSl 107) zl))) false (zbe)
def z6T (x:zEk) (y:Row×Unit):Nat:=(x.1.length+Int.toNat x.2.2.1+y.1.Values.length+y.1.Ann.length+1)
def zWT:=zbZ base 80 [(31,zC4),(57,zmK),(127,zP2)] [] [(2,(kpL [0,3,6]))] [(2,1,(kpL [0,3,6]))] [(2,spW z8G z7E (zKf) default z6K z6T)] []
theorem z62:zI zWT (lp (body f73) 0):=zo (id:=2) (hl:=rfl)
def zZb (l:yF) (x_:Row):Wy0 (yF×Bool):=.bn (zVD (l.length+Int.toNat 0+x_.Values.length+x_.Ann.length+1) l 0 x_) λr4=>.i (decide ((0:Int)<=(0:Int))&&decide (0<=r4.2.1)&&decide (r4.2.1<=Int.ofNat r4.1.length)) (.i (decide ((0+(List.take (r4.2.1.toNat - Int.toNat 0) (List.drop (Int.toNat 0) r4.1)).length)*48<=zA)) (.i (decide (r4.2.1<Int.ofNat r4.1.length)) (.i (decide (0<=r4.2.1)&&decide (r4.2.1<Int.ofNat r4.1.length)) (.bn (zzC (r4.1.getD r4.2.1.toNat default).Values r4.2.2.Values) λr3=>.i (r3) (.i (decide (0<=r4.2.1)&&decide (r4.2.1<Int.ofNat r4.1.length)) (.bn (zy6 (r4.1.getD r4.2.1.toNat default).Ann r4.2.2.Ann) λr2=>.i (decide ((([]++List.take (r4.2.1.toNat - Int.toNat 0) (List.drop (Int.toNat 0) r4.1)).length+[Row.mk r4.2.2.Values r2.1].length)*48<=zA)) (.i (decide (0<=IntKind.i64.wrap (r4.2.1+1))&&decide (IntKind.i64.wrap (r4.2.1+1)<=Int.ofNat r4.1.length)&&decide (Int.ofNat r4.1.length<=Int.ofNat r4.1.length)) (.i (decide ((([]++List.take (r4.2.1.toNat - Int.toNat 0) (List.drop (Int.toNat 0) r4.1)++[Row.mk r4.2.2.Values r2.1]).length+(List.take ((Int.ofNat r4.1.length).toNat - (IntKind.i64.wrap (r4.2.1+1)).toNat) (List.drop (IntKind.i64.wrap (r4.2.1+1)).toNat r4.1)).length)*48<=zA)) (.k ([]++List.take (r4.2.1.toNat - Int.toNat 0) (List.drop (Int.toNat 0) r4.1)++[Row.mk r4.2.2.Values r2.1]++List.take ((Int.ofNat r4.1.length).toNat - (IntKind.i64.wrap (r4.2.1+1)).toNat) (List.drop (IntKind.i64.wrap (r4.2.1+1)).toNat r4.1),r2.2==0)) .d) .d) .d) .d) (.i (decide ((([]++List.take (r4.2.1.toNat - Int.toNat 0) (List.drop (Int.toNat 0) r4.1)).length+[r4.2.2].length)*48<=zA)) (.i (decide (0<=r4.2.1)&&decide (r4.2.1<=Int.ofNat r4.1.length)&&decide (Int.ofNat r4.1.length<=Int.ofNat r4.1.length)) (.i (decide ((([]++List.take (r4.2.1.toNat - Int.toNat 0) (List.drop (Int.toNat 0) r4.1)++[r4.2.2]).length+(List.take ((Int.ofNat r4.1.length).toNat - r4.2.1.toNat) (List.drop r4.2.1.toNat r4.1)).length)*48<=zA)) (.k ([]++List.take (r4.2.1.toNat - Int.toNat 0) (List.drop (Int.toNat 0) r4.1)++[r4.2.2]++List.take ((Int.ofNat r4.1.length).toNat - r4.2.1.toNat) (List.drop r4.2.1.toNat r4.1),true)) .d) .d) .d)) .d) (.i (decide ((([]++List.take (r4.2.1.toNat - Int.toNat 0) (List.drop (Int.toNat 0) r4.1)).length+[r4.2.2].length)*48<=zA)) (.i (decide (0<=r4.2.1)&&decide (r4.2.1<=Int.ofNat r4.1.length)&&decide (Int.ofNat r4.1.length<=Int.ofNat r4.1.length)) (.i (decide ((([]++List.take (r4.2.1.toNat - Int.toNat 0) (List.drop (Int.toNat 0) r4.1)++[r4.2.2]).length+(List.take ((Int.ofNat r4.1.length).toNat - r4.2.1.toNat) (List.drop r4.2.1.toNat r4.1)).length)*48<=zA)) (.k ([]++List.take (r4.2.1.toNat - Int.toNat 0) (List.drop (Int.toNat 0) r4.1)++[r4.2.2]++List.take ((Int.ofNat r4.1.length).toNat - r4.2.1.toNat) (List.drop r4.2.1.toNat r4.1),true)) .d) .d) .d)) .d) .d
def zHj (l:yF) (x_:Row):=(zZb l x_).fin default
def z6f (r:yF×Bool):ARes ty:=⟨[.own 54 r.1,.pure (.lit (.bool r.2))],[]⟩
def z9K:AL base (yF×Row×Unit):=zd (ze (vSl 54)) (zd (ze (zbX 54)) zr)
def zO1:=zh z9K λx=>((zHj x.1 x.2.1).1,z6f (zHj x.1 x.2.1).2)
theorem z2g:SdP 73 zO1:=
 sT (cx':=zWT) (zi ⟨zKO,zr1,z3b,trivial⟩) call73 func73 (lOK (aC z62 aN)) (sg:=⟨[.own 54,.pure],[]⟩)
end Go.Proofs.YtoknknbmfmddbaaGreatDoor
end
