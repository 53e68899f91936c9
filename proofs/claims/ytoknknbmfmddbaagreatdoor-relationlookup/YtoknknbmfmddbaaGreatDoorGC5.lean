/- Texts of this claim, joined (the program, its functions in plain words, and what they compute). -/
import Derived.Test.YtoknknbmfmddbaaGreatDoorGC4
set_option autoImplicit false
set_option linter.unusedVariables false
set_option linter.unusedSectionVars false
set_option linter.unusedSimpArgs false
set_option maxRecDepth 1000000
set_option maxHeartbeats 0
noncomputable section
namespace Go.Proofs.YtoknknbmfmddbaaGreatDoor
open Go Go.Ab
open Go.Proofs.Tryz
abbrev zmf:=Unit×Unit×yG×Int×Int×Unit
abbrev zmE:=Relation×(Unit×Unit×Unit)×Unit
abbrev zzT:=Int⊕Relation
abbrev zmx:=Unit×Unit×Unit×Int×Int×Unit
abbrev zmc:=(Unit×Unit×Unit)×(Unit×Unit×Unit)×yG×yI×yG×Unit
abbrev zzc:=Int⊕(yI×yG)
def zMq (t19:yG) (t20:Int) (t21:Int) (r:Relation):Wy zmf zmE zzT:=.i (decide (t21<t20)) (.i (decide (0<=t21)&&decide (t21<Int.ofNat t19.length)) (.bn (zyA r.Columns (t19.getD t21.toNat default).Values) λr5=>.i (!r5) (.k (.inl 7)) (.bn (zcs (t19.getD t21.toNat default).Ann) λr4=>.i (!r4) (.k (.inl 1)) (.h ((),(),t19,t20,(IntKind.i64.wrap (t21+1)),()) (r,((),(),()),())))) .d) (.k (.inr r))
def zzM (x:zmf) (y:zmE):=zMq x.2.2.1 x.2.2.2.1 x.2.2.2.2.1 y.1
def zMg (n:Nat) (t19:yG) (t20:Int) (t21:Int) (r:Relation):=zD (zzM) (.inl default) n ((),(),t19,t20,t21,()) (r,((),(),()),())
def zLt (r:zzT):LTree ty:=.ite (isL r) (.done .ret [.ptr 440 0,.lit (.int .i64 (getL r))] [.box ([.lit (.slice none 0 0),.lit (.slice none 0 0)]) false]) (.done (.exit 0) [.ptr 440 0,.ptr 441 0] [.box (base.enc 25 (getR r)) false,.box ([.lit (.slice none 0 0),.lit (.slice none 0 0)]) false])
def zM0:LL ty zmf:=za (zde 440 0) (za (zde 441 0) (za (lSl 54) (za zj (za zj zn))))
def zMI:BL ty zmE:=zev (zgF (λx=>(⟨x.1,x.2.1⟩:Relation)) (λx=>(x.Columns,x.Rows,())) (λ_=>rfl) (za (lSl 75) (za (lSl 54) zn))) false (zev (za zTL (za zTL zn)) false (zbd))
def zLC (t49:Int) (t50:Int) (t48:yG) (b3:yI) (b4:yG):Wy zmx zmc zzc:=.i (decide (t50<t49)) (.i (decide (0<=t50)&&decide (t50<Int.ofNat t48.length)) (.i (Int.ofNat b4.length==0) (.bn (zvB (t48.getD t50.toNat default) (t48.getD t50.toNat default).Ann) λr8=>.i (decide ((b4.length+[r8].length)*48<=zbm)) (.h ((),(),(),t49,(IntKind.i64.wrap (t50+1)),()) (((),(),()),((),(),()),t48,b3,(b4++[r8]),())) .d) (.i (decide (0<=IntKind.i64.wrap (Int.ofNat b4.length - 1))&&decide (IntKind.i64.wrap (Int.ofNat b4.length - 1)<Int.ofNat b4.length)) (.bn (zdp (b4.getD (IntKind.i64.wrap (Int.ofNat b4.length - 1)).toNat default) (t48.getD t50.toNat default)) λr11=>.i (r11 != 0) (.bn (zvB (t48.getD t50.toNat default) (t48.getD t50.toNat default).Ann) λr9=>.i (decide ((b4.length+[r9].length)*48<=zbm)) (.h ((),(),(),t49,(IntKind.i64.wrap (t50+1)),()) (((),(),()),((),(),()),t48,b3,(b4++[r9]),())) .d) (.i (decide (0<=IntKind.i64.wrap (Int.ofNat b4.length - 1))&&decide (IntKind.i64.wrap (Int.ofNat b4.length - 1)<Int.ofNat b4.length)) (.bn (zwR (b4.getD (IntKind.i64.wrap (Int.ofNat b4.length - 1)).toNat default).Ann (t48.getD t50.toNat default).Ann) λr10=>.i (r10.2 != 0) (.k (.inl (r10.2))) (.i (decide (0<=IntKind.i64.wrap (Int.ofNat b4.length - 1))&&decide (IntKind.i64.wrap (Int.ofNat b4.length - 1)<Int.ofNat b4.length)) (.i (decide ((IntKind.i64.wrap (Int.ofNat b4.length - 1)).toNat<b4.length)) (.h ((),(),(),t49,(IntKind.i64.wrap (t50+1)),()) (((),(),()),((),(),()),t48,b3,(b4.set (IntKind.i64.wrap (Int.ofNat b4.length - 1)).toNat (Row.mk (b4.getD (IntKind.i64.wrap (Int.ofNat b4.length - 1)).toNat default).Values r10.1)),())) .d) .d)) .d)) .d)) .d) (.k (.inr (b3,b4)))
def zx1 (x:zmx) (y:zmc):=zLC x.2.2.2.1 x.2.2.2.2.1 y.2.2.1 y.2.2.2.1 y.2.2.2.2.1
def zKR (n:Nat) (t49:Int) (t50:Int) (t48:yG) (b3:yI) (b4:yG):=zD (zx1) (.inl default) n ((),(),(),t49,t50,()) (((),(),()),((),(),()),t48,b3,b4,())
def zJu (r:zzc):LTree ty:=.ite (isL r) (.done .ret [.ptr 440 0,.lit (.int .i64 (getL r))] [.box ([.lit (.slice none 0 0),.lit (.slice none 0 0)]) false]) (.done (.exit 2) [.ptr 440 0,.ptr 441 0] [.box ([.lit (.slice none 0 0),.lit (.slice none 0 0)]) false,.box ([.own 442,.own 443]) false,.arr 75 (getR r).1 false,.arr 54 (getR r).2 false])
def zLJ:LL ty zmx:=za (zde 440 0) (za (zde 441 0) (za (zcG 442) (za zj (za zj zn))))
def zLw:BL ty zmc:=zev (za zTL (za zTL zn)) false (zev (za (zcG 443) (za (zcG 444) zn)) false (zcV 54 false (zcV 75 false (zcV 54 false (zbd)))))
def zKd (x:zmf) (y:zmE):Nat:=(x.2.2.1.length+Int.toNat x.2.2.2.1+Int.toNat x.2.2.2.2.1+y.1.Columns.length+y.1.Rows.length+1000)
def zI6 (x:zmx) (y:zmc):Nat:=(Int.toNat x.2.2.2.1+Int.toNat x.2.2.2.2.1+y.2.2.1.length+y.2.2.2.1.length+y.2.2.2.2.1.length+1000)
def zr6:=zb4 zby 110 [(50,zmS),(51,zwP),(52,zce),(53,zeU),(61,zjM),(67,zj8),(68,znm),(69,zim),(70,ziv),(71,zBk),(72,zuX)] [(67,[true,false]),(70,[true,false])] [(4,(kpL [1,2,19,20,21])),(15,[(2,.keep),(7,.boxOwn [(1,54)]),(48,.keep),(49,.keep),(50,.keep)])] [(4,1,(kpL [1,2])),(4,0,(kpL [2,3])),(15,3,(kpL [2,7])),(15,0,(kpL [2,3]))] [(4,spW zM0 zMI (zzM) (.inl default) zLt zKd),(15,spW zLJ zLw (zx1) (.inl default) zJu zI6)] []
theorem zLe:zM zr6 (lp (body f28) 0):=zu (id:=4) (hl:=rfl)
theorem zIF:zM zr6 (lp (body f28) 1):=zu (id:=15) (hl:=rfl)
def zN2 (r:Relation):Wy0 (Relation×Int):=.bn (zmy r.Columns) λr22=>.i (!r22) (.k ((⟨[],[]⟩:Relation),1)) (.bn (zMg (r.Rows.length+(Int.ofNat r.Rows.length).toNat +Int.toNat 0+r.Columns.length+r.Rows.length+1000) r.Rows (Int.ofNat r.Rows.length) 0 r) λr21=>.i (isL r21) (.k ((⟨[],[]⟩:Relation),getL r21)) (.bn (zkg (getR r21).Rows) λr20=>.bn (zhN r20) λr19=>.bn (zf3 r19) λr18=>.bn (zhu (getR r21).Columns) λr17=>.bn (zKR ((Int.ofNat r18.length).toNat +Int.toNat 0+r18.length+r17.length+0+1000) (Int.ofNat r18.length) 0 r18 r17 []) λr16=>.i (isL r16) (.k ((⟨[],[]⟩:Relation),getL r16)) (.i (decide (Int.ofNat (getR r16).2.length>1024)) (.k ((⟨[],[]⟩:Relation),6)) (.k ((⟨(getR r16).1,(getR r16).2⟩:Relation),0)))))
def zDE (r:Relation):=(zN2 r).fin default
def zLm (r:Relation×Int):ARes ty:=⟨[.pure (.agg (base.enc 25 r.1)),.pure (.lit (.int .i64 r.2))],[]⟩
def zw8:=zh zUG λx=>((zDE x.1).1,zLm (zDE x.1).2)
theorem zHm:Sound Tryz.prog zby 28 zw8:=
 sU (cx':=zr6) (zk ⟨zs2.nodr,zBN.nodr,zck.nodr,zfF.nodr,zsK.nodr,ztZ.nodr,zwT.nodr,zlK.nodr,zrk.nodr,zMy,zBo,trivial⟩) call28 func28 (lOK (aC zLe (aC zIF aN))) (sg:=⟨[.pure,.pure],[]⟩)
def zZz:=zbG zby 50 [(12,zAj),(14,zvo),(16,zBV),(28,zw8),(42,zFy)]
def z0T:Wy0 (Bool):=.k true
def zVj:Bool×Bool:=(z0T).fin default
def z0p:AL zby (Unit):=zw
def zG6:=zh z0p λx=>((zVj ).1,zQZ (zVj ).2)
theorem zUu:Sound Tryz.prog zby 10 zG6:=
 sU (cx':=zZz) (zk ⟨zMA,zAC.nodr,zPr.nodr,zHm,zRP.nodr,trivial⟩) call10 func10 (lOK aN)
abbrev zwQ:=yH×Int×Int×Unit
abbrev zMu:=Bool⊕(yH×Int)
def zCr (l:yH) (n_:Int) (i:Int):Wy zwQ Unit zMu:=.i (decide (i<Int.ofNat l.length)) (.i (decide (0<=i)&&decide (i<Int.ofNat l.length)) (.i (decide (Int.ofNat (l.getD i.toNat default).Text.size>300)) (.k (.inl false)) (.h (l,n_,(IntKind.i64.wrap (i+1)),()) ())) .d) (.k (.inr (l,n_)))
def zMs (x:zwQ) (y:Unit):=zCr x.1 x.2.1 x.2.2.1
def zCS (n:Nat) (l:yH) (n_:Int) (i:Int):=zD (zMs) (.inl default) n (l,n_,i,()) ()
def zYj (r:zMu):LTree ty:=.ite (isL r) (.done .ret [.lit (.bool (getL r))] []) (.done (.exit 0) [.sl 79 (getR r).1,.lit (.int .i64 (getR r).2)] [])
def zYy:LL ty zwQ:=za (lSl 79) (za zj (za zj zn))
def zXy (x:zwQ) (y:Unit):Nat:=(x.1.length+Int.toNat x.2.1+Int.toNat x.2.2.1+1)
def zNs:=zb4 base 23 [] [] [(2,(kpL [0,1,5]))] [(2,1,(kpL [0,1])),(2,0,(kpL [4]))] [(2,spW zYy z0j (zMs) (.inl default) zYj zXy)] []
theorem zX1:zM zNs (lp (body f18) 0):=zu (id:=2) (hl:=rfl)
def zPT (l:yH) (n_:Int):Wy0 (Bool):=.bn (zCS (l.length+n_.toNat +Int.toNat 0+1) l n_ 0) λr0=>.i (isL r0) (.k (getL r0)) (.k (decide (Int.ofNat (getR r0).1.length<=(getR r0).2)))
def zn8 (l:yH) (n_:Int):=(zPT l n_).fin default
def z0r:AL base (yH×Int×Unit):=zd (zg (vSl 79)) (zd (zg ziy) zw)
def zyU:=zh z0r λx=>((zn8 x.1 x.2.1).1,zQZ (zn8 x.1 x.2.1).2)
theorem zFC:SdP 18 zyU:=
 sT (cx':=zNs) (zk trivial) call18 func18 (lOK (aC zX1 aN))
def zk8 (F:yC->yC->Bool×Int):Ab.Spec ty:=zh zUB λx=>((F x.1 x.2.1).1,zLf (F x.1 x.2.1).2)
def zPN:AL base (yD×yD×Unit):=zd (zg (vSl 169)) (zd (zg (vSl 169)) zw)
def znN (F:yD->yD->Bool×Int):Ab.Spec ty:=zh zPN λx=>((F x.1 x.2.1).1,zLf (F x.1 x.2.1).2)
def zX3:=zbG base 11 []
def zMa (a:Int) (b:Int):Wy0 (Int):=.i (decide (a<b)) (.k (-1:Int)) (.i (decide (a>b)) (.k 1) (.k 0))
def zcK (a:Int) (b:Int):=(zMa a b).fin default
def zj2:=zh zQ2 λx=>((zcK x.1 x.2.1).1,zLf (zcK x.1 x.2.1).2)
theorem zlB:SdP 129 zj2:=
 sT (cx':=zX3) (zk trivial) call129 func129 (lOK aN)
abbrev ztj:=yB×yB×Int×Unit
abbrev zH7:=Int⊕(yB×yB)
def zRI (z8:yC->yC->Bool×Int) (a:yB) (b:yB) (i:Int):Wy ztj Unit zH7:=.i (decide (i<Int.ofNat a.length)) (.i (decide (i<Int.ofNat b.length)) (.i (decide (0<=i)&&decide (i<Int.ofNat a.length)) (.i (decide (0<=i)&&decide (i<Int.ofNat b.length)) (.bn (z8 (a.getD i.toNat default).Fs (b.getD i.toNat default).Fs) λr1=>.i (r1 != 0) (.k (.inl (r1))) (.i (decide (0<=i)&&decide (i<Int.ofNat a.length)) (.i (decide (0<=i)&&decide (i<Int.ofNat b.length)) (.bn (zcK (a.getD i.toNat default).Cf (b.getD i.toNat default).Cf) λr0=>.i (r0 != 0) (.k (.inl (r0))) (.h (a,b,(IntKind.i64.wrap (i+1)),()) ())) .d) .d)) .d) .d) (.k (.inr (a,b)))) (.k (.inr (a,b)))
def zDg (z8:yC->yC->Bool×Int) (x:ztj) (y:Unit):=zRI z8 x.1 x.2.1 x.2.2.1
def zSW (z8:yC->yC->Bool×Int) (n:Nat) (a:yB) (b:yB) (i:Int):=zD (zDg z8) (.inl default) n (a,b,i,()) ()
def zRm (r:zH7):LTree ty:=.ite (isL r) (.done .ret [.lit (.int .i64 (getL r))] []) (.done (.exit 0) [.sl 107 (getR r).1,.sl 107 (getR r).2] [])
def zSo:LL ty ztj:=za (lSl 107) (za (lSl 107) (za zj zn))
def zRh (x:ztj) (y:Unit):Nat:=(x.1.length+x.2.1.length+Int.toNat x.2.2.1+1)
def zDz (z8:yC->yC->Bool×Int):=zb4 base 53 [(110,(zk8 z8)),(129,zj2)] [] [(2,(kpL [0,1,5]))] [(2,1,(kpL [0,1])),(2,0,(kpL [4]))] [(2,spW zSo z0j (zDg z8) (.inl default) zRm zRh)] []
theorem zQX (z8:yC->yC->Bool×Int):zM (zDz z8) (lp (body f76) 0):=zu (id:=2) (hl:=rfl)
def zU0 (z8:yC->yC->Bool×Int) (a:yB) (b:yB):Wy0 (Int):=.bn (zSW z8 (a.length+b.length+Int.toNat 0+1) a b 0) λr5=>.i (isL r5) (.k (getL r5)) (.bn (zcK (Int.ofNat (getR r5).1.length) (Int.ofNat (getR r5).2.length)) λr4=>.k r4)
def zvJ (z8:yC->yC->Bool×Int) (a:yB) (b:yB):=(zU0 z8 a b).fin default
theorem zMH (z8:yC->yC->Bool×Int) (zGS:SdP 110 (zk8 z8)):SdP 76 (zdA (zvJ z8)):=
 sT (cx':=(zDz z8)) (zk ⟨zGS,zlB,trivial⟩) call76 func76 (lOK (aC (zQX z8) aN))
def z0o:=zbG base 4 []
def zSf (less:Bool):Wy0 (Int):=.i (less) (.k (-1:Int)) (.k 1)
def zqp (less:Bool):=(zSf less).fin default
def z1H:AL base (Bool×Unit):=zd (zg zba3) zw
def zA5:=zh z1H λx=>((zqp x.1).1,zLf (zqp x.1).2)
theorem zIl:SdP 114 zA5:=
 sT (cx':=z0o) (zk trivial) call114 func114 (lOK aN)
def zWo:=zbG base 38 [(114,zA5)]
def zJz (a:Value) (b:Value):Wy0 (Int):=.i (a.Kind != b.Kind) (.bn (zqp (decide (a.Kind<b.Kind))) λr0=>.k r0) (.i (a.Int != b.Int) (.bn (zqp (decide (a.Int<b.Int))) λr1=>.k r1) (.i (!a.Text.toList==b.Text.toList) (.bn (zqp (Op.bytesLess a.Text.toList b.Text.toList)) λr2=>.k r2) (.k 0)))
def ziu (a:Value) (b:Value):=(zJz a b).fin default
def zqF:=zh zXq λx=>((ziu x.1 x.2.1).1,zLf (ziu x.1 x.2.1).2)
theorem zvk:SdP 113 zqF:=
 sT (cx':=zWo) (zk ⟨zIl,trivial⟩) call113 func113 (lOK aN)
def zRn:=zbG base 19 [(129,zj2)]
def zDV (a:RowID) (b:RowID):Wy0 (Int):=.bn (zcK a.Table b.Table) λr1=>.i (r1 != 0) (.k r1) (.bn (zcK a.Seq b.Seq) λr0=>.k r0)
def ziC (a:RowID) (b:RowID):=(zDV a b).fin default
def zSA:AL base (RowID×RowID×Unit):=zd (zg (zcj 63)) (zd (zg (zcj 63)) zw)
def zsh:=zh zSA λx=>((ziC x.1 x.2.1).1,zLf (ziC x.1 x.2.1).2)
theorem zx3:SdP 189 zsh:=
 sT (cx':=zRn) (zk ⟨zlB,trivial⟩) call189 func189 (lOK aN)
abbrev znI:=Unit×Unit×Int×Unit
abbrev znv:=At×At×Unit
abbrev zAH:=Int⊕(At×At)
def zrz (zP:yB->yB->Bool×Int) (zbj:yD->yD->Bool×Int) (i:Int) (a:At) (b:At):Wy znI znv zAH:=.i (decide (i<Int.ofNat a.Ag.length)) (.i (decide (i<Int.ofNat b.Ag.length)) (.i (decide (0<=i)&&decide (i<Int.ofNat a.Ag.length)) (.i (decide (0<=i)&&decide (i<Int.ofNat b.Ag.length)) (.bn (zP (a.Ag.getD i.toNat default) (b.Ag.getD i.toNat default)) λr0=>.i (r0 != 0) (.k (.inl (r0))) (.h ((),(),(IntKind.i64.wrap (i+1)),()) (a,b,()))) .d) .d) (.k (.inr (a,b)))) (.k (.inr (a,b)))
def zyi (zP:yB->yB->Bool×Int) (zbj:yD->yD->Bool×Int) (x:znI) (y:znv):=zrz zP zbj x.2.2.1 y.1 y.2.1
def zrx (zP:yB->yB->Bool×Int) (zbj:yD->yD->Bool×Int) (n:Nat) (i:Int) (a:At) (b:At):=zD (zyi zP zbj) (.inl default) n ((),(),i,()) (a,b,())
def zJo (r:zAH):LTree ty:=.ite (isL r) (.done .ret [.lit (.int .i64 (getL r))] []) (.done (.exit 0) [.ptr 384 0,.ptr 385 0] [.box (base.enc 143 (getR r).1) false,.box (base.enc 143 (getR r).2) false])
def zKE:LL ty znI:=za (zde 384 0) (za (zde 385 0) (za zj zn))
def zKD:BL ty znv:=zev (zgF (λx=>(⟨x.1,⟨x.2.1,x.2.2.1⟩,x.2.2.2.1,x.2.2.2.2.1,x.2.2.2.2.2.1,x.2.2.2.2.2.2.1,⟨x.2.2.2.2.2.2.2.1,x.2.2.2.2.2.2.2.2.1,x.2.2.2.2.2.2.2.2.2.1⟩⟩:At)) (λx=>(x.Kind,x.Row.Table,x.Row.Seq,x.Ag,x.Func,x.Items,x.Op,x.Bd.Kind,x.Bd.Int,x.Bd.Text,())) (λ_=>rfl) (za (zN .i64) (za (zN .i64) (za (zN .i64) (za (lSl 51) (za (zN .i64) (za (lSl 169) (za (zN .i64) (za (zN .i64) (za (zN .i64) (za ztm zn))))))))))) false (zev (zgF (λx=>(⟨x.1,⟨x.2.1,x.2.2.1⟩,x.2.2.2.1,x.2.2.2.2.1,x.2.2.2.2.2.1,x.2.2.2.2.2.2.1,⟨x.2.2.2.2.2.2.2.1,x.2.2.2.2.2.2.2.2.1,x.2.2.2.2.2.2.2.2.2.1⟩⟩:At)) (λx=>(x.Kind,x.Row.Table,x.Row.Seq,x.Ag,x.Func,x.Items,x.Op,x.Bd.Kind,x.Bd.Int,x.Bd.Text,())) (λ_=>rfl) (za (zN .i64) (za (zN .i64) (za (zN .i64) (za (lSl 51) (za (zN .i64) (za (lSl 169) (za (zN .i64) (za (zN .i64) (za (zN .i64) (za ztm zn))))))))))) false (zbd))
def zJk (x:znI) (y:znv):Nat:=(Int.toNat x.2.2.1+y.1.Ag.length+y.1.Items.length+y.2.1.Ag.length+y.2.1.Items.length+1)
def zxU (zP:yB->yB->Bool×Int) (zbj:yD->yD->Bool×Int):=zb4 base 96 [(76,(zdA zP)),(113,zqF),(129,zj2),(188,(znN zbj)),(189,zsh)] [] [(8,(kpL [2,3,7]))] [(8,1,(kpL [2,3])),(8,0,(kpL [4]))] [(8,spW zKE zKD (zyi zP zbj) (.inl default) zJo zJk)] []
theorem zI5 (zP:yB->yB->Bool×Int) (zbj:yD->yD->Bool×Int):zM (zxU zP zbj) (lp (body f112) 0):=zu (id:=8) (hl:=rfl)
def zzs (zP:yB->yB->Bool×Int) (zbj:yD->yD->Bool×Int) (a:At) (b:At):Wy0 (Int):=.bn (zcK a.Kind b.Kind) λr9=>.i (r9 != 0) (.k r9) (.bn (ziC a.Row b.Row) λr8=>.i (r8 != 0) (.k r8) (.bn (zrx zP zbj (Int.toNat 0+a.Ag.length+a.Items.length+b.Ag.length+b.Items.length+1) 0 (At.mk a.Kind a.Row a.Ag a.Func a.Items a.Op a.Bd) (At.mk b.Kind b.Row b.Ag b.Func b.Items b.Op b.Bd)) λr7=>.i (isL r7) (.k (getL r7)) (.bn (zcK (Int.ofNat (getR r7).1.Ag.length) (Int.ofNat (getR r7).2.Ag.length)) λr6=>.i (r6 != 0) (.k r6) (.bn (zcK (getR r7).1.Func (getR r7).2.Func) λr5=>.i (r5 != 0) (.k r5) (.bn (zbj (getR r7).1.Items (getR r7).2.Items) λr4=>.i (r4 != 0) (.k r4) (.bn (zcK (getR r7).1.Op (getR r7).2.Op) λr3=>.i (r3 != 0) (.k r3) (.bn (ziu (getR r7).1.Bd (getR r7).2.Bd) λr2=>.k r2)))))))
def zky (zP:yB->yB->Bool×Int) (zbj:yD->yD->Bool×Int) (a:At) (b:At):=(zzs zP zbj a b).fin default
theorem zGx (zP:yB->yB->Bool×Int) (zbj:yD->yD->Bool×Int) (zxB:SdP 76 (zdA zP)) (zLI:SdP 188 (znN zbj)):SdP 112 (zgb (zky zP zbj)):=
 sT (cx':=(zxU zP zbj)) (zk ⟨zxB,zvk,zlB,zLI,zx3,trivial⟩) call112 func112 (lOK (aC (zI5 zP zbj) aN))
abbrev zkk:=yC×yC×Int×Unit
abbrev zxt:=Int⊕(yC×yC)
def zvK (zbs:At->At->Bool×Int) (a:yC) (b:yC) (i:Int):Wy zkk Unit zxt:=.i (decide (i<Int.ofNat a.length)) (.i (decide (i<Int.ofNat b.length)) (.i (decide (0<=i)&&decide (i<Int.ofNat a.length)) (.i (decide (0<=i)&&decide (i<Int.ofNat b.length)) (.bn (zbs (At.mk (a.getD i.toNat default).At.Kind (a.getD i.toNat default).At.Row (a.getD i.toNat default).At.Ag (a.getD i.toNat default).At.Func (a.getD i.toNat default).At.Items (a.getD i.toNat default).At.Op (a.getD i.toNat default).At.Bd) (At.mk (b.getD i.toNat default).At.Kind (b.getD i.toNat default).At.Row (b.getD i.toNat default).At.Ag (b.getD i.toNat default).At.Func (b.getD i.toNat default).At.Items (b.getD i.toNat default).At.Op (b.getD i.toNat default).At.Bd)) λr1=>.i (r1 != 0) (.k (.inl (r1))) (.i (decide (0<=i)&&decide (i<Int.ofNat a.length)) (.i (decide (0<=i)&&decide (i<Int.ofNat b.length)) (.bn (zcK (a.getD i.toNat default).Exp (b.getD i.toNat default).Exp) λr0=>.i (r0 != 0) (.k (.inl (r0))) (.h (a,b,(IntKind.i64.wrap (i+1)),()) ())) .d) .d)) .d) .d) (.k (.inr (a,b)))) (.k (.inr (a,b)))
def zi4 (zbs:At->At->Bool×Int) (x:zkk) (y:Unit):=zvK zbs x.1 x.2.1 x.2.2.1
def zvQ (zbs:At->At->Bool×Int) (n:Nat) (a:yC) (b:yC) (i:Int):=zD (zi4 zbs) (.inl default) n (a,b,i,()) ()
def zEA (r:zxt):LTree ty:=.ite (isL r) (.done .ret [.lit (.int .i64 (getL r))] []) (.done (.exit 0) [.sl 145 (getR r).1,.sl 145 (getR r).2] [])
def zGA:LL ty zkk:=za (lSl 145) (za (lSl 145) (za zj zn))
def zFr (x:zkk) (y:Unit):Nat:=(x.1.length+x.2.1.length+Int.toNat x.2.2.1+1)
def zvO (zbs:At->At->Bool×Int):=zb4 base 53 [(112,(zgb zbs)),(129,zj2)] [] [(2,(kpL [0,1,5]))] [(2,1,(kpL [0,1])),(2,0,(kpL [4]))] [(2,spW zGA z0j (zi4 zbs) (.inl default) zEA zFr)] []
theorem zEu (zbs:At->At->Bool×Int):zM (zvO zbs) (lp (body f110) 0):=zu (id:=2) (hl:=rfl)
def zwm (zbs:At->At->Bool×Int) (a:yC) (b:yC):Wy0 (Int):=.bn (zvQ zbs (a.length+b.length+Int.toNat 0+1) a b 0) λr5=>.i (isL r5) (.k (getL r5)) (.bn (zcK (Int.ofNat (getR r5).1.length) (Int.ofNat (getR r5).2.length)) λr4=>.k r4)
def zii (zbs:At->At->Bool×Int) (a:yC) (b:yC):=(zwm zbs a b).fin default
theorem zCY (zbs:At->At->Bool×Int) (zM1:SdP 112 (zgb zbs)):SdP 110 (zk8 (zii zbs)):=
 sT (cx':=(zvO zbs)) (zk ⟨zM1,zlB,trivial⟩) call110 func110 (lOK (aC (zEu zbs) aN))
abbrev zmw:=yD×yD×Int×Unit
abbrev zzQ:=Int⊕(yD×yD)
def zIQ (zP:yB->yB->Bool×Int) (a:yD) (b:yD) (i:Int):Wy zmw Unit zzQ:=.i (decide (i<Int.ofNat a.length)) (.i (decide (i<Int.ofNat b.length)) (.i (decide (0<=i)&&decide (i<Int.ofNat a.length)) (.i (decide (0<=i)&&decide (i<Int.ofNat b.length)) (.bn (ziu (a.getD i.toNat default).Value (b.getD i.toNat default).Value) λr1=>.i (r1 != 0) (.k (.inl (r1))) (.i (decide (0<=i)&&decide (i<Int.ofNat a.length)) (.i (decide (0<=i)&&decide (i<Int.ofNat b.length)) (.bn (zP (a.getD i.toNat default).Ann (b.getD i.toNat default).Ann) λr0=>.i (r0 != 0) (.k (.inl (r0))) (.h (a,b,(IntKind.i64.wrap (i+1)),()) ())) .d) .d)) .d) .d) (.k (.inr (a,b)))) (.k (.inr (a,b)))
def zxc (zP:yB->yB->Bool×Int) (x:zmw) (y:Unit):=zIQ zP x.1 x.2.1 x.2.2.1
def zJg (zP:yB->yB->Bool×Int) (n:Nat) (a:yD) (b:yD) (i:Int):=zD (zxc zP) (.inl default) n (a,b,i,()) ()
def zHN (r:zzQ):LTree ty:=.ite (isL r) (.done .ret [.lit (.int .i64 (getL r))] []) (.done (.exit 0) [.sl 169 (getR r).1,.sl 169 (getR r).2] [])
def zIT:LL ty zmw:=za (lSl 169) (za (lSl 169) (za zj zn))
def zHs (x:zmw) (y:Unit):Nat:=(x.1.length+x.2.1.length+Int.toNat x.2.2.1+1)
def zxd (zP:yB->yB->Bool×Int):=zb4 base 53 [(76,(zdA zP)),(113,zqF),(129,zj2)] [] [(2,(kpL [0,1,5]))] [(2,1,(kpL [0,1])),(2,0,(kpL [4]))] [(2,spW zIT z0j (zxc zP) (.inl default) zHN zHs)] []
theorem zHj (zP:yB->yB->Bool×Int):zM (zxd zP) (lp (body f188) 0):=zu (id:=2) (hl:=rfl)
def zLA (zP:yB->yB->Bool×Int) (a:yD) (b:yD):Wy0 (Int):=.bn (zJg zP (a.length+b.length+Int.toNat 0+1) a b 0) λr5=>.i (isL r5) (.k (getL r5)) (.bn (zcK (Int.ofNat (getR r5).1.length) (Int.ofNat (getR r5).2.length)) λr4=>.k r4)
def znB (zP:yB->yB->Bool×Int) (a:yD) (b:yD):=(zLA zP a b).fin default
theorem zE8 (zP:yB->yB->Bool×Int) (zxB:SdP 76 (zdA zP)):SdP 188 (znN (znB zP)):=
 sT (cx':=(zxd zP)) (zk ⟨zxB,zvk,zlB,trivial⟩) call188 func188 (lOK (aC (zHj zP) aN))
def zjN:Nat->(yB->yB->Bool×Int)×(yC->yC->Bool×Int)×(At->At->Bool×Int)×(yD->yD->Bool×Int)
 | 0=>(λ_ _=>(false,default),λ_ _=>(false,default),λ_ _=>(false,default),λ_ _=>(false,default))
 | n+1=>(zvJ ((zjN n).2.1),zii ((zjN n).2.2.1),zky ((zjN n).1) ((zjN n).2.2.2),znB ((zjN n).1))
def zmn (n:Nat):yB->yB->Bool×Int:=(zjN n).1
def zlg (n:Nat):yC->yC->Bool×Int:=(zjN n).2.1
def zpf (n:Nat):At->At->Bool×Int:=(zjN n).2.2.1
def znZ (n:Nat):yD->yD->Bool×Int:=(zjN n).2.2.2
theorem zSB (n:Nat):zmn (n+1)=zvJ (zlg n):=rfl
theorem zGs (n:Nat):zlg (n+1)=zii (zpf n):=rfl
theorem zLy (n:Nat):zpf (n+1)=zky (zmn n) (znZ n):=rfl
theorem zJe (n:Nat):znZ (n+1)=znB (zmn n):=rfl
theorem zNB:∀ n,SdP 76 (zdA (zmn n))/\SdP 110 (zk8 (zlg n))/\SdP 112 (zgb (zpf n))/\SdP 188 (znN (znZ n))
 | 0=>⟨zbl call76 (λ_=>rfl),zbl call110 (λ_=>rfl),zbl call112 (λ_=>rfl),zbl call188 (λ_=>rfl)⟩
 | n+1=>by
  have ih:=zNB n;exact ⟨zMH _ (ih.2.1),zCY _ (ih.2.2.1),zGx _ _ (ih.1) (ih.2.2.2),zE8 _ (ih.1)⟩
def zEw:yB->yB->Bool×Int:=zmn 1000
def zDq:Ab.Spec ty:=zdA zEw
theorem zRf:SdP 76 zDq:=(zNB 1000).1
def z0t:=zbG base 9 [(76,zDq)]
def zR2 (a:yB) (b:yB):Wy0 (Bool):=.bn (zEw a b) λr0=>.k (r0==0)
def zAv (a:yB) (b:yB):=(zR2 a b).fin default
def zKa:=zh zOq λx=>((zAv x.1 x.2.1).1,zQZ (zAv x.1 x.2.1).2)
theorem zWt:SdP 33 zKa:=
 sT (cx':=z0t) (zk ⟨zRf,trivial⟩) call33 func33 (lOK aN)
def zZA:AL base (yB×Int×Int×Unit):=zd (zg (vSl 107)) (zd (zg (zfx .i64)) (zd (zg (zfx .i64)) zw))
def zsp (F:yB->Int->Int->Bool×Int):Ab.Spec ty:=zh zZA λx=>((F x.1 x.2.1 x.2.2.1).1,zLf (F x.1 x.2.1 x.2.2.1).2)
abbrev zh2:=yB×Int×Int×Int×Int×Int×Unit×Int×Unit
abbrev zJ0:=yB×Int×Int×Int×Int×Int×At
abbrev zJ1:=yB×Int×Int×Int×Int×Int
abbrev zvE:=yB×Int×Int×Int×Int×Int×Unit
abbrev zJL:=yB×Int×Int×Int×Int
abbrev zvz:=yB×Int×Int×Int×Int×Unit
def zww (zF:yB->Int->Int->Bool×Int) (a:yB) (limit:Int) (zcM:Int) (n_:Int) (i:Int) (k:Int) (j:Int) (x_:At):Wy zh2 (At×Unit) zJ0:=.i (decide (j<Int.ofNat x_.Ag.length)) (.i (decide (n_<=limit)) (.i (decide (0<=j)&&decide (j<Int.ofNat x_.Ag.length)) (.bn (zF (x_.Ag.getD j.toNat default) (IntKind.i64.wrap (limit - n_)) (IntKind.i64.wrap (zcM - 1))) λr0=>.h (a,limit,zcM,(IntKind.i64.wrap (n_+r0)),i,k,(),(IntKind.i64.wrap (j+1)),()) (x_,())) .d) (.k (a,limit,zcM,n_,i,k,x_))) (.k (a,limit,zcM,n_,i,k,x_))
def zDI (zF:yB->Int->Int->Bool×Int) (x:zh2) (y:At×Unit):=zww zF x.1 x.2.1 x.2.2.1 x.2.2.2.1 x.2.2.2.2.1 x.2.2.2.2.2.1 x.2.2.2.2.2.2.2.1 y.1
def zwv (zF:yB->Int->Int->Bool×Int) (n:Nat) (a:yB) (limit:Int) (zcM:Int) (n_:Int) (i:Int) (k:Int) (j:Int) (x_:At):=zD (zDI zF) default n (a,limit,zcM,n_,i,k,(),j,()) (x_,())
def zQj (r:zJ0):LTree ty:=.done (.exit 4) [.sl 107 r.1,.lit (.int .i64 r.2.1),.lit (.int .i64 r.2.2.1),.lit (.int .i64 r.2.2.2.1),.lit (.int .i64 r.2.2.2.2.1),.lit (.int .i64 r.2.2.2.2.2.1),.ptr 544 0] [.box (base.enc 143 r.2.2.2.2.2.2) false]
def zRU:LL ty zh2:=za (lSl 107) (za zj (za zj (za zj (za zj (za zj (za (zde 544 0) (za zj zn)))))))
def zSt:BL ty (At×Unit):=zev (zgF (λx=>(⟨x.1,⟨x.2.1,x.2.2.1⟩,x.2.2.2.1,x.2.2.2.2.1,x.2.2.2.2.2.1,x.2.2.2.2.2.2.1,⟨x.2.2.2.2.2.2.2.1,x.2.2.2.2.2.2.2.2.1,x.2.2.2.2.2.2.2.2.2.1⟩⟩:At)) (λx=>(x.Kind,x.Row.Table,x.Row.Seq,x.Ag,x.Func,x.Items,x.Op,x.Bd.Kind,x.Bd.Int,x.Bd.Text,())) (λ_=>rfl) (za (zN .i64) (za (zN .i64) (za (zN .i64) (za (lSl 51) (za (zN .i64) (za (lSl 169) (za (zN .i64) (za (zN .i64) (za (zN .i64) (za ztm zn))))))))))) false (zbd)
def zwC (zF:yB->Int->Int->Bool×Int) (a:yB) (limit:Int) (zcM:Int) (n_:Int) (i:Int) (k:Int) (j:Int) (x_:At):Wy zh2 (At×Unit) zJ1:=.i (decide (j<Int.ofNat x_.Items.length)) (.i (decide (n_<=limit)) (.i (decide (0<=j)&&decide (j<Int.ofNat x_.Items.length)) (.i (decide (0<=j)&&decide (j<Int.ofNat x_.Items.length)) (.bn (zF (x_.Items.getD j.toNat default).Ann (IntKind.i64.wrap (limit - n_)) (IntKind.i64.wrap (zcM - 1))) λr2=>.h (a,limit,zcM,(IntKind.i64.wrap (IntKind.i64.wrap (n_+Int.ofNat (x_.Items.getD j.toNat default).Value.Text.size)+r2)),i,k,(),(IntKind.i64.wrap (j+1)),()) (x_,())) .d) .d) (.k (a,limit,zcM,n_,i,k))) (.k (a,limit,zcM,n_,i,k))
def zDy (zF:yB->Int->Int->Bool×Int) (x:zh2) (y:At×Unit):=zwC zF x.1 x.2.1 x.2.2.1 x.2.2.2.1 x.2.2.2.2.1 x.2.2.2.2.2.1 x.2.2.2.2.2.2.2.1 y.1
def zwM (zF:yB->Int->Int->Bool×Int) (n:Nat) (a:yB) (limit:Int) (zcM:Int) (n_:Int) (i:Int) (k:Int) (j:Int) (x_:At):=zD (zDy zF) default n (a,limit,zcM,n_,i,k,(),j,()) (x_,())
def zRa (r:zJ1):LTree ty:=.done (.exit 6) [.sl 107 r.1,.lit (.int .i64 r.2.1),.lit (.int .i64 r.2.2.1),.lit (.int .i64 r.2.2.2.1),.lit (.int .i64 r.2.2.2.2.1),.lit (.int .i64 r.2.2.2.2.2)] []
def zxH (zF:yB->Int->Int->Bool×Int) (a:yB) (limit:Int) (zcM:Int) (n_:Int) (i:Int) (k:Int):Wy zvE Unit zJL:=.i (decide (0<=i)&&decide (i<Int.ofNat a.length)) (.i (decide (k<Int.ofNat (a.getD i.toNat default).Fs.length)) (.i (decide (n_<=limit)) (.i (decide (0<=i)&&decide (i<Int.ofNat a.length)) (.i (decide (0<=k)&&decide (k<Int.ofNat (a.getD i.toNat default).Fs.length)) (.bn (zwv zF (a.length+limit.toNat +zcM.toNat +(IntKind.i64.wrap (IntKind.i64.wrap (IntKind.i64.wrap (n_+Int.ofNat ((a.getD i.toNat default).Fs.getD k.toNat default).At.Items.length)+Int.ofNat ((a.getD i.toNat default).Fs.getD k.toNat default).At.Ag.length)+Int.ofNat ((a.getD i.toNat default).Fs.getD k.toNat default).At.Bd.Text.size)).toNat +i.toNat +k.toNat +Int.toNat 0+((a.getD i.toNat default).Fs.getD k.toNat default).At.Ag.length+((a.getD i.toNat default).Fs.getD k.toNat default).At.Items.length+1) a limit zcM (IntKind.i64.wrap (IntKind.i64.wrap (IntKind.i64.wrap (n_+Int.ofNat ((a.getD i.toNat default).Fs.getD k.toNat default).At.Items.length)+Int.ofNat ((a.getD i.toNat default).Fs.getD k.toNat default).At.Ag.length)+Int.ofNat ((a.getD i.toNat default).Fs.getD k.toNat default).At.Bd.Text.size)) i k 0 (At.mk ((a.getD i.toNat default).Fs.getD k.toNat default).At.Kind ((a.getD i.toNat default).Fs.getD k.toNat default).At.Row ((a.getD i.toNat default).Fs.getD k.toNat default).At.Ag ((a.getD i.toNat default).Fs.getD k.toNat default).At.Func ((a.getD i.toNat default).Fs.getD k.toNat default).At.Items ((a.getD i.toNat default).Fs.getD k.toNat default).At.Op ((a.getD i.toNat default).Fs.getD k.toNat default).At.Bd)) λr5=>.bn (zwM zF (r5.1.length+r5.2.1.toNat +r5.2.2.1.toNat +r5.2.2.2.1.toNat +r5.2.2.2.2.1.toNat +r5.2.2.2.2.2.1.toNat +Int.toNat 0+r5.2.2.2.2.2.2.Ag.length+r5.2.2.2.2.2.2.Items.length+1) r5.1 r5.2.1 r5.2.2.1 r5.2.2.2.1 r5.2.2.2.2.1 r5.2.2.2.2.2.1 0 (At.mk r5.2.2.2.2.2.2.Kind r5.2.2.2.2.2.2.Row r5.2.2.2.2.2.2.Ag r5.2.2.2.2.2.2.Func r5.2.2.2.2.2.2.Items r5.2.2.2.2.2.2.Op r5.2.2.2.2.2.2.Bd)) λr4=>.h ((r4.1),(r4.2.1),(r4.2.2.1),(r4.2.2.2.1),(r4.2.2.2.2.1),(IntKind.i64.wrap (r4.2.2.2.2.2+1)),()) ()) .d) .d) (.k (a,limit,zcM,n_,i))) (.k (a,limit,zcM,n_,i))) .d
def zFu (zF:yB->Int->Int->Bool×Int) (x:zvE) (y:Unit):=zxH zF x.1 x.2.1 x.2.2.1 x.2.2.2.1 x.2.2.2.2.1 x.2.2.2.2.2.1
def zxM (zF:yB->Int->Int->Bool×Int) (n:Nat) (a:yB) (limit:Int) (zcM:Int) (n_:Int) (i:Int) (k:Int):=zD (zFu zF) default n (a,limit,zcM,n_,i,k,()) ()
def zRE (r:zJL):LTree ty:=.done (.exit 2) [.sl 107 r.1,.lit (.int .i64 r.2.1),.lit (.int .i64 r.2.2.1),.lit (.int .i64 r.2.2.2.1),.lit (.int .i64 r.2.2.2.2)] []
def zUp:LL ty zvE:=za (lSl 107) (za zj (za zj (za zj (za zj (za zj zn)))))
def zxE (zF:yB->Int->Int->Bool×Int) (a:yB) (limit:Int) (zcM:Int) (n_:Int) (i:Int):Wy zvz Unit (Int):=.i (decide (i<Int.ofNat a.length)) (.i (decide (n_<=limit)) (.i (decide (0<=i)&&decide (i<Int.ofNat a.length)) (.bn (zxM zF (a.length+limit.toNat +zcM.toNat +(IntKind.i64.wrap (IntKind.i64.wrap (n_+1)+Int.ofNat (a.getD i.toNat default).Fs.length)).toNat +i.toNat +Int.toNat 0+1) a limit zcM (IntKind.i64.wrap (IntKind.i64.wrap (n_+1)+Int.ofNat (a.getD i.toNat default).Fs.length)) i 0) λr8=>.h ((r8.1),(r8.2.1),(r8.2.2.1),(r8.2.2.2.1),(IntKind.i64.wrap (r8.2.2.2.2+1)),()) ()) .d) (.k n_)) (.k n_)
def zFv (zF:yB->Int->Int->Bool×Int) (x:zvz) (y:Unit):=zxE zF x.1 x.2.1 x.2.2.1 x.2.2.2.1 x.2.2.2.2.1
def zxA (zF:yB->Int->Int->Bool×Int) (n:Nat) (a:yB) (limit:Int) (zcM:Int) (n_:Int) (i:Int):=zD (zFv zF) default n (a,limit,zcM,n_,i,()) ()
def zUD:LL ty zvz:=za (lSl 107) (za zj (za zj (za zj (za zj zn))))
def zQg (x:zh2) (y:At×Unit):Nat:=(x.1.length+Int.toNat x.2.1+Int.toNat x.2.2.1+Int.toNat x.2.2.2.1+Int.toNat x.2.2.2.2.1+Int.toNat x.2.2.2.2.2.1+Int.toNat x.2.2.2.2.2.2.2.1+y.1.Ag.length+y.1.Items.length+1)
def zRC (x:zvE) (y:Unit):Nat:=(x.1.length+Int.toNat x.2.1+Int.toNat x.2.2.1+Int.toNat x.2.2.2.1+Int.toNat x.2.2.2.2.1+Int.toNat x.2.2.2.2.2.1+1)
def zSh (x:zvz) (y:Unit):Nat:=(x.1.length+Int.toNat x.2.1+Int.toNat x.2.2.1+Int.toNat x.2.2.2.1+Int.toNat x.2.2.2.2.1+1)
def zm9 (zF:yB->Int->Int->Bool×Int):=zb4 base 136 [(79,(zsp zF))] [] [(5,(kpL [0,1,2,7,8])),(9,(kpL [0,1,2,7,8,9])),(14,(kpL [0,1,2,7,8,9,10,11])),(18,(kpL [0,1,2,7,8,9,10,12]))] [(5,1,(kpL [7])),(9,3,(kpL [0,1,2,7,8])),(14,5,(kpL [0,1,2,7,8,9,10])),(18,7,(kpL [0,1,2,7,8,9]))] [(14,spW zRU zSt (zDI zF) default zQj zQg),(18,spW zRU zSt (zDy zF) default zRa zQg),(9,spW zUp z0j (zFu zF) default zRE zRC),(5,spW zUD z0j (zFv zF) default zMt zSh)] []
theorem zRu (zF:yB->Int->Int->Bool×Int):zM (zm9 zF) (lp (body f79) 2):=zu (id:=14) (hl:=rfl)
theorem zQ1 (zF:yB->Int->Int->Bool×Int):zM (zm9 zF) (lp (body f79) 3):=zu (id:=18) (hl:=rfl)
theorem zTi (zF:yB->Int->Int->Bool×Int):zM (zm9 zF) (lp (body f79) 1):=zu (id:=9) (hl:=rfl)
theorem zSJ (zF:yB->Int->Int->Bool×Int):zM (zm9 zF) (lp (body f79) 0):=zu (id:=5) (hl:=rfl)
def zyD (zF:yB->Int->Int->Bool×Int) (a:yB) (limit:Int) (zcM:Int):Wy0 (Int):=.i (zcM==0) (.k (IntKind.i64.wrap (limit+1))) (.bn (zxA zF (a.length+limit.toNat +zcM.toNat +Int.toNat 0+Int.toNat 0+1) a limit zcM 0 0) λr10=>.k r10)
def zsd (zF:yB->Int->Int->Bool×Int) (a:yB) (limit:Int) (zcM:Int):=(zyD zF a limit zcM).fin default
theorem zPs (zF:yB->Int->Int->Bool×Int) (zWc:SdP 79 (zsp zF)):SdP 79 (zsp (zsd zF)):=
 sT (cx':=(zm9 zF)) (zk ⟨zWc,trivial⟩) call79 func79 (lOK (aC (zSJ zF) (aC (zTi zF) (aC (zRu zF) (aC (zQ1 zF) aN)))))
def zVH:Nat->(yB->Int->Int->Bool×Int)
 | 0=>λ_ _ _=>(false,default)
 | n+1=>zsd (zVH n)
def zot (n:Nat):yB->Int->Int->Bool×Int:=zVH n
theorem zFA (n:Nat):zot (n+1)=zsd (zot n):=rfl
theorem zP5:∀ n,SdP 79 (zsp (zot n))
 | 0=>zbl call79 (λ_=>rfl)
 | n+1=>by
  have ih:=zP5 n;exact zPs _ (ih)
def zHE:yB->Int->Int->Bool×Int:=zot 1000
def zFz:Ab.Spec ty:=zsp zHE
theorem zR5:SdP 79 zFz:=(zP5 1000)
abbrev zAI:=Int×yA×Int×Unit
def zHF (limit:Int) (l:yA) (i:Int):Wy zAI Unit (Bool⊕Unit):=.i (decide (i<Int.ofNat l.length)) (.i (decide (0<=i)&&decide (i<Int.ofNat l.length)) (.bn (zHE (l.getD i.toNat default) limit 12) λr0=>.i (decide (r0>limit)) (.k (.inl false)) (.h (limit,l,(IntKind.i64.wrap (i+1)),()) ())) .d) (.k (.inr ()))
def zTn (x:zAI) (y:Unit):=zHF x.1 x.2.1 x.2.2.1
def zHH (n:Nat) (limit:Int) (l:yA) (i:Int):=zD (zTn) (.inl default) n (limit,l,i,()) ()
def z2E:LL ty zAI:=za zj (za (lSl 51) (za zj zn))
def z0C (x:zAI) (y:Unit):Nat:=(Int.toNat x.1+x.2.1.length+Int.toNat x.2.2.1+1)
def zTH:=zb4 base 20 [(79,zFz)] [] [(2,(kpL [0,1,5]))] [(2,1,[]),(2,0,(kpL [4]))] [(2,spW z2E z0j (zTn) (.inl default) zlq z0C)] []
theorem z0g:zM zTH (lp (body f36) 0):=zu (id:=2) (hl:=rfl)
def zVF (limit:Int) (l:yA):Wy0 (Bool):=.bn (zHH (limit.toNat +l.length+Int.toNat 0+1) limit l 0) λr2=>.i (isL r2) (.k (getL r2)) (.k true)
def zzk (limit:Int) (l:yA):=(zVF limit l).fin default
def z29:AL base (Int×yA×Unit):=zd (zg ziy) (zd (zg (vSl 51)) zw)
def zMf:=zh z29 λx=>((zzk x.1 x.2.1).1,zQZ (zzk x.1 x.2.1).2)
theorem zWX:SdP 36 zMf:=
 sT (cx':=zTH) (zk ⟨zR5,trivial⟩) call36 func36 (lOK (aC z0g aN))
abbrev zlS:=Int×Int×List Relation×Int×Int×Unit
abbrev zAG:=Bool⊕(Int×Int×List Relation×Int)
abbrev zAo:=Int×Int×List Relation×Int×Unit
def zGQ (rows:Int) (weight:Int) (l:List Relation) (i:Int) (k:Int):Wy zlS Unit zAG:=.i (decide (0<=i)&&decide (i<Int.ofNat l.length)) (.i (decide (k<Int.ofNat (l.getD i.toNat default).Columns.length)) (.i (decide (0<=i)&&decide (i<Int.ofNat l.length)) (.i (decide (0<=k)&&decide (k<Int.ofNat (l.getD i.toNat default).Columns.length)) (.i (decide (Int.ofNat ((l.getD i.toNat default).Columns.getD k.toNat default).Name.size>100)) (.k (.inl false)) (.h (rows,weight,l,i,(IntKind.i64.wrap (k+1)),()) ())) .d) .d) (.k (.inr (rows,weight,l,i)))) .d
def zHq (x:zlS) (y:Unit):=zGQ x.1 x.2.1 x.2.2.1 x.2.2.2.1 x.2.2.2.2.1
def zSi (n:Nat) (rows:Int) (weight:Int) (l:List Relation) (i:Int) (k:Int):=zD (zHq) (.inl default) n (rows,weight,l,i,k,()) ()
def z0e (r:zAG):LTree ty:=.ite (isL r) (.done .ret [.lit (.bool (getL r))] []) (.done (.exit 2) [.lit (.int .i64 (getR r).1),.lit (.int .i64 (getR r).2.1),.sl 25 (getR r).2.2.1,.lit (.int .i64 (getR r).2.2.2)] [])
def z19:LL ty zlS:=za zj (za zj (za (lSl 25) (za zj (za zj zn))))
def zEx (rows:Int) (weight:Int) (l:List Relation) (i:Int) (k:Int):Wy zlS Unit zAG:=.i (decide (0<=i)&&decide (i<Int.ofNat l.length)) (.i (decide (k<Int.ofNat (l.getD i.toNat default).Rows.length)) (.i (decide (0<=i)&&decide (i<Int.ofNat l.length)) (.i (decide (0<=k)&&decide (k<Int.ofNat (l.getD i.toNat default).Rows.length)) (.bn (zn8 ((l.getD i.toNat default).Rows.getD k.toNat default).Values 20) λr1=>.i (!r1) (.k (.inl false)) (.i (decide (0<=i)&&decide (i<Int.ofNat l.length)) (.i (decide (0<=k)&&decide (k<Int.ofNat (l.getD i.toNat default).Rows.length)) (.bn (zzk weight [((l.getD i.toNat default).Rows.getD k.toNat default).Ann]) λr0=>.i (!r0) (.k (.inl false)) (.h (rows,weight,l,i,(IntKind.i64.wrap (k+1)),()) ())) .d) .d)) .d) .d) (.k (.inr (rows,weight,l,i)))) .d
def zEK (x:zlS) (y:Unit):=zEx x.1 x.2.1 x.2.2.1 x.2.2.2.1 x.2.2.2.2.1
def zPQ (n:Nat) (rows:Int) (weight:Int) (l:List Relation) (i:Int) (k:Int):=zD (zEK) (.inl default) n (rows,weight,l,i,k,()) ()
def zY7 (r:zAG):LTree ty:=.ite (isL r) (.done .ret [.lit (.bool (getL r))] []) (.done (.exit 4) [.lit (.int .i64 (getR r).1),.lit (.int .i64 (getR r).2.1),.sl 25 (getR r).2.2.1,.lit (.int .i64 (getR r).2.2.2)] [])
def zIn (rows:Int) (weight:Int) (l:List Relation) (i:Int):Wy zAo Unit (Bool⊕Unit):=.i (decide (i<Int.ofNat l.length)) (.i (decide (0<=i)&&decide (i<Int.ofNat l.length)) (.i (decide (Int.ofNat (l.getD i.toNat default).Rows.length>rows)) (.k (.inl false)) (.i (decide (0<=i)&&decide (i<Int.ofNat l.length)) (.i (decide (Int.ofNat (l.getD i.toNat default).Columns.length>20)) (.k (.inl false)) (.bn (zSi (rows.toNat +weight.toNat +l.length+i.toNat +Int.toNat 0+1000) rows weight l i 0) λr5=>.i (isL r5) (.k (.inl (getL r5))) (.bn (zPQ ((getR r5).1.toNat +(getR r5).2.1.toNat +(getR r5).2.2.1.length+(getR r5).2.2.2.toNat +Int.toNat 0+1000) (getR r5).1 (getR r5).2.1 (getR r5).2.2.1 (getR r5).2.2.2 0) λr4=>.i (isL r4) (.k (.inl (getL r4))) (.h ((getR r4).1,(getR r4).2.1,(getR r4).2.2.1,(IntKind.i64.wrap ((getR r4).2.2.2+1)),()) ())))) .d)) .d) (.k (.inr ()))
def zHf (x:zAo) (y:Unit):=zIn x.1 x.2.1 x.2.2.1 x.2.2.2.1
def zTc (n:Nat) (rows:Int) (weight:Int) (l:List Relation) (i:Int):=zD (zHf) (.inl default) n (rows,weight,l,i,()) ()
def z1n:LL ty zAo:=za zj (za zj (za (lSl 25) (za zj zn)))
def z0K (x:zlS) (y:Unit):Nat:=(Int.toNat x.1+Int.toNat x.2.1+x.2.2.1.length+Int.toNat x.2.2.2.1+Int.toNat x.2.2.2.2.1+1000)
def z0v (x:zAo) (y:Unit):Nat:=(Int.toNat x.1+Int.toNat x.2.1+x.2.2.1.length+Int.toNat x.2.2.2.1+1000)
def zAl:=zb4 base 90 [(18,zyU),(36,zMf)] [] [(2,(kpL [0,1,2,7])),(7,(kpL [0,1,2,7,8])),(12,(kpL [0,1,2,7,9]))] [(2,1,[]),(2,0,(kpL [6])),(7,3,(kpL [0,1,2,7])),(7,0,(kpL [6])),(12,5,(kpL [0,1,2,7])),(12,0,(kpL [6]))] [(7,spW z19 z0j (zHq) (.inl default) z0e z0K),(12,spW z19 z0j (zEK) (.inl default) zY7 z0K),(2,spW z1n z0j (zHf) (.inl default) zlq z0v)] []
theorem z0N:zM zAl (lp (body f11) 1):=zu (id:=7) (hl:=rfl)
theorem zYK:zM zAl (lp (body f11) 2):=zu (id:=12) (hl:=rfl)
theorem z0R:zM zAl (lp (body f11) 0):=zu (id:=2) (hl:=rfl)
def zVs (rows:Int) (weight:Int) (l:List Relation):Wy0 (Bool):=.bn (zTc (rows.toNat +weight.toNat +l.length+Int.toNat 0+1000) rows weight l 0) λr8=>.i (isL r8) (.k (getL r8)) (.k true)
def zzp (rows:Int) (weight:Int) (l:List Relation):=(zVs rows weight l).fin default
def z3j:AL base (Int×Int×List Relation×Unit):=zd (zg ziy) (zd (zg ziy) (zd (zg (vSl 25)) zw))
def zMM:=zh z3j λx=>((zzp x.1 x.2.1 x.2.2.1).1,zQZ (zzp x.1 x.2.1 x.2.2.1).2)
theorem zXx:SdP 11 zMM:=
 sT (cx':=zAl) (zk ⟨zFC,zWX,trivial⟩) call11 func11 (lOK (aC z0R (aC z0N (aC zYK aN))))
abbrev zmr:=yH×yH×Int×Unit
abbrev zzO:=Int⊕(yH×yH)
def ztQ (a:yH) (b:yH) (i:Int):Wy zmr Unit zzO:=.i (decide (i<Int.ofNat a.length)) (.i (decide (i<Int.ofNat b.length)) (.i (decide (0<=i)&&decide (i<Int.ofNat a.length)) (.i (decide (0<=i)&&decide (i<Int.ofNat b.length)) (.bn (ziu (a.getD i.toNat default) (b.getD i.toNat default)) λr0=>.i (r0 != 0) (.k (.inl (r0))) (.h (a,b,(IntKind.i64.wrap (i+1)),()) ())) .d) .d) (.k (.inr (a,b)))) (.k (.inr (a,b)))
def zBg (x:zmr) (y:Unit):=ztQ x.1 x.2.1 x.2.2.1
def ztE (n:Nat) (a:yH) (b:yH) (i:Int):=zD (zBg) (.inl default) n (a,b,i,()) ()
def zNv (r:zzO):LTree ty:=.ite (isL r) (.done .ret [.lit (.int .i64 (getL r))] []) (.done (.exit 0) [.sl 79 (getR r).1,.sl 79 (getR r).2] [])
def zPp:LL ty zmr:=za (lSl 79) (za (lSl 79) (za zj zn))
def zNp (x:zmr) (y:Unit):Nat:=(x.1.length+x.2.1.length+Int.toNat x.2.2.1+1)
def zAq:=zb4 base 42 [(113,zqF),(114,zA5)] [] [(2,(kpL [0,1,5]))] [(2,1,(kpL [0,1])),(2,0,(kpL [4]))] [(2,spW zPp z0j (zBg) (.inl default) zNv zNp)] []
theorem zNr:zM zAq (lp (body f57) 0):=zu (id:=2) (hl:=rfl)
def zBL (a:yH) (b:yH):Wy0 (Int):=.bn (ztE (a.length+b.length+Int.toNat 0+1) a b 0) λr3=>.i (isL r3) (.k (getL r3)) (.i (Int.ofNat (getR r3).1.length==Int.ofNat (getR r3).2.length) (.k 0) (.bn (zqp (decide (Int.ofNat (getR r3).1.length<Int.ofNat (getR r3).2.length))) λr2=>.k r2))
def znu (a:yH) (b:yH):=(zBL a b).fin default
def zx2:=zh zRc λx=>((znu x.1 x.2.1).1,zLf (znu x.1 x.2.1).2)
theorem zIS:SdP 57 zx2:=
 sT (cx':=zAq) (zk ⟨zvk,zIl,trivial⟩) call57 func57 (lOK (aC zNr aN))
def z0E:=zbG base 9 [(57,zx2)]
def zRW (a:yH) (b:yH):Wy0 (Bool):=.bn (znu a b) λr0=>.k (r0==0)
def zAK (a:yH) (b:yH):=(zRW a b).fin default
def zJF:=zh zRc λx=>((zAK x.1 x.2.1).1,zQZ (zAK x.1 x.2.1).2)
theorem zWR:SdP 31 zJF:=
 sT (cx':=z0E) (zk ⟨zIS,trivial⟩) call31 func31 (lOK aN)
abbrev zyy:=yH×Unit×Int×Unit
abbrev zyx:=Relation×Unit
abbrev zP3:=yB⊕Unit
def zFk (values:yH) (i:Int) (r:Relation):Wy zyy zyx zP3:=.i (decide (i<Int.ofNat r.Rows.length)) (.i (decide (0<=i)&&decide (i<Int.ofNat r.Rows.length)) (.bn (zAK (r.Rows.getD i.toNat default).Values values) λr0=>.i (r0) (.i (decide (0<=i)&&decide (i<Int.ofNat r.Rows.length)) (.k (.inl ((r.Rows.getD i.toNat default).Ann))) .d) (.h (values,(),(IntKind.i64.wrap (i+1)),()) (r,()))) .d) (.k (.inr ()))
def zEE (x:zyy) (y:zyx):=zFk x.1 x.2.2.1 y.1
def zPV (n:Nat) (values:yH) (i:Int) (r:Relation):=zD (zEE) (.inl default) n (values,(),i,()) (r,())
def zYv (r:zP3):LTree ty:=.ite (isL r) (.done .ret [.sl 107 (getL r)] []) (.done (.exit 0) [] [])
def z0D:LL ty zyy:=za (lSl 79) (za (zde 108 0) (za zj zn))
def z0h:BL ty zyx:=zev (zgF (λx=>(⟨x.1,x.2.1⟩:Relation)) (λx=>(x.Columns,x.Rows,())) (λ_=>rfl) (za (lSl 75) (za (lSl 54) zn))) false (zbd)
def zZv (x:zyy) (y:zyx):Nat:=(x.1.length+Int.toNat x.2.2.1+y.1.Columns.length+y.1.Rows.length+1)
def zP1:=zb4 base 27 [(31,zJF)] [] [(2,(kpL [1,2,5]))] [(2,1,[]),(2,0,(kpL [4]))] [(2,spW z0D z0h (zEE) (.inl default) zYv zZv)] []
theorem zYR:zM zP1 (lp (body f41) 0):=zu (id:=2) (hl:=rfl)
def zS2 (r:Relation) (values:yH):Wy0 (yB):=.bn (zPV (values.length+Int.toNat 0+r.Columns.length+r.Rows.length+1) values 0 r) λr2=>.i (isL r2) (.k (getL r2)) (.k [])
def zAU (r:Relation) (values:yH):=(zS2 r values).fin default
def zY4 (r:yB):ARes ty:=⟨[.pure (.sl 107 r)],[]⟩
def z1S:AL base (Relation×yH×Unit):=zd (zg (zcj 25)) (zd (zg (vSl 79)) zw)
def zJ6:=zh z1S λx=>((zAU x.1 x.2.1).1,zY4 (zAU x.1 x.2.1).2)
theorem zWD:SdP 41 zJ6:=
 sT (cx':=zP1) (zk ⟨zWR,trivial⟩) call41 func41 (lOK (aC zYR aN))
end Go.Proofs.YtoknknbmfmddbaaGreatDoor
/- What lies inside lists of terms and factors: fuel for loops. -/
namespace Go.Proofs.YtoknknbmfmddbaaGreatDoor
open Go.Proofs.Tryz
def z5u:yC->Nat
 | []=>0
 | f::r=>f.Exp.toNat +f.At.Ag.length+f.At.Items.length+1+z5u r
def znQ:yB->Nat
 | []=>0
 | t::r=>z5u t.Fs+1+znQ r
end Go.Proofs.YtoknknbmfmddbaaGreatDoor
namespace Go.Proofs.YtoknknbmfmddbaaGreatDoor
open Go Go.Ab
open Go.Proofs.Tryz
def zQQ (r:yE):ARes ty:=⟨[.pure (.sl 63 r)],[]⟩
def znd (F:yB->Bool×yE):Ab.Spec ty:=zh zTC λx=>((F x.1).1,zQQ (F x.1).2)
abbrev zBa:=yE×Unit×Int×Unit
abbrev zJ4:=yE×Int×RowID
def zrc (l:yE) (i:Int) (id:RowID):Wy zBa (RowID×Unit) zJ4:=.i (decide (i<Int.ofNat l.length)) (.i (decide (0<=i)&&decide (i<Int.ofNat l.length)) (.bn (ziC (l.getD i.toNat default) id) λr0=>.i (decide (r0<0)) (.h (l,(),(IntKind.i64.wrap (i+1)),()) (id,())) (.k (l,i,id))) .d) (.k (l,i,id))
def zAm (x:zBa) (y:RowID×Unit):=zrc x.1 x.2.2.1 y.1
def zJ8 (n:Nat) (l:yE) (i:Int) (id:RowID):=zD (zAm) default n (l,(),i,()) (id,())
def zVU (r:zJ4):LTree ty:=.done (.exit 0) [.sl 63 r.1,.ptr 184 0,.lit (.int .i64 r.2.1)] [.box (base.enc 63 r.2.2) false]
def zXX:LL ty zBa:=za (lSl 63) (za (zde 184 0) (za zj zn))
def zXN:BL ty (RowID×Unit):=zev (zgF (λx=>(⟨x.1,x.2.1⟩:RowID)) (λx=>(x.Table,x.Seq,())) (λ_=>rfl) (za (zN .i64) (za (zN .i64) zn))) false (zbd)
def zJQ:=zb4 base 46 [(189,zsh)] [] [(2,(kpL [0,3,5]))] [(2,1,(kpL [0,3,5]))] [(2,spW zXX zXN (zAm) default zVU λx y=>(x.1.length+Int.toNat x.2.2.1+1))] []
theorem zWu:zM zJQ (lp (body f149) 0):=zu (id:=2) (hl:=rfl)
def zM6 (l:yE) (id:RowID):Wy0 (yE):=.bn (zJ8 (l.length+Int.toNat 0+1) l 0 id) λr2=>.i (decide (r2.2.1<Int.ofNat r2.1.length)) (.i (decide (0<=r2.2.1)&&decide (r2.2.1<Int.ofNat r2.1.length)) (.i ((r2.1.getD r2.2.1.toNat default).Table==r2.2.2.Table&&((r2.1.getD r2.2.1.toNat default).Seq==r2.2.2.Seq&&true)) (.k r2.1) (.i (decide ((0:Int)<=(0:Int))&&decide (0<=r2.2.1)&&decide (r2.2.1<=Int.ofNat r2.1.length)) (.i (decide ((0+(List.take (r2.2.1.toNat - Int.toNat 0) (List.drop (Int.toNat 0) r2.1)).length)*16<=zbm)) (.i (decide ((([]++List.take (r2.2.1.toNat - Int.toNat 0) (List.drop (Int.toNat 0) r2.1)).length+[r2.2.2].length)*16<=zbm)) (.i (decide (0<=r2.2.1)&&decide (r2.2.1<=Int.ofNat r2.1.length)&&decide (Int.ofNat r2.1.length<=Int.ofNat r2.1.length)) (.i (decide ((([]++List.take (r2.2.1.toNat - Int.toNat 0) (List.drop (Int.toNat 0) r2.1)++[r2.2.2]).length+(List.take ((Int.ofNat r2.1.length).toNat - r2.2.1.toNat) (List.drop r2.2.1.toNat r2.1)).length)*16<=zbm)) (.k ([]++List.take (r2.2.1.toNat - Int.toNat 0) (List.drop (Int.toNat 0) r2.1)++[r2.2.2]++List.take ((Int.ofNat r2.1.length).toNat - r2.2.1.toNat) (List.drop r2.2.1.toNat r2.1))) .d) .d) .d) .d) .d)) .d) (.i (decide ((0:Int)<=(0:Int))&&decide (0<=r2.2.1)&&decide (r2.2.1<=Int.ofNat r2.1.length)) (.i (decide ((0+(List.take (r2.2.1.toNat - Int.toNat 0) (List.drop (Int.toNat 0) r2.1)).length)*16<=zbm)) (.i (decide ((([]++List.take (r2.2.1.toNat - Int.toNat 0) (List.drop (Int.toNat 0) r2.1)).length+[r2.2.2].length)*16<=zbm)) (.i (decide (0<=r2.2.1)&&decide (r2.2.1<=Int.ofNat r2.1.length)&&decide (Int.ofNat r2.1.length<=Int.ofNat r2.1.length)) (.i (decide ((([]++List.take (r2.2.1.toNat - Int.toNat 0) (List.drop (Int.toNat 0) r2.1)++[r2.2.2]).length+(List.take ((Int.ofNat r2.1.length).toNat - r2.2.1.toNat) (List.drop r2.2.1.toNat r2.1)).length)*16<=zbm)) (.k ([]++List.take (r2.2.1.toNat - Int.toNat 0) (List.drop (Int.toNat 0) r2.1)++[r2.2.2]++List.take ((Int.ofNat r2.1.length).toNat - r2.2.1.toNat) (List.drop r2.2.1.toNat r2.1))) .d) .d) .d) .d) .d)
def zsj (l:yE) (id:RowID):=(zM6 l id).fin default
def zYV:AL base (yE×RowID×Unit):=zd (zg (vSl 63)) (zd (zg (zcj 63)) zw)
def zxN:=zh zYV λx=>((zsj x.1 x.2.1).1,zQQ (zsj x.1 x.2.1).2)
theorem zEs:SdP 149 zxN:=
 sT (cx':=zJQ) (zk ⟨zx3,trivial⟩) call149 func149 (lOK (aC zWu aN))
abbrev zwS:=yE×yE×Int×Unit
def zuj (a:yE) (b:yE) (i:Int):Wy zwS Unit (yE):=.i (decide (i<Int.ofNat b.length)) (.i (decide (0<=i)&&decide (i<Int.ofNat b.length)) (.bn (zsj a (b.getD i.toNat default)) λr0=>.h ((r0),b,(IntKind.i64.wrap (i+1)),()) ()) .d) (.k a)
def zFo (x:zwS) (y:Unit):=zuj x.1 x.2.1 x.2.2.1
def zPW (n:Nat) (a:yE) (b:yE) (i:Int):=zD (zFo) default n (a,b,i,()) ()
def zYF (r:yE):LTree ty:=.done (.exit 0) [.sl 63 r] []
def z0u:LL ty zwS:=za (lSl 63) (za (lSl 63) (za zj zn))
def zYJ (x:zwS) (y:Unit):Nat:=(x.1.length+x.2.1.length+Int.toNat x.2.2.1+1)
def zPU:=zb4 base 19 [(149,zxN)] [] [(2,(kpL [0,1,5]))] [(2,1,(kpL [0]))] [(2,spW z0u z0j (zFo) default zYF zYJ)] []
theorem zYW:zM zPU (lp (body f84) 0):=zu (id:=2) (hl:=rfl)
def zTh (a:yE) (b:yE):Wy0 (yE):=.bn (zPW (a.length+b.length+Int.toNat 0+1) a b 0) λr2=>.k r2
def ztt (a:yE) (b:yE):=(zTh a b).fin default
def z1k:AL base (yE×yE×Unit):=zd (zg (vSl 63)) (zd (zg (vSl 63)) zw)
def zAF:=zh z1k λx=>((ztt x.1 x.2.1).1,zQQ (ztt x.1 x.2.1).2)
theorem zHz:SdP 84 zAF:=
 sT (cx':=zPU) (zk ⟨zEs,trivial⟩) call84 func84 (lOK (aC zYW aN))
abbrev zfe:=yB×yE×Int×Int×Unit×Int×Unit
abbrev zDB:=yB×yE×Int×Int×At
abbrev zDP:=yB×yE×Int×Int
abbrev zqR:=yB×yE×Int×Int×Unit
abbrev zD6:=yB×yE×Int
abbrev zq5:=yB×yE×Int×Unit
def ziU (zp:yB->Bool×yE) (a:yB) (out_:yE) (i:Int) (k:Int) (j:Int) (x_:At):Wy zfe (At×Unit) zDB:=.i (decide (j<Int.ofNat x_.Ag.length)) (.i (decide (0<=j)&&decide (j<Int.ofNat x_.Ag.length)) (.bn (zp (x_.Ag.getD j.toNat default)) λr27=>.bn (ztt out_ r27) λr26=>.h (a,(r26),i,k,(),(IntKind.i64.wrap (j+1)),()) (x_,())) .d) (.k (a,out_,i,k,x_))
def zr5 (zp:yB->Bool×yE) (x:zfe) (y:At×Unit):=ziU zp x.1 x.2.1 x.2.2.1 x.2.2.2.1 x.2.2.2.2.2.1 y.1
def zsf (zp:yB->Bool×yE) (n:Nat) (a:yB) (out_:yE) (i:Int) (k:Int) (j:Int) (x_:At):=zD (zr5 zp) default n (a,out_,i,k,(),j,()) (x_,())
def zLi (r:zDB):LTree ty:=.done (.exit 4) [.sl 107 r.1,.sl 63 r.2.1,.lit (.int .i64 r.2.2.1),.lit (.int .i64 r.2.2.2.1),.ptr 296 0] [.box (base.enc 143 r.2.2.2.2) false]
def zLQ:LL ty zfe:=za (lSl 107) (za (lSl 63) (za zj (za zj (za (zde 296 0) (za zj zn)))))
def ziM (zp:yB->Bool×yE) (a:yB) (out_:yE) (i:Int) (k:Int) (j:Int) (x_:At):Wy zfe (At×Unit) zDP:=.i (decide (j<Int.ofNat x_.Items.length)) (.i (decide (0<=j)&&decide (j<Int.ofNat x_.Items.length)) (.bn (zp (x_.Items.getD j.toNat default).Ann) λr31=>.bn (ztt out_ r31) λr30=>.h (a,(r30),i,k,(),(IntKind.i64.wrap (j+1)),()) (x_,())) .d) (.k (a,out_,i,k))
def zr9 (zp:yB->Bool×yE) (x:zfe) (y:At×Unit):=ziM zp x.1 x.2.1 x.2.2.1 x.2.2.2.1 x.2.2.2.2.2.1 y.1
def zso (zp:yB->Bool×yE) (n:Nat) (a:yB) (out_:yE) (i:Int) (k:Int) (j:Int) (x_:At):=zD (zr9 zp) default n (a,out_,i,k,(),j,()) (x_,())
def zKC (r:zDP):LTree ty:=.done (.exit 6) [.sl 107 r.1,.sl 63 r.2.1,.lit (.int .i64 r.2.2.1),.lit (.int .i64 r.2.2.2)] []
def zjV (zp:yB->Bool×yE) (a:yB) (out_:yE) (i:Int) (k:Int):Wy zqR Unit zD6:=.i (decide (0<=i)&&decide (i<Int.ofNat a.length)) (.i (decide (k<Int.ofNat (a.getD i.toNat default).Fs.length)) (.i (decide (0<=i)&&decide (i<Int.ofNat a.length)) (.i (decide (0<=k)&&decide (k<Int.ofNat (a.getD i.toNat default).Fs.length)) (.i (((a.getD i.toNat default).Fs.getD k.toNat default).At.Kind==0) (.bn (zsj out_ ((a.getD i.toNat default).Fs.getD k.toNat default).At.Row) λr36=>.bn (zsf zp ((a.length+r36.length+i.toNat +k.toNat +Int.toNat 0+((a.getD i.toNat default).Fs.getD k.toNat default).At.Ag.length+((a.getD i.toNat default).Fs.getD k.toNat default).At.Items.length+1)+znQ a) a r36 i k 0 (At.mk ((a.getD i.toNat default).Fs.getD k.toNat default).At.Kind ((a.getD i.toNat default).Fs.getD k.toNat default).At.Row ((a.getD i.toNat default).Fs.getD k.toNat default).At.Ag ((a.getD i.toNat default).Fs.getD k.toNat default).At.Func ((a.getD i.toNat default).Fs.getD k.toNat default).At.Items ((a.getD i.toNat default).Fs.getD k.toNat default).At.Op ((a.getD i.toNat default).Fs.getD k.toNat default).At.Bd)) λr35=>.bn (zso zp ((r35.1.length+r35.2.1.length+r35.2.2.1.toNat +r35.2.2.2.1.toNat +Int.toNat 0+r35.2.2.2.2.Ag.length+r35.2.2.2.2.Items.length+1)+znQ r35.1) r35.1 r35.2.1 r35.2.2.1 r35.2.2.2.1 0 (At.mk r35.2.2.2.2.Kind r35.2.2.2.2.Row r35.2.2.2.2.Ag r35.2.2.2.2.Func r35.2.2.2.2.Items r35.2.2.2.2.Op r35.2.2.2.2.Bd)) λr34=>.h ((r34.1),(r34.2.1),(r34.2.2.1),(IntKind.i64.wrap (r34.2.2.2+1)),()) ()) (.bn (zsf zp ((a.length+out_.length+i.toNat +k.toNat +Int.toNat 0+((a.getD i.toNat default).Fs.getD k.toNat default).At.Ag.length+((a.getD i.toNat default).Fs.getD k.toNat default).At.Items.length+1)+znQ a) a out_ i k 0 (At.mk ((a.getD i.toNat default).Fs.getD k.toNat default).At.Kind ((a.getD i.toNat default).Fs.getD k.toNat default).At.Row ((a.getD i.toNat default).Fs.getD k.toNat default).At.Ag ((a.getD i.toNat default).Fs.getD k.toNat default).At.Func ((a.getD i.toNat default).Fs.getD k.toNat default).At.Items ((a.getD i.toNat default).Fs.getD k.toNat default).At.Op ((a.getD i.toNat default).Fs.getD k.toNat default).At.Bd)) λr38=>.bn (zso zp ((r38.1.length+r38.2.1.length+r38.2.2.1.toNat +r38.2.2.2.1.toNat +Int.toNat 0+r38.2.2.2.2.Ag.length+r38.2.2.2.2.Items.length+1)+znQ r38.1) r38.1 r38.2.1 r38.2.2.1 r38.2.2.2.1 0 (At.mk r38.2.2.2.2.Kind r38.2.2.2.2.Row r38.2.2.2.2.Ag r38.2.2.2.2.Func r38.2.2.2.2.Items r38.2.2.2.2.Op r38.2.2.2.2.Bd)) λr37=>.h ((r37.1),(r37.2.1),(r37.2.2.1),(IntKind.i64.wrap (r37.2.2.2+1)),()) ())) .d) .d) (.k (a,out_,i))) .d
def zte (zp:yB->Bool×yE) (x:zqR) (y:Unit):=zjV zp x.1 x.2.1 x.2.2.1 x.2.2.2.1
def zAf (zp:yB->Bool×yE) (n:Nat) (a:yB) (out_:yE) (i:Int) (k:Int):=zD (zte zp) default n (a,out_,i,k,()) ()
def zMF (r:zD6):LTree ty:=.done (.exit 2) [.sl 107 r.1,.sl 63 r.2.1,.lit (.int .i64 r.2.2)] []
def zNK:LL ty zqR:=za (lSl 107) (za (lSl 63) (za zj (za zj zn)))
def zjX (zp:yB->Bool×yE) (a:yB) (out_:yE) (i:Int):Wy zq5 Unit (yE):=.i (decide (i<Int.ofNat a.length)) (.bn (zAf zp ((a.length+out_.length+i.toNat +Int.toNat 0+1)+znQ a) a out_ i 0) λr44=>.h ((r44.1),(r44.2.1),(IntKind.i64.wrap (r44.2.2+1)),()) ()) (.k out_)
def ztd (zp:yB->Bool×yE) (x:zq5) (y:Unit):=zjX zp x.1 x.2.1 x.2.2.1
def zAX (zp:yB->Bool×yE) (n:Nat) (a:yB) (out_:yE) (i:Int):=zD (ztd zp) default n (a,out_,i,()) ()
def zN0:LL ty zq5:=za (lSl 107) (za (lSl 63) (za zj zn))
def zLa (x:zfe) (y:At×Unit):Nat:=((x.1.length+x.2.1.length+Int.toNat x.2.2.1+Int.toNat x.2.2.2.1+Int.toNat x.2.2.2.2.2.1+y.1.Ag.length+y.1.Items.length+1)+znQ x.1)
def zNx (x:zqR) (y:Unit):Nat:=((x.1.length+x.2.1.length+Int.toNat x.2.2.1+Int.toNat x.2.2.2.1+1)+znQ x.1)
def zNb (x:zq5) (y:Unit):Nat:=((x.1.length+x.2.1.length+Int.toNat x.2.2.1+1)+znQ x.1)
def zjH (zp:yB->Bool×yE):=zb4 base 74 [(84,zAF),(85,(znd zp)),(149,zxN)] [] [(3,[(0,.keep),(3,.sl 63),(4,.keep)]),(6,[(0,.keep),(3,.sl 63),(4,.keep),(5,.keep)]),(12,(kpL [0,3,4,5,6,7])),(16,(kpL [0,3,4,5,6,8]))] [(3,1,(kpL [3])),(6,3,(kpL [0,3,4])),(12,5,(kpL [0,3,4,5,6])),(16,7,(kpL [0,3,4,5]))] [(12,spW zLQ zSt (zr5 zp) default zLi zLa),(16,spW zLQ zSt (zr9 zp) default zKC zLa),(6,spW zNK z0j (zte zp) default zMF zNx),(3,spW zN0 z0j (ztd zp) default zYF zNb)] []
theorem zLq (zp:yB->Bool×yE):zM (zjH zp) (lp (body f85) 2):=zu (id:=12) (hl:=rfl)
theorem zKY (zp:yB->Bool×yE):zM (zjH zp) (lp (body f85) 3):=zu (id:=16) (hl:=rfl)
theorem zMO (zp:yB->Bool×yE):zM (zjH zp) (lp (body f85) 1):=zu (id:=6) (hl:=rfl)
theorem zLR (zp:yB->Bool×yE):zM (zjH zp) (lp (body f85) 0):=zu (id:=3) (hl:=rfl)
def zBW (zp:yB->Bool×yE) (a:yB):Wy0 (yE):=.bn (zAX zp ((a.length+0+Int.toNat 0+1)+znQ a) a [] 0) λr46=>.k r46
def znt (zp:yB->Bool×yE) (a:yB):=(zBW zp a).fin default
theorem zJl (zp:yB->Bool×yE) (zQ8:SdP 85 (znd zp)):SdP 85 (znd (znt zp)):=
 sT (cx':=(zjH zp)) (zk ⟨zHz,zQ8,zEs,trivial⟩) call85 func85 (lOK (aC (zLR zp) (aC (zMO zp) (aC (zLq zp) (aC (zKY zp) aN)))))
def zMv:Nat->(yB->Bool×yE)
 | 0=>λ_=>(false,default)
 | n+1=>znt (zMv n)
def znn (n:Nat):yB->Bool×yE:=zMv n
theorem zPc (n:Nat):znn (n+1)=znt (znn n):=rfl
theorem zHY:∀ n,SdP 85 (znd (znn n))
 | 0=>zbl call85 (λ_=>rfl)
 | n+1=>by
  have ih:=zHY n;exact zJl _ (ih)
def zBd:yB->Bool×yE:=znn 1000
def zBc:Ab.Spec ty:=znd zBd
theorem zNc:SdP 85 zBc:=(zHY 1000)
abbrev zqY:=Unit×yE×Int×Unit
abbrev zlE:=Relation×Unit
def zlL (out_:yE) (i:Int) (r:Relation):Wy zqY zlE (yE):=.i (decide (i<Int.ofNat r.Rows.length)) (.i (decide (0<=i)&&decide (i<Int.ofNat r.Rows.length)) (.bn (zBd (r.Rows.getD i.toNat default).Ann) λr1=>.bn (ztt out_ r1) λr0=>.h ((),(r0),(IntKind.i64.wrap (i+1)),()) (r,())) .d) (.k out_)
def zwo (x:zqY) (y:zlE):=zlL x.2.1 x.2.2.1 y.1
def zDs (n:Nat) (out_:yE) (i:Int) (r:Relation):=zD (zwo) default n ((),out_,i,()) (r,())
def zSp:LL ty zqY:=za (zde 92 0) (za (lSl 63) (za zj zn))
def zTr:BL ty zlE:=zev (zgF (λx=>(⟨x.1,x.2.1⟩:Relation)) (λx=>(x.Columns,x.Rows,())) (λ_=>rfl) (za (lSl 75) (za (lSl 54) zn))) false (zbd)
def zQS (x:zqY) (y:zlE):Nat:=(x.2.1.length+Int.toNat x.2.2.1+y.1.Columns.length+y.1.Rows.length+1)
def zEg:=zb4 base 23 [(84,zAF),(85,zBc)] [] [(3,[(1,.keep),(3,.sl 63),(4,.keep)])] [(3,1,(kpL [3]))] [(3,spW zSp zTr (zwo) default zYF zQS)] []
theorem zRg:zM zEg (lp (body f40) 0):=zu (id:=3) (hl:=rfl)
def zFJ (r:Relation):Wy0 (yE):=.bn (zDs (0+Int.toNat 0+r.Columns.length+r.Rows.length+1) [] 0 r) λr4=>.k r4
def zqB (r:Relation):=(zFJ r).fin default
def zUH:AL base zlE:=zd (zg (zcj 25)) zw
def zAW:=zh zUH λx=>((zqB x.1).1,zQQ (zqB x.1).2)
theorem zNC:SdP 40 zAW:=
 sT (cx':=zEg) (zk ⟨zHz,zNc,trivial⟩) call40 func40 (lOK (aC zRg aN))
abbrev zfW:=Unit×Unit×Int×Unit×yB×Int×Int×Unit×Int×Int×Int×Int×Unit
abbrev zrO:=yB×(Int×Unit×Unit)×(Int×Int×Int×Unit×Int×yD×Int×Int×Int×ByteArray×Unit)×yC×yA×Unit
abbrev zFN:=Int×yB×Int×Int×Int×Int×yB×Int×Int×Int×Int×Int×yD×Int×Int×Int×ByteArray×yC×yA
abbrev zrN:=yB×(Int×Unit×Unit)×(Int×Int×Int×Unit×Int×Unit×Int×Int×Int×ByteArray×Unit)×yC×yA×yD×Unit
abbrev zFD:=Int×yB×Int×Int×Int×Int×yB×Int×Int×Int×Int×Int×Int×Int×Int×ByteArray×yC×yA×yD
abbrev zrU:=Unit×Unit×yB×Int×Int×Unit×Int×Int×Unit
abbrev zrQ:=yB×(Int×Unit×Unit)×yC×Unit
abbrev zFK:=yB×Int×Int×yB×Int×yC
abbrev zrK:=Unit×yB×Int×Int×Unit
abbrev zrM:=yB×Unit
def zjP (zt:yB->Bool×yB) (i:Int) (t11:yB) (t12:Int) (t13:Int) (t23:Int) (t24:Int) (t37:Int) (t38:Int) (out_:yB) (t:Int) (x_0:Int) (x_1:Int) (x_2:Int) (x_3:Int) (x_4:yD) (x_5:Int) (x_6:Int) (x_7:Int) (x_8:ByteArray) (t22:yC) (b4:yA):Wy zfW zrO zFN:=.i (decide (t38<t37)) (.i (decide (0<=t38)&&decide (t38<Int.ofNat b4.length)) (.bn (zt (b4.getD t38.toNat default)) λr12=>.i (decide (0<=t38)&&decide (t38<Int.ofNat b4.length)) (.i (decide (t38.toNat<b4.length)) (.h ((),(),i,(),t11,t12,t13,(),t23,t24,t37,(IntKind.i64.wrap (t38+1)),()) (out_,(t,(),()),(x_0,x_1,x_2,(),x_3,x_4,x_5,x_6,x_7,x_8,()),t22,(b4.set t38.toNat r12),())) .d) .d) .d) (.k (i,t11,t12,t13,t23,t24,out_,t,x_0,x_1,x_2,x_3,x_4,x_5,x_6,x_7,x_8,t22,b4))
def ztF (zt:yB->Bool×yB) (x:zfW) (y:zrO):=zjP zt x.2.2.1 x.2.2.2.2.1 x.2.2.2.2.2.1 x.2.2.2.2.2.2.1 x.2.2.2.2.2.2.2.2.1 x.2.2.2.2.2.2.2.2.2.1 x.2.2.2.2.2.2.2.2.2.2.1 x.2.2.2.2.2.2.2.2.2.2.2.1 y.1 y.2.1.1 y.2.2.1.1 y.2.2.1.2.1 y.2.2.1.2.2.1 y.2.2.1.2.2.2.2.1 y.2.2.1.2.2.2.2.2.1 y.2.2.1.2.2.2.2.2.2.1 y.2.2.1.2.2.2.2.2.2.2.1 y.2.2.1.2.2.2.2.2.2.2.2.1 y.2.2.1.2.2.2.2.2.2.2.2.2.1 y.2.2.2.1 y.2.2.2.2.1
def ztY (zt:yB->Bool×yB) (n:Nat) (i:Int) (t11:yB) (t12:Int) (t13:Int) (t23:Int) (t24:Int) (t37:Int) (t38:Int) (out_:yB) (t:Int) (x_0:Int) (x_1:Int) (x_2:Int) (x_3:Int) (x_4:yD) (x_5:Int) (x_6:Int) (x_7:Int) (x_8:ByteArray) (t22:yC) (b4:yA):=zD (ztF zt) default n ((),(),i,(),t11,t12,t13,(),t23,t24,t37,t38,()) (out_,(t,(),()),(x_0,x_1,x_2,(),x_3,x_4,x_5,x_6,x_7,x_8,()),t22,b4,())
def zMP (r:zFN):LTree ty:=.done (.exit 4) [.own 352,.ptr 353 0,.lit (.int .i64 r.1),.ptr 354 0,.sl 107 r.2.1,.lit (.int .i64 r.2.2.1),.lit (.int .i64 r.2.2.2.1),.own 355,.lit (.int .i64 r.2.2.2.2.1),.lit (.int .i64 r.2.2.2.2.2.1)] [.arr 107 r.2.2.2.2.2.2.1 false,.box ([.lit (.int .i64 r.2.2.2.2.2.2.2.1),.own 355]) false,.box ([.lit (.int .i64 r.2.2.2.2.2.2.2.2.1),.lit (.int .i64 r.2.2.2.2.2.2.2.2.2.1),.lit (.int .i64 r.2.2.2.2.2.2.2.2.2.2.1),.own 356,.lit (.int .i64 r.2.2.2.2.2.2.2.2.2.2.2.1),.sl 169 r.2.2.2.2.2.2.2.2.2.2.2.2.1,.lit (.int .i64 r.2.2.2.2.2.2.2.2.2.2.2.2.2.1),.lit (.int .i64 r.2.2.2.2.2.2.2.2.2.2.2.2.2.2.1),.lit (.int .i64 r.2.2.2.2.2.2.2.2.2.2.2.2.2.2.2.1),.lit (.string r.2.2.2.2.2.2.2.2.2.2.2.2.2.2.2.2.1)]) false,.arr 145 r.2.2.2.2.2.2.2.2.2.2.2.2.2.2.2.2.2.1 false,.arr 51 r.2.2.2.2.2.2.2.2.2.2.2.2.2.2.2.2.2.2 false]
def zO9:LL ty zfW:=za (zcG 352) (za (zde 353 0) (za zj (za (zde 354 0) (za (lSl 107) (za zj (za zj (za (zcG 355) (za zj (za zj (za zj (za zj zn)))))))))))
def zPf:BL ty zrO:=zcV 107 false (zev (za (zN .i64) (za (zcG 355) zn)) false (zev (za (zN .i64) (za (zN .i64) (za (zN .i64) (za (zcG 356) (za (zN .i64) (za (lSl 169) (za (zN .i64) (za (zN .i64) (za (zN .i64) (za ztm zn)))))))))) false (zcV 145 false (zcV 51 false (zbd)))))
def zjR (zt:yB->Bool×yB) (i:Int) (t11:yB) (t12:Int) (t13:Int) (t23:Int) (t24:Int) (t58:Int) (t59:Int) (out_:yB) (t:Int) (x_0:Int) (x_1:Int) (x_2:Int) (x_3:Int) (x_4:Int) (x_5:Int) (x_6:Int) (x_7:ByteArray) (t22:yC) (b4:yA) (b5:yD):Wy zfW zrN zFD:=.i (decide (t59<t58)) (.i (decide (0<=t59)&&decide (t59<Int.ofNat b5.length)) (.bn (zt (b5.getD t59.toNat default).Ann) λr14=>.i (decide (0<=t59)&&decide (t59<Int.ofNat b5.length)) (.i (decide (t59.toNat<b5.length)) (.h ((),(),i,(),t11,t12,t13,(),t23,t24,t58,(IntKind.i64.wrap (t59+1)),()) (out_,(t,(),()),(x_0,x_1,x_2,(),x_3,(),x_4,x_5,x_6,x_7,()),t22,b4,(b5.set t59.toNat (WO.mk (b5.getD t59.toNat default).Value r14)),())) .d) .d) .d) (.k (i,t11,t12,t13,t23,t24,out_,t,x_0,x_1,x_2,x_3,x_4,x_5,x_6,x_7,t22,b4,b5))
def ztf (zt:yB->Bool×yB) (x:zfW) (y:zrN):=zjR zt x.2.2.1 x.2.2.2.2.1 x.2.2.2.2.2.1 x.2.2.2.2.2.2.1 x.2.2.2.2.2.2.2.2.1 x.2.2.2.2.2.2.2.2.2.1 x.2.2.2.2.2.2.2.2.2.2.1 x.2.2.2.2.2.2.2.2.2.2.2.1 y.1 y.2.1.1 y.2.2.1.1 y.2.2.1.2.1 y.2.2.1.2.2.1 y.2.2.1.2.2.2.2.1 y.2.2.1.2.2.2.2.2.2.1 y.2.2.1.2.2.2.2.2.2.2.1 y.2.2.1.2.2.2.2.2.2.2.2.1 y.2.2.1.2.2.2.2.2.2.2.2.2.1 y.2.2.2.1 y.2.2.2.2.1 y.2.2.2.2.2.1
def ztT (zt:yB->Bool×yB) (n:Nat) (i:Int) (t11:yB) (t12:Int) (t13:Int) (t23:Int) (t24:Int) (t58:Int) (t59:Int) (out_:yB) (t:Int) (x_0:Int) (x_1:Int) (x_2:Int) (x_3:Int) (x_4:Int) (x_5:Int) (x_6:Int) (x_7:ByteArray) (t22:yC) (b4:yA) (b5:yD):=zD (ztf zt) default n ((),(),i,(),t11,t12,t13,(),t23,t24,t58,t59,()) (out_,(t,(),()),(x_0,x_1,x_2,(),x_3,(),x_4,x_5,x_6,x_7,()),t22,b4,b5,())
def zMe (r:zFD):LTree ty:=.done (.exit 6) [.own 352,.ptr 353 0,.lit (.int .i64 r.1),.ptr 354 0,.sl 107 r.2.1,.lit (.int .i64 r.2.2.1),.lit (.int .i64 r.2.2.2.1),.own 355,.lit (.int .i64 r.2.2.2.2.1),.lit (.int .i64 r.2.2.2.2.2.1)] [.arr 107 r.2.2.2.2.2.2.1 false,.box ([.lit (.int .i64 r.2.2.2.2.2.2.2.1),.own 355]) false,.box ([.lit (.int .i64 r.2.2.2.2.2.2.2.2.1),.lit (.int .i64 r.2.2.2.2.2.2.2.2.2.1),.lit (.int .i64 r.2.2.2.2.2.2.2.2.2.2.1),.own 356,.lit (.int .i64 r.2.2.2.2.2.2.2.2.2.2.2.1),.own 357,.lit (.int .i64 r.2.2.2.2.2.2.2.2.2.2.2.2.1),.lit (.int .i64 r.2.2.2.2.2.2.2.2.2.2.2.2.2.1),.lit (.int .i64 r.2.2.2.2.2.2.2.2.2.2.2.2.2.2.1),.lit (.string r.2.2.2.2.2.2.2.2.2.2.2.2.2.2.2.1)]) false,.arr 145 r.2.2.2.2.2.2.2.2.2.2.2.2.2.2.2.2.1 false,.arr 51 r.2.2.2.2.2.2.2.2.2.2.2.2.2.2.2.2.2.1 false,.arr 169 r.2.2.2.2.2.2.2.2.2.2.2.2.2.2.2.2.2.2 false]
def zO7:BL ty zrN:=zcV 107 false (zev (za (zN .i64) (za (zcG 355) zn)) false (zev (za (zN .i64) (za (zN .i64) (za (zN .i64) (za (zcG 356) (za (zN .i64) (za (zcG 357) (za (zN .i64) (za (zN .i64) (za (zN .i64) (za ztm zn)))))))))) false (zcV 145 false (zcV 51 false (zcV 169 false (zbd))))))
def zkE (zt:yB->Bool×yB) (t11:yB) (t12:Int) (t13:Int) (t23:Int) (t24:Int) (out_:yB) (t:Int) (t22:yC):Wy zrU zrQ zFK:=.i (decide (t24<t23)) (.i (decide (0<=t24)&&decide (t24<Int.ofNat t22.length)) (.bn (zbW (t22.getD t24.toNat default).At.Ag) λr19=>.bn (ztY zt (t24.toNat +t11.length+t12.toNat +t13.toNat +t23.toNat +t24.toNat +(Int.ofNat r19.length).toNat +Int.toNat 0+out_.length+t.toNat +(t22.getD t24.toNat default).At.Kind.toNat +(t22.getD t24.toNat default).At.Row.Table.toNat +(t22.getD t24.toNat default).At.Row.Seq.toNat +(t22.getD t24.toNat default).At.Func.toNat +(t22.getD t24.toNat default).At.Items.length+(t22.getD t24.toNat default).At.Op.toNat +(t22.getD t24.toNat default).At.Bd.Kind.toNat +(t22.getD t24.toNat default).At.Bd.Int.toNat +(t22.getD t24.toNat default).At.Bd.Text.size+t22.length+r19.length+1000) t24 t11 t12 t13 t23 t24 (Int.ofNat r19.length) 0 out_ t (t22.getD t24.toNat default).At.Kind (t22.getD t24.toNat default).At.Row.Table (t22.getD t24.toNat default).At.Row.Seq (t22.getD t24.toNat default).At.Func (t22.getD t24.toNat default).At.Items (t22.getD t24.toNat default).At.Op (t22.getD t24.toNat default).At.Bd.Kind (t22.getD t24.toNat default).At.Bd.Int (t22.getD t24.toNat default).At.Bd.Text t22 r19) λr18=>.bn (zcf r18.2.2.2.2.2.2.2.2.2.2.2.2.1) λr17=>.bn (ztT zt (r18.1.toNat +r18.2.1.length+r18.2.2.1.toNat +r18.2.2.2.1.toNat +r18.2.2.2.2.1.toNat +r18.2.2.2.2.2.1.toNat +(Int.ofNat r17.length).toNat +Int.toNat 0+r18.2.2.2.2.2.2.1.length+r18.2.2.2.2.2.2.2.1.toNat +r18.2.2.2.2.2.2.2.2.1.toNat +r18.2.2.2.2.2.2.2.2.2.1.toNat +r18.2.2.2.2.2.2.2.2.2.2.1.toNat +r18.2.2.2.2.2.2.2.2.2.2.2.1.toNat +r18.2.2.2.2.2.2.2.2.2.2.2.2.2.1.toNat +r18.2.2.2.2.2.2.2.2.2.2.2.2.2.2.1.toNat +r18.2.2.2.2.2.2.2.2.2.2.2.2.2.2.2.1.toNat +r18.2.2.2.2.2.2.2.2.2.2.2.2.2.2.2.2.1.size+r18.2.2.2.2.2.2.2.2.2.2.2.2.2.2.2.2.2.1.length+r18.2.2.2.2.2.2.2.2.2.2.2.2.2.2.2.2.2.2.length+r17.length+1000) r18.1 r18.2.1 r18.2.2.1 r18.2.2.2.1 r18.2.2.2.2.1 r18.2.2.2.2.2.1 (Int.ofNat r17.length) 0 r18.2.2.2.2.2.2.1 r18.2.2.2.2.2.2.2.1 r18.2.2.2.2.2.2.2.2.1 r18.2.2.2.2.2.2.2.2.2.1 r18.2.2.2.2.2.2.2.2.2.2.1 r18.2.2.2.2.2.2.2.2.2.2.2.1 r18.2.2.2.2.2.2.2.2.2.2.2.2.2.1 r18.2.2.2.2.2.2.2.2.2.2.2.2.2.2.1 r18.2.2.2.2.2.2.2.2.2.2.2.2.2.2.2.1 r18.2.2.2.2.2.2.2.2.2.2.2.2.2.2.2.2.1 r18.2.2.2.2.2.2.2.2.2.2.2.2.2.2.2.2.2.1 r18.2.2.2.2.2.2.2.2.2.2.2.2.2.2.2.2.2.2 r17) λr16=>.i (decide (0<=r16.1)&&decide (r16.1<Int.ofNat r16.2.2.2.2.2.2.2.2.2.2.2.2.2.2.2.2.1.length)) (.i (decide (r16.1.toNat<r16.2.2.2.2.2.2.2.2.2.2.2.2.2.2.2.2.1.length)) (.h ((),(),(r16.2.1),(r16.2.2.1),(r16.2.2.2.1),(),(r16.2.2.2.2.1),(IntKind.i64.wrap (r16.2.2.2.2.2.1+1)),()) ((r16.2.2.2.2.2.2.1),((r16.2.2.2.2.2.2.2.1),(),()),(r16.2.2.2.2.2.2.2.2.2.2.2.2.2.2.2.2.1.set r16.1.toNat (FO.mk (At.mk r16.2.2.2.2.2.2.2.2.1 (RowID.mk r16.2.2.2.2.2.2.2.2.2.1 r16.2.2.2.2.2.2.2.2.2.2.1) r16.2.2.2.2.2.2.2.2.2.2.2.2.2.2.2.2.2.1 r16.2.2.2.2.2.2.2.2.2.2.2.1 r16.2.2.2.2.2.2.2.2.2.2.2.2.2.2.2.2.2.2 r16.2.2.2.2.2.2.2.2.2.2.2.2.1 (Value.mk r16.2.2.2.2.2.2.2.2.2.2.2.2.2.1 r16.2.2.2.2.2.2.2.2.2.2.2.2.2.2.1 r16.2.2.2.2.2.2.2.2.2.2.2.2.2.2.2.1)) (r16.2.2.2.2.2.2.2.2.2.2.2.2.2.2.2.2.1.getD r16.1.toNat default).Exp)),())) .d) .d) .d) (.k (t11,t12,t13,out_,t,t22))
def zu6 (zt:yB->Bool×yB) (x:zrU) (y:zrQ):=zkE zt x.2.2.1 x.2.2.2.1 x.2.2.2.2.1 x.2.2.2.2.2.2.1 x.2.2.2.2.2.2.2.1 y.1 y.2.1.1 y.2.2.1
def zBR (zt:yB->Bool×yB) (n:Nat) (t11:yB) (t12:Int) (t13:Int) (t23:Int) (t24:Int) (out_:yB) (t:Int) (t22:yC):=zD (zu6 zt) default n ((),(),t11,t12,t13,(),t23,t24,()) (out_,(t,(),()),t22,())
def zOa (r:zFK):LTree ty:=.done (.exit 2) [.own 352,.ptr 353 0,.sl 107 r.1,.lit (.int .i64 r.2.1),.lit (.int .i64 r.2.2.1)] [.arr 107 r.2.2.2.1 false,.box ([.lit (.int .i64 r.2.2.2.2.1),.own 354]) false,.arr 145 r.2.2.2.2.2 false]
def zQI:LL ty zrU:=za (zcG 352) (za (zde 353 0) (za (lSl 107) (za zj (za zj (za (zcG 354) (za zj (za zj zn)))))))
def zQ0:BL ty zrQ:=zcV 107 false (zev (za (zN .i64) (za (zcG 354) zn)) false (zcV 145 false (zbd)))
def zvb (zt:yB->Bool×yB) (t11:yB) (t12:Int) (t13:Int) (out_:yB):Wy zrK zrM (yB):=.i (decide (t13<t12)) (.i (decide (0<=t13)&&decide (t13<Int.ofNat t11.length)) (.bn (zcF (t11.getD t13.toNat default).Fs) λr25=>.bn (zBR zt (t11.length+t12.toNat +t13.toNat +(Int.ofNat r25.length).toNat +Int.toNat 0+out_.length+(t11.getD t13.toNat default).Cf.toNat +r25.length+1000) t11 t12 t13 (Int.ofNat r25.length) 0 out_ (t11.getD t13.toNat default).Cf r25) λr24=>.i (decide ((r24.2.2.2.1.length+[TO.mk r24.2.2.2.2.1 r24.2.2.2.2.2].length)*32<=zbm)) (.h ((),(r24.1),(r24.2.1),(IntKind.i64.wrap (r24.2.2.1+1)),()) ((r24.2.2.2.1++[TO.mk r24.2.2.2.2.1 r24.2.2.2.2.2]),())) .d) .d) (.k out_)
def zvd (zt:yB->Bool×yB) (x:zrK) (y:zrM):=zvb zt x.2.1 x.2.2.1 x.2.2.2.1 y.1
def zBK (zt:yB->Bool×yB) (n:Nat) (t11:yB) (t12:Int) (t13:Int) (out_:yB):=zD (zvd zt) default n ((),t11,t12,t13,()) (out_,())
def zOw (r:yB):LTree ty:=.done (.exit 0) [.own 352] [.arr 107 r false]
def zRt:LL ty zrK:=za (zcG 352) (za (lSl 107) (za zj (za zj zn)))
def zQL:BL ty zrM:=zcV 107 false (zbd)
def zL4 (x:zfW) (y:zrO):Nat:=(Int.toNat x.2.2.1+x.2.2.2.2.1.length+Int.toNat x.2.2.2.2.2.1+Int.toNat x.2.2.2.2.2.2.1+Int.toNat x.2.2.2.2.2.2.2.2.1+Int.toNat x.2.2.2.2.2.2.2.2.2.1+Int.toNat x.2.2.2.2.2.2.2.2.2.2.1+Int.toNat x.2.2.2.2.2.2.2.2.2.2.2.1+y.1.length+Int.toNat y.2.1.1+Int.toNat y.2.2.1.1+Int.toNat y.2.2.1.2.1+Int.toNat y.2.2.1.2.2.1+Int.toNat y.2.2.1.2.2.2.2.1+y.2.2.1.2.2.2.2.2.1.length+Int.toNat y.2.2.1.2.2.2.2.2.2.1+Int.toNat y.2.2.1.2.2.2.2.2.2.2.1+Int.toNat y.2.2.1.2.2.2.2.2.2.2.2.1+y.2.2.1.2.2.2.2.2.2.2.2.2.1.size+y.2.2.2.1.length+y.2.2.2.2.1.length+1000)
def zMS (x:zfW) (y:zrN):Nat:=(Int.toNat x.2.2.1+x.2.2.2.2.1.length+Int.toNat x.2.2.2.2.2.1+Int.toNat x.2.2.2.2.2.2.1+Int.toNat x.2.2.2.2.2.2.2.2.1+Int.toNat x.2.2.2.2.2.2.2.2.2.1+Int.toNat x.2.2.2.2.2.2.2.2.2.2.1+Int.toNat x.2.2.2.2.2.2.2.2.2.2.2.1+y.1.length+Int.toNat y.2.1.1+Int.toNat y.2.2.1.1+Int.toNat y.2.2.1.2.1+Int.toNat y.2.2.1.2.2.1+Int.toNat y.2.2.1.2.2.2.2.1+Int.toNat y.2.2.1.2.2.2.2.2.2.1+Int.toNat y.2.2.1.2.2.2.2.2.2.2.1+Int.toNat y.2.2.1.2.2.2.2.2.2.2.2.1+y.2.2.1.2.2.2.2.2.2.2.2.2.1.size+y.2.2.2.1.length+y.2.2.2.2.1.length+y.2.2.2.2.2.1.length+1000)
def zNT (x:zrU) (y:zrQ):Nat:=(x.2.2.1.length+Int.toNat x.2.2.2.1+Int.toNat x.2.2.2.2.1+Int.toNat x.2.2.2.2.2.2.1+Int.toNat x.2.2.2.2.2.2.2.1+y.1.length+Int.toNat y.2.1.1+y.2.2.1.length+1000)
def zPw (x:zrK) (y:zrM):Nat:=(x.2.1.length+Int.toNat x.2.2.1+Int.toNat x.2.2.2.1+y.1.length+1000)
def zkz (zt:yB->Bool×yB):=zb4 base 88 [(78,(zkw zt)),(132,zfk),(133,zdL),(134,zei)] [] [(3,[(3,.own 107),(11,.keep),(12,.keep),(13,.keep)]),(7,(kpL [3,5,11,12,13,22,23,24])),(12,(kpL [3,5,6,8,11,12,13,22,23,24,37,38])),(18,(kpL [3,5,6,8,11,12,13,22,23,24,58,59]))] [(3,1,(kpL [3])),(7,3,(kpL [3,5,11,12,13])),(12,5,(kpL [3,5,6,8,11,12,13,22,23,24])),(18,7,(kpL [3,5,6,8,11,12,13,22,23,24]))] [(12,spW zO9 zPf (ztF zt) default zMP zL4),(18,spW zO9 zO7 (ztf zt) default zMe zMS),(7,spW zQI zQ0 (zu6 zt) default zOa zNT),(3,spW zRt zQL (zvd zt) default zOw zPw)] []
theorem zL8 (zt:yB->Bool×yB):zM (zkz zt) (lp (body f78) 2):=zu (id:=12) (hl:=rfl)
theorem zMk (zt:yB->Bool×yB):zM (zkz zt) (lp (body f78) 3):=zu (id:=18) (hl:=rfl)
theorem zOF (zt:yB->Bool×yB):zM (zkz zt) (lp (body f78) 1):=zu (id:=7) (hl:=rfl)
theorem zNU (zt:yB->Bool×yB):zM (zkz zt) (lp (body f78) 0):=zu (id:=3) (hl:=rfl)
def zDX (zt:yB->Bool×yB) (a:yB):Wy0 (yB):=.bn (zBK zt (a.length+(Int.ofNat a.length).toNat +Int.toNat 0+0+1000) a (Int.ofNat a.length) 0 []) λr28=>.k r28
def ztv (zt:yB->Bool×yB) (a:yB):=(zDX zt a).fin default
theorem zLn (zt:yB->Bool×yB) (zSn:SdP 78 (zkw zt)):SdP 78 (zkw (ztv zt)):=
 sT (cx':=(zkz zt)) (zk ⟨zSn,zji,zgq,zh0,trivial⟩) call78 func78 (lOK (aC (zNU zt) (aC (zOF zt) (aC (zL8 zt) (aC (zMk zt) aN))))) (sg:=⟨[.own 107],[]⟩)
def zZ1:Nat->(yB->Bool×yB)
 | 0=>λ_=>(false,default)
 | n+1=>ztv (zZ1 n)
def zkQ (n:Nat):yB->Bool×yB:=zZ1 n
theorem zQt (n:Nat):zkQ (n+1)=ztv (zkQ n):=rfl
theorem zNy:∀ n,SdP 78 (zkw (zkQ n))
 | 0=>zbl call78 (λ_=>rfl)
 | n+1=>by
  have ih:=zNy n;exact zLn _ (ih)
def zCR:yB->Bool×yB:=zkQ 1000
def zBZ:Ab.Spec ty:=zkw zCR
theorem zPq:SdP 78 zBZ:=(zNy 1000)
abbrev ztD:=yH×yG×Int×Int×Unit
abbrev zG7:=yB⊕Unit
def zy6 (values:yH) (t8:yG) (t9:Int) (t10:Int):Wy ztD Unit zG7:=.i (decide (t10<t9)) (.i (decide (0<=t10)&&decide (t10<Int.ofNat t8.length)) (.bn (zj3 (t8.getD t10.toNat default).Values values) λr1=>.i (r1==0) (.bn (zCR (t8.getD t10.toNat default).Ann) λr0=>.k (.inl (r0))) (.h (values,t8,t9,(IntKind.i64.wrap (t10+1)),()) ())) .d) (.k (.inr ()))
def zyQ (x:ztD) (y:Unit):=zy6 x.1 x.2.1 x.2.2.1 x.2.2.2.1
def zH1 (n:Nat) (values:yH) (t8:yG) (t9:Int) (t10:Int):=zD (zyQ) (.inl default) n (values,t8,t9,t10,()) ()
def zU4 (r:zG7):LTree ty:=.ite (isL r) (.done .ret [.own 92] [.arr 107 (getL r) false]) (.done (.exit 0) [] [])
def zWF:LL ty ztD:=za (lSl 79) (za (lSl 54) (za zj (za zj zn)))
def zUU (x:ztD) (y:Unit):Nat:=(x.1.length+x.2.1.length+Int.toNat x.2.2.1+Int.toNat x.2.2.2.1+1000)
def zGZ:=zb4 base 23 [(77,zrj),(78,zBZ)] [] [(2,(kpL [1,8,9,10]))] [(2,1,[]),(2,0,(kpL [4]))] [(2,spW zWF z0j (zyQ) (.inl default) zU4 zUU)] []
theorem zUz:zM zGZ (lp (body f34) 0):=zu (id:=2) (hl:=rfl)
def zJU (r:Relation) (values:yH):Wy0 (yB):=.bn (zH1 (values.length+r.Rows.length+(Int.ofNat r.Rows.length).toNat +Int.toNat 0+1000) values r.Rows (Int.ofNat r.Rows.length) 0) λr4=>.i (isL r4) (.k (getL r4)) (.k [])
def zuu (r:Relation) (values:yH):=(zJU r values).fin default
def zDL:=zh z1S λx=>((zuu x.1 x.2.1).1,zZa (zuu x.1 x.2.1).2)
theorem zQT:SdP 34 zDL:=
 sT (cx':=zGZ) (zk ⟨zw5,zPq,trivial⟩) call34 func34 (lOK (aC zUz aN)) (sg:=⟨[.own 107],[]⟩)
def zEN:Cx ty:=zb4 base 11 [] [] [] [] [] []
def znU (x_:At) (out_:yE):Wy0 (yE):=.i (x_.Kind==(0:Int)) (.i (decide ((out_.length+[x_.Row].length)*(16:Nat)<=zbm)) (.k (out_++[x_.Row])) .d) (.k out_)
def zhH (x_:At) (out_:yE):Bool×yE:=(znU x_ out_).fin default
def zvD:VL base (At×Unit):=zrP (zcj 143) zcr
def zkN:CSpec ty:=mkC none zvD 63 λx l=>zhH x.1 l
theorem zrB:SoundC Tryz.prog base 144 zkN:=
 z10 (cx:=base) (cx':=zEN) zrR zdj zNa (zk trivial) call144 func144 (c:=body f144) (by kernel_rfl) (zjI (l:=[]) (by kernel_rfl) trivial) (g0:=none) (A:=zvD) (T:=63) (W:=λx l=>znU x.1 l) (z:=default) (λx l=>by kernel_rfl) (λ_=>by kernel_rfl) (by kernel_rfl)
def zDl:VL base (yB×Unit):=zrP (vSl 107) zcr
def ziI (F:yB->yE->Bool×yE):CSpec ty:=mkC (some 144) zDl 63 λx l=>F x.1 l
end Go.Proofs.YtoknknbmfmddbaaGreatDoor
end
