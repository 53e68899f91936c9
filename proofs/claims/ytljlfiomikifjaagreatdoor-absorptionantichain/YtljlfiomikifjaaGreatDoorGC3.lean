/- Texts of this claim, joined (the program, its functions in plain words, and what they compute). -/
import Derived.WalkKit
import Derived.WalkSpells
import Derived.Test.YtljlfiomikifjaaGreatDoorGC2
set_option autoImplicit false
set_option linter.unusedVariables false
set_option linter.unusedSectionVars false
set_option linter.unusedSimpArgs false
set_option maxRecDepth 1000000
set_option maxHeartbeats 0
noncomputable section
namespace Go.Proofs.YtljlfiomikifjaaGreatDoor
open Go Go.Ab
open Go.Proofs.Tryz
abbrev zdo:=yA×Unit×Int×Int×Unit
def zoe (zh:yC->Bool×Bool) (s:yA) (t7:Int) (t8:Int):Wy zdo Unit (Int⊕Unit):=.i (decide (t8<t7)) (.i (decide (0<=t8)&&decide (t8<Int.ofNat s.length)) (.bn (zh (s.getD t8.toNat default)) λr0=>.i (r0) (.k (.inl t8)) (.h (s,(),t7,(IntKind.i64.wrap (t8+1)),()) ())) .d) (.k (.inr ()))
def zgt (zh:yC->Bool×Bool) (x:zdo) (y:Unit):=zoe zh x.1 x.2.2.1 x.2.2.2.1
def zou (zh:yC->Bool×Bool) (n:Nat) (s:yA) (t7:Int) (t8:Int):=zC (zgt zh) (.inl default) n (s,(),t7,t8,()) ()
def zon:LL ty zdo:=za (lSl 23) (za (lFn 127 (zl)) (za zj (za zj zl)))
def zn7 (x:zdo) (y:Unit):Nat:=(x.1.length+Int.toNat x.2.2.1+Int.toNat x.2.2.2.1+1)
def zgw (zh:yC->Bool×Bool):=zb3 base 19 [(127,(ziH zh))] [] [(2,(kpL [0,1,7,8]))] [(2,1,[]),(2,0,(kpL [4]))] [(2,spW zon zZe (zgt zh) (.inl default) ztL zn7)] []
theorem zn3 (zh:yC->Bool×Bool):zF (zgw zh) (lp (body f161) 0):=zq (id:=2) (hl:=rfl)
def zoZ (zh:yC->Bool×Bool) (s:yA):Wy0 (Int):=.bn (zou zh (s.length+(Int.ofNat s.length).toNat +Int.toNat 0+1) s (Int.ofNat s.length) 0) λr2=>.i (isL r2) (.k (getL r2)) (.k (-1:Int))
def zcW (zh:yC->Bool×Bool) (s:yA):=(zoZ zh s).fin default
theorem zm5 (zh:yC->Bool×Bool) (zgJ:SdP 127 (ziH zh)):SdP 161 (zcU (zcW zh)):=
 sT (cx':=(zgw zh)) (zk ⟨zgJ,trivial⟩) call161 func161 (lOK (aC (zn3 zh) aN))
abbrev zd4:=yE×Unit×Int×Int×Unit
def zp9 (zg:Wd->Bool×Bool) (s:yE) (t7:Int) (t8:Int):Wy zd4 Unit (Int⊕Unit):=.i (decide (t8<t7)) (.i (decide (0<=t8)&&decide (t8<Int.ofNat s.length)) (.bn (zg (s.getD t8.toNat default)) λr0=>.i (r0) (.k (.inl t8)) (.h (s,(),t7,(IntKind.i64.wrap (t8+1)),()) ())) .d) (.k (.inr ()))
def zhJ (zg:Wd->Bool×Bool) (x:zd4) (y:Unit):=zp9 zg x.1 x.2.2.1 x.2.2.2.1
def zp8 (zg:Wd->Bool×Bool) (n:Nat) (s:yE) (t7:Int) (t8:Int):=zC (zhJ zg) (.inl default) n (s,(),t7,t8,()) ()
def zqs:LL ty zd4:=za (lSl 100) (za (lFn 133 (zl)) (za zj (za zj zl)))
def zpV (x:zd4) (y:Unit):Nat:=(x.1.length+Int.toNat x.2.2.1+Int.toNat x.2.2.2.1+1)
def zhA (zg:Wd->Bool×Bool):=zb3 base 19 [(133,(zdT zg))] [] [(2,(kpL [0,1,7,8]))] [(2,1,[]),(2,0,(kpL [4]))] [(2,spW zqs zZe (zhJ zg) (.inl default) ztL zpV)] []
theorem zp5 (zg:Wd->Bool×Bool):zF (zhA zg) (lp (body f163) 0):=zq (id:=2) (hl:=rfl)
def zrg (zg:Wd->Bool×Bool) (s:yE):Wy0 (Int):=.bn (zp8 zg (s.length+(Int.ofNat s.length).toNat +Int.toNat 0+1) s (Int.ofNat s.length) 0) λr2=>.i (isL r2) (.k (getL r2)) (.k (-1:Int))
def zdr (zg:Wd->Bool×Bool) (s:yE):=(zrg zg s).fin default
theorem zov (zg:Wd->Bool×Bool) (zgO:SdP 133 (zdT zg)):SdP 163 (zdu (zdr zg)):=
 sT (cx':=(zhA zg)) (zk ⟨zgO,trivial⟩) call163 func163 (lOK (aC (zp5 zg) aN))
def zeV:Nat->(yC->Bool×Bool)×(At->Bool×Bool)×(yC->Bool×Bool)×(Wd->Bool×Bool)×(yA->Bool×Int)×(yA->Bool×Bool)×(yE->Bool×Int)×(yE->Bool×Bool)
 | 0=>(λ_=>(false,default),λ_=>(false,default),λ_=>(false,default),λ_=>(false,default),λ_=>(false,default),λ_=>(false,default),λ_=>(false,default),λ_=>(false,default))
 | n+1=>(zoW ((zeV n).2.1),zkK ((zeV n).2.2.2.2.2.1) ((zeV n).2.2.1) ((zeV n).2.2.2.2.2.2.2) ((zeV n).2.2.2.1),zlz ((zeV n).1),zly ((zeV n).1),zcW ((zeV n).2.2.1),zcI ((zeV n).2.2.1) ((zeV n).2.2.2.2.1),zdr ((zeV n).2.2.2.1),zc4 ((zeV n).2.2.2.1) ((zeV n).2.2.2.2.2.2.1))
def zlx (n:Nat):yC->Bool×Bool:=(zeV n).1
def zog (n:Nat):At->Bool×Bool:=(zeV n).2.1
def zfM (n:Nat):yC->Bool×Bool:=(zeV n).2.2.1
def zfJ (n:Nat):Wd->Bool×Bool:=(zeV n).2.2.2.1
def zcX (n:Nat):yA->Bool×Int:=(zeV n).2.2.2.2.1
def zcG (n:Nat):yA->Bool×Bool:=(zeV n).2.2.2.2.2.1
def zdt (n:Nat):yE->Bool×Int:=(zeV n).2.2.2.2.2.2.1
def zc2 (n:Nat):yE->Bool×Bool:=(zeV n).2.2.2.2.2.2.2
theorem zTf (n:Nat):zlx (n+1)=zoW (zog n):=rfl
theorem zNo (n:Nat):zog (n+1)=zkK (zcG n) (zfM n) (zc2 n) (zfJ n):=rfl
theorem zJa (n:Nat):zfM (n+1)=zlz (zlx n):=rfl
theorem zJw (n:Nat):zfJ (n+1)=zly (zlx n):=rfl
theorem zoj (n:Nat):zcX (n+1)=zcW (zfM n):=rfl
theorem zm6 (n:Nat):zcG (n+1)=zcI (zfM n) (zcX n):=rfl
theorem zqa (n:Nat):zdt (n+1)=zdr (zfJ n):=rfl
theorem zo8 (n:Nat):zc2 (n+1)=zc4 (zfJ n) (zdt n):=rfl
theorem z3X:∀ n,SdP 20 (ziH (zlx n))/\SdP 66 (zoa (zog n))/\SdP 127 (ziH (zfM n))/\SdP 133 (zdT (zfJ n))/\SdP 161 (zcU (zcX n))/\SdP 126 (zcF (zcG n))/\SdP 163 (zdu (zdt n))/\SdP 132 (zc1 (zc2 n))
 | 0=>⟨zbc call20 (λ_=>rfl),zbc call66 (λ_=>rfl),zbc call127 (λ_=>rfl),zbc call133 (λ_=>rfl),zbc call161 (λ_=>rfl),zbc call126 (λ_=>rfl),zbc call163 (λ_=>rfl),zbc call132 (λ_=>rfl)⟩
 | n+1=>by
  have ih:=z3X n;exact ⟨zOL _ (ih.2.1),zJC _ _ _ _ (ih.2.2.2.2.2.1) (ih.2.2.1) (ih.2.2.2.2.2.2.2) (ih.2.2.2.1),zGr _ (ih.1),zGp _ (ih.1),zm5 _ (ih.2.2.1),zlZ _ _ (ih.2.2.1) (ih.2.2.2.2.1),zov _ (ih.2.2.2.1),znw _ _ (ih.2.2.2.1) (ih.2.2.2.2.2.2.1)⟩
def zbZ:yC->Bool×Bool:=zlx 1000
def zce:Ab.Spec ty:=ziH zbZ
theorem zcg:SdP 20 zce:=(z3X 1000).1
def zR6 (r:yC×Int):ARes ty:=⟨[.own 28 r.1,.pure (.lit (.int .i64 r.2))],[]⟩
def zWc:AL zb2 (yC×((yG×Unit)×Unit)×Unit):=ze (zf (vSl 28)) (ze (zf (vFn 84 (zdP (zvI (zdP (vSl 51) zb7)) zb7))) zu)
def zmx (F:yC->yG->Bool×(yC×Int)):Ab.Spec ty:=zi zWc λx=>((F x.1 x.2.1.1.1).1,zR6 (F x.1 x.2.1.1.1).2)
def zPO:AL zb2 (At×((yG×Unit)×Unit)×Unit):=ze (zf (zcV 67)) (ze (zf (vFn 84 (zdP (zvI (zdP (vSl 51) zb7)) zb7))) zu)
def zl8 (F:At->yG->Bool×(yC×Int)):Ab.Spec ty:=zi zPO λx=>((F x.1 x.2.1.1.1).1,zR6 (F x.1 x.2.1.1.1).2)
def zHB (k:Go.Value) (l:List (Go.Value×Int)):Option Int:=zV2 (ty:=ty) (V:=3) k l
def zbeU (k:Go.Value) (l:List (Go.Value×Int)):Bool:=zLx (ty:=ty) (V:=3) k l
def zbe2 (k:Go.Value) (x:Int) (l:List (Go.Value×Int)):List (Go.Value×Int):=zJq (ty:=ty) (V:=3) k x l
def zYp (r:ByteArray):ARes ty:=⟨[.pure (.lit (.string r))],[]⟩
def z2b:AL zb2 (yC×Unit):=ze (zf (vSl 28)) zu
def zwJ (F:yC->Bool×ByteArray):Ab.Spec ty:=zi z2b λx=>((F x.1).1,zYp (F x.1).2)
def zQC:AL zb2 (At×Unit):=ze (zf (zcV 67)) zu
def znl (F:At->Bool×ByteArray):Ab.Spec ty:=zi zQC λx=>((F x.1).1,zYp (F x.1).2)
def zL4:AL zb2 (yD×Unit):=ze (zf (vSl 69)) zu
def zhc (F:yD->Bool×ByteArray):Ab.Spec ty:=zi zL4 λx=>((F x.1).1,zYp (F x.1).2)
def zQy:=zbt base 2 []
def zSI:Wy0 (List ByteArray):=.k [ByteArray.mk #[(67:UInt8),(79:UInt8),(85:UInt8),(78:UInt8),(84:UInt8)],ByteArray.mk #[(83:UInt8),(85:UInt8),(77:UInt8)],ByteArray.mk #[(77:UInt8),(73:UInt8),(78:UInt8)],ByteArray.mk #[(77:UInt8),(65:UInt8),(88:UInt8)]]
def zcl:Bool×List ByteArray:=(zSI).fin default
def zOI (r:List ByteArray):ARes ty:=⟨[.own 9 r],[]⟩
def zR4:AL base (Unit):=zu
def zBD:=zi zR4 λx=>((zcl ).1,zOI (zcl ).2)
theorem zMn:SdP 198 zBD:=
 sT (cx':=zQy) (zk trivial) call198 func198 (lOK aN) (sg:=⟨[.own 9],[]⟩)
def zQs:=zbt base 2 []
def zRW:Wy0 (List ByteArray):=.k [ByteArray.mk #[(61:UInt8)],ByteArray.mk #[(60:UInt8),(62:UInt8)],ByteArray.mk #[(60:UInt8)],ByteArray.mk #[(60:UInt8),(61:UInt8)],ByteArray.mk #[(62:UInt8)],ByteArray.mk #[(62:UInt8),(61:UInt8)]]
def zd9:Bool×List ByteArray:=(zRW).fin default
def zBs:=zi zR4 λx=>((zd9 ).1,zOI (zd9 ).2)
theorem zMv:SdP 199 zBs:=
 sT (cx':=zQs) (zk trivial) call199 func199 (lOK aN) (sg:=⟨[.own 9],[]⟩)
def strings_Join (l:List ByteArray) (sep:ByteArray):Bool×ByteArray:=z1S l sep
def zwD:Ab.Spec ty:=zi (cx:=zb2) (ze (zf (vSl 9)) (ze (zf zAZ) zu)) λx=>((strings_Join x.1 x.2.1).1,⟨[.pure (.lit (.string (strings_Join x.1 x.2.1).2))],[]⟩)
theorem zDa:Sound Tryz.prog zb2 169 zwD:=zbeW (T:=9) zP6 rfl Go.Proofs.Tryz.lays156 Go.Proofs.Tryz.Builder_Extra_156 call169 (λs:ByteArray=>s) (λ_=>rfl) strings_Join (λl sep=>congrArg (λl=>z1S l sep) (List.map_id' (α:=ByteArray) l).symm)
def strconv_Itoa (x:Int):Bool×ByteArray:=zWk x
def zEt:Ab.Spec ty:=zi (cx:=base) (ze (zf (znO .i64)) zu) λx=>((strconv_Itoa x.1).1,⟨[.pure (.lit (.string (strconv_Itoa x.1).2))],[]⟩)
theorem zKl:SdP 168 zEt:=zbfk zkz Go.Proofs.Tryz.laysM171 call168 (λ_ h=>h.1)
def z4v:=zbt base 15 [(128,zwB),(168,zEt)]
def zRF (id:RowID):Wy0 (ByteArray):=.bn (zsj id) λr2=>.i (!r2) (.k (ByteArray.mk #[])) (.bn (strconv_Itoa id.Table) λr1=>.i (decide ((ByteArray.mk #[(116:UInt8)]).size+r1.size<=9223372036854775807)) (.i (decide ((ByteArray.mk #[(116:UInt8)]++r1).size+(ByteArray.mk #[(46:UInt8)]).size<=9223372036854775807)) (.bn (strconv_Itoa id.Seq) λr0=>.i (decide ((ByteArray.mk #[(116:UInt8)]++r1++ByteArray.mk #[(46:UInt8)]).size+r0.size<=9223372036854775807)) (.k (ByteArray.mk #[(116:UInt8)]++r1++ByteArray.mk #[(46:UInt8)]++r0)) .d) .d) .d)
def zzU (id:RowID):=(zRF id).fin default
def zKB:=zi z8t λx=>((zzU x.1).1,zYp (zzU x.1).2)
theorem zXT:SdP 195 zKB:=
 sT (cx':=z4v) (zk ⟨zDg,zKl,trivial⟩) call195 func195 (lOK aN)
def zj6 (m b:Int):Bool×ByteArray:=zy0 m b
def zvK:Ab.Spec ty:=zi (cx:=base) (ze (zf (znO .i64)) (ze (zf (znO .i64)) zu)) λx=>((zj6 x.1 x.2.1).1,⟨[.pure (.lit (.string (zj6 x.1 x.2.1).2))],[]⟩)
theorem zD3:SdP 227 zvK:=z61 zkz Go.Proofs.Tryz.laysM173 call227 (λ_ h=>h.1)
def strings_ReplaceAll (s p q:ByteArray):Bool×ByteArray:=zro s p q
def zD8:Ab.Spec ty:=zi (cx:=zb2) (ze (zf zAZ) (ze (zf zAZ) (ze (zf zAZ) zu))) λx=>((strings_ReplaceAll x.1 x.2.1 x.2.2.1).1,⟨[.pure (.lit (.string (strings_ReplaceAll x.1 x.2.1 x.2.2.1).2))],[]⟩)
theorem zPt:Sound Tryz.prog zb2 228 zD8:=z4k zP6 rfl Go.Proofs.Tryz.lays155 Go.Proofs.Tryz.Builder_Extra_155 call228 (λ_ h=>h.2)
def z56:=zbt zb2 27 [(164,zzH),(227,zvK),(228,zD8)]
def zUo (v:Value):Wy0 (ByteArray):=.bn (zvL v) λr2=>.i (!r2) (.k (ByteArray.mk #[])) (.i (v.Kind==0) (.bn (zj6 v.Int 10) λr0=>.k r0) (.i (v.Kind==1) (.bn (strings_ReplaceAll v.Text (ByteArray.mk #[(39:UInt8)]) (ByteArray.mk #[(39:UInt8),(39:UInt8)])) λr1=>.i (decide ((ByteArray.mk #[(39:UInt8)]).size+r1.size<=9223372036854775807)) (.i (decide ((ByteArray.mk #[(39:UInt8)]++r1).size+(ByteArray.mk #[(39:UInt8)]).size<=9223372036854775807)) (.k (ByteArray.mk #[(39:UInt8)]++r1++ByteArray.mk #[(39:UInt8)])) .d) .d) (.i (v.Int==1) (.k (ByteArray.mk #[(84:UInt8),(82:UInt8),(85:UInt8),(69:UInt8)])) (.k (ByteArray.mk #[(70:UInt8),(65:UInt8),(76:UInt8),(83:UInt8),(69:UInt8)])))))
def zxl (v:Value):=(zUo v).fin default
def z8y:AL zb2 (Value×Unit):=ze (zf (zcV 65)) zu
def zMC:=zi z8y λx=>((zxl x.1).1,zYp (zxl x.1).2)
theorem z0H:Sound Tryz.prog zb2 197 zMC:=
 sU (cx':=z56) (zk ⟨zEp.nodr,zD3.nodr,zPt,trivial⟩) call197 func197 (lOK aN)
abbrev zmn:=Unit×Unit×yE×Int×Int×Unit
abbrev zmz:=At×List ByteArray×Unit
abbrev zCy:=At×List ByteArray
def zgI (zbz:yC->Bool×ByteArray) (t48:yE) (t49:Int) (t50:Int) (x_:At) (items:List ByteArray):Wy zmn zmz zCy:=.i (decide (t50<t49)) (.i (decide (0<=t50)&&decide (t50<Int.ofNat t48.length)) (.bn (zxl (t48.getD t50.toNat default).Value) λr1=>.i (decide (r1.size+(ByteArray.mk #[(58:UInt8),(32:UInt8)]).size<=9223372036854775807)) (.bn (zbz (t48.getD t50.toNat default).Ann) λr0=>.i (decide ((r1++ByteArray.mk #[(58:UInt8),(32:UInt8)]).size+r0.size<=9223372036854775807)) (.i (decide ((items.length+[r1++ByteArray.mk #[(58:UInt8),(32:UInt8)]++r0].length)*16<=zO)) (.h ((),(),t48,t49,(IntKind.i64.wrap (t50+1)),()) (x_,(items++[r1++ByteArray.mk #[(58:UInt8),(32:UInt8)]++r0]),())) .d) .d) .d) .d) (.k (x_,items))
def zoG (zbz:yC->Bool×ByteArray) (x:zmn) (y:zmz):=zgI zbz x.2.2.1 x.2.2.2.1 x.2.2.2.2.1 y.1 y.2.1
def zyz (zbz:yC->Bool×ByteArray) (n:Nat) (t48:yE) (t49:Int) (t50:Int) (x_:At) (items:List ByteArray):=zC (zoG zbz) default n ((),(),t48,t49,t50,()) (x_,items,())
def zJR (r:zCy):LTree ty:=.done (.exit 1) [.ptr 360 0,.own 361] [.box (base.enc 67 r.1) false,.arr 9 r.2 false]
def zKY:LL ty zmn:=za (zgc 360 0) (za (zds 361) (za (lSl 100) (za zj (za zj zl))))
def zKp:BL ty zmz:=zj7 (zh1 (λx=>(⟨x.1,⟨x.2.1,x.2.2.1⟩,x.2.2.2.1,x.2.2.2.2.1,x.2.2.2.2.2.1,x.2.2.2.2.2.2.1,⟨x.2.2.2.2.2.2.2.1,x.2.2.2.2.2.2.2.2.1,x.2.2.2.2.2.2.2.2.2.1⟩⟩:At)) (λx=>(x.Kind,x.Row.Table,x.Row.Seq,x.Ag,x.Func,x.Items,x.Op,x.Bd.Kind,x.Bd.Int,x.Bd.Text,())) (λ_=>rfl) (za (zT .i64) (za (zT .i64) (za (zT .i64) (za (lSl 23) (za (zT .i64) (za (lSl 100) (za (zT .i64) (za (zT .i64) (za (zT .i64) (za zsR zl))))))))))) false (zdw 9 false (zbe))
def zJg (x:zmn) (y:zmz):Nat:=(x.2.2.1.length+Int.toNat x.2.2.2.1+Int.toNat x.2.2.2.2.1+y.1.Ag.length+y.1.Items.length+y.2.1.length+1)
def zz3 (zbz:yC->Bool×ByteArray):=zb3 zb2 90 [(169,zwD),(195,zKB),(196,(zwJ zbz)),(197,zMC),(198,zBD),(199,zBs)] [] [(12,[(1,.keep),(3,.own 9),(48,.keep),(49,.keep),(50,.keep)])] [(12,2,(kpL [1,3]))] [(12,spW zKY zKp (zoG zbz) default zJR zJg)] []
theorem zJe (zbz:yC->Bool×ByteArray):zF (zz3 zbz) (lp (body f167) 0):=zq (id:=12) (hl:=rfl)
def zBr (zbz:yC->Bool×ByteArray) (x_:At):Wy0 (ByteArray):=.i (x_.Kind==0) (.bn (zzU x_.Row) λr4=>.k r4) (.i (x_.Kind==1) (.i (decide ((0:Int)<=(0:Int))&&decide (0<Int.ofNat x_.Ag.length)) (.bn (zbz (x_.Ag.getD (Int.toNat 0) default)) λr6=>.i (decide ((ByteArray.mk #[(109:UInt8),(111:UInt8),(110:UInt8),(117:UInt8),(115:UInt8),(91:UInt8)]).size+r6.size<=9223372036854775807)) (.i (decide ((ByteArray.mk #[(109:UInt8),(111:UInt8),(110:UInt8),(117:UInt8),(115:UInt8),(91:UInt8)]++r6).size+(ByteArray.mk #[(44:UInt8),(32:UInt8)]).size<=9223372036854775807)) (.i (decide ((0:Int)<=(1:Int))&&decide (1<Int.ofNat x_.Ag.length)) (.bn (zbz (x_.Ag.getD (Int.toNat 1) default)) λr5=>.i (decide ((ByteArray.mk #[(109:UInt8),(111:UInt8),(110:UInt8),(117:UInt8),(115:UInt8),(91:UInt8)]++r6++ByteArray.mk #[(44:UInt8),(32:UInt8)]).size+r5.size<=9223372036854775807)) (.i (decide ((ByteArray.mk #[(109:UInt8),(111:UInt8),(110:UInt8),(117:UInt8),(115:UInt8),(91:UInt8)]++r6++ByteArray.mk #[(44:UInt8),(32:UInt8)]++r5).size+(ByteArray.mk #[(93:UInt8)]).size<=9223372036854775807)) (.k (ByteArray.mk #[(109:UInt8),(111:UInt8),(110:UInt8),(117:UInt8),(115:UInt8),(91:UInt8)]++r6++ByteArray.mk #[(44:UInt8),(32:UInt8)]++r5++ByteArray.mk #[(93:UInt8)])) .d) .d) .d) .d) .d) .d) (.i (x_.Kind==2) (.i (decide ((0:Int)<=(0:Int))&&decide (0<Int.ofNat x_.Ag.length)) (.bn (zbz (x_.Ag.getD (Int.toNat 0) default)) λr7=>.i (decide ((ByteArray.mk #[(100:UInt8),(101:UInt8),(108:UInt8),(116:UInt8),(97:UInt8),(91:UInt8)]).size+r7.size<=9223372036854775807)) (.i (decide ((ByteArray.mk #[(100:UInt8),(101:UInt8),(108:UInt8),(116:UInt8),(97:UInt8),(91:UInt8)]++r7).size+(ByteArray.mk #[(93:UInt8)]).size<=9223372036854775807)) (.k (ByteArray.mk #[(100:UInt8),(101:UInt8),(108:UInt8),(116:UInt8),(97:UInt8),(91:UInt8)]++r7++ByteArray.mk #[(93:UInt8)])) .d) .d) .d) (.i (x_.Kind==3) (.i (decide ((0:Int)<=(0:Int))&&decide (0<Int.ofNat x_.Ag.length)) (.bn (zbz (x_.Ag.getD (Int.toNat 0) default)) λr8=>.i (decide ((ByteArray.mk #[(97:UInt8),(98:UInt8),(115:UInt8),(101:UInt8),(110:UInt8),(116:UInt8),(91:UInt8)]).size+r8.size<=9223372036854775807)) (.i (decide ((ByteArray.mk #[(97:UInt8),(98:UInt8),(115:UInt8),(101:UInt8),(110:UInt8),(116:UInt8),(91:UInt8)]++r8).size+(ByteArray.mk #[(93:UInt8)]).size<=9223372036854775807)) (.k (ByteArray.mk #[(97:UInt8),(98:UInt8),(115:UInt8),(101:UInt8),(110:UInt8),(116:UInt8),(91:UInt8)]++r8++ByteArray.mk #[(93:UInt8)])) .d) .d) .d) (.bn (zyz zbz (x_.Items.length+(Int.ofNat x_.Items.length).toNat +Int.toNat 0+x_.Ag.length+x_.Items.length+0+1) x_.Items (Int.ofNat x_.Items.length) 0 (At.mk x_.Kind x_.Row x_.Ag x_.Func x_.Items x_.Op x_.Bd) []) λr11=>.i (decide (0<=r11.1.Func)&&decide (r11.1.Func<Int.ofNat zcl.2.length)) (.i (decide ((ByteArray.mk #[(116:UInt8),(101:UInt8),(115:UInt8),(116:UInt8),(91:UInt8)]).size+ByteArray.size (zcl.2.getD r11.1.Func.toNat default)<=9223372036854775807)) (.i (decide ((ByteArray.mk #[(116:UInt8),(101:UInt8),(115:UInt8),(116:UInt8),(91:UInt8)]++zcl.2.getD r11.1.Func.toNat default).size+(ByteArray.mk #[(123:UInt8)]).size<=9223372036854775807)) (.bn (strings_Join r11.2 (ByteArray.mk #[(59:UInt8),(32:UInt8)])) λr10=>.i (decide ((ByteArray.mk #[(116:UInt8),(101:UInt8),(115:UInt8),(116:UInt8),(91:UInt8)]++zcl.2.getD r11.1.Func.toNat default++ByteArray.mk #[(123:UInt8)]).size+r10.size<=9223372036854775807)) (.i (decide ((ByteArray.mk #[(116:UInt8),(101:UInt8),(115:UInt8),(116:UInt8),(91:UInt8)]++zcl.2.getD r11.1.Func.toNat default++ByteArray.mk #[(123:UInt8)]++r10).size+(ByteArray.mk #[(125:UInt8),(32:UInt8)]).size<=9223372036854775807)) (.i (decide (0<=IntKind.i64.wrap (r11.1.Op - 5))&&decide (IntKind.i64.wrap (r11.1.Op - 5)<Int.ofNat zd9.2.length)) (.i (decide ((ByteArray.mk #[(116:UInt8),(101:UInt8),(115:UInt8),(116:UInt8),(91:UInt8)]++zcl.2.getD r11.1.Func.toNat default++ByteArray.mk #[(123:UInt8)]++r10++ByteArray.mk #[(125:UInt8),(32:UInt8)]).size+ByteArray.size (zd9.2.getD (IntKind.i64.wrap (r11.1.Op - 5)).toNat default)<=9223372036854775807)) (.i (decide ((ByteArray.mk #[(116:UInt8),(101:UInt8),(115:UInt8),(116:UInt8),(91:UInt8)]++zcl.2.getD r11.1.Func.toNat default++ByteArray.mk #[(123:UInt8)]++r10++ByteArray.mk #[(125:UInt8),(32:UInt8)]++zd9.2.getD (IntKind.i64.wrap (r11.1.Op - 5)).toNat default).size+(ByteArray.mk #[(32:UInt8)]).size<=9223372036854775807)) (.bn (zxl r11.1.Bd) λr9=>.i (decide ((ByteArray.mk #[(116:UInt8),(101:UInt8),(115:UInt8),(116:UInt8),(91:UInt8)]++zcl.2.getD r11.1.Func.toNat default++ByteArray.mk #[(123:UInt8)]++r10++ByteArray.mk #[(125:UInt8),(32:UInt8)]++zd9.2.getD (IntKind.i64.wrap (r11.1.Op - 5)).toNat default++ByteArray.mk #[(32:UInt8)]).size+r9.size<=9223372036854775807)) (.i (decide ((ByteArray.mk #[(116:UInt8),(101:UInt8),(115:UInt8),(116:UInt8),(91:UInt8)]++zcl.2.getD r11.1.Func.toNat default++ByteArray.mk #[(123:UInt8)]++r10++ByteArray.mk #[(125:UInt8),(32:UInt8)]++zd9.2.getD (IntKind.i64.wrap (r11.1.Op - 5)).toNat default++ByteArray.mk #[(32:UInt8)]++r9).size+(ByteArray.mk #[(93:UInt8)]).size<=9223372036854775807)) (.k (ByteArray.mk #[(116:UInt8),(101:UInt8),(115:UInt8),(116:UInt8),(91:UInt8)]++zcl.2.getD r11.1.Func.toNat default++ByteArray.mk #[(123:UInt8)]++r10++ByteArray.mk #[(125:UInt8),(32:UInt8)]++zd9.2.getD (IntKind.i64.wrap (r11.1.Op - 5)).toNat default++ByteArray.mk #[(32:UInt8)]++r9++ByteArray.mk #[(93:UInt8)])) .d) .d) .d) .d) .d) .d) .d) .d) .d) .d))))
def zj3 (zbz:yC->Bool×ByteArray) (x_:At):=(zBr zbz x_).fin default
theorem zIj (zbz:yC->Bool×ByteArray) (zXB:Sound Tryz.prog zb2 196 (zwJ zbz)):Sound Tryz.prog zb2 167 (znl (zj3 zbz)):=
 sU (cx':=(zz3 zbz)) (zk ⟨zDa,zXT.nodr,zXB,z0H,zMn.nodr,zMv.nodr,trivial⟩) call167 func167 (lOK (aC (zJe zbz) aN))
abbrev zkv:=Unit×yD×Int×Int×Unit
abbrev zky:=List ByteArray×Unit
def zfT (zbk:At->Bool×ByteArray) (t7:yD) (t8:Int) (t9:Int) (out_:List ByteArray):Wy zkv zky (List ByteArray):=.i (decide (t9<t8)) (.i (decide (0<=t9)&&decide (t9<Int.ofNat t7.length)) (.bn (zbk (At.mk (t7.getD t9.toNat default).At.Kind (t7.getD t9.toNat default).At.Row (t7.getD t9.toNat default).At.Ag (t7.getD t9.toNat default).At.Func (t7.getD t9.toNat default).At.Items (t7.getD t9.toNat default).At.Op (t7.getD t9.toNat default).At.Bd)) λr1=>.i ((t7.getD t9.toNat default).Exp != 1) (.bn (strconv_Itoa (t7.getD t9.toNat default).Exp) λr0=>.i (decide ((ByteArray.mk #[(94:UInt8)]).size+r0.size<=9223372036854775807)) (.i (decide (r1.size+(ByteArray.mk #[(94:UInt8)]++r0).size<=9223372036854775807)) (.i (decide ((out_.length+[r1++(ByteArray.mk #[(94:UInt8)]++r0)].length)*16<=zO)) (.h ((),t7,t8,(IntKind.i64.wrap (t9+1)),()) ((out_++[r1++(ByteArray.mk #[(94:UInt8)]++r0)]),())) .d) .d) .d) (.i (decide ((out_.length+[r1].length)*16<=zO)) (.h ((),t7,t8,(IntKind.i64.wrap (t9+1)),()) ((out_++[r1]),())) .d)) .d) (.k out_)
def zmY (zbk:At->Bool×ByteArray) (x:zkv) (y:zky):=zfT zbk x.2.1 x.2.2.1 x.2.2.2.1 y.1
def zwf (zbk:At->Bool×ByteArray) (n:Nat) (t7:yD) (t8:Int) (t9:Int) (out_:List ByteArray):=zC (zmY zbk) default n ((),t7,t8,t9,()) (out_,())
def zG6 (r:List ByteArray):LTree ty:=.done (.exit 0) [.own 128] [.arr 9 r false]
def zIa:LL ty zkv:=za (zds 128) (za (lSl 69) (za zj (za zj zl)))
def zH8:BL ty zky:=zdw 9 false (zbe)
def zHx (x:zkv) (y:zky):Nat:=(x.2.1.length+Int.toNat x.2.2.1+Int.toNat x.2.2.2.1+y.1.length+1)
def zwa (zbk:At->Bool×ByteArray):=zb3 zb2 32 [(167,(znl zbk)),(168,zEt),(169,zwD)] [] [(3,[(3,.own 9),(7,.keep),(8,.keep),(9,.keep)])] [(3,1,(kpL [3]))] [(3,spW zIa zH8 (zmY zbk) default zG6 zHx)] []
theorem zGA (zbk:At->Bool×ByteArray):zF (zwa zbk) (lp (body f139) 0):=zq (id:=3) (hl:=rfl)
def zwT (zbk:At->Bool×ByteArray) (l:yD):Wy0 (ByteArray):=.bn (zwf zbk (l.length+(Int.ofNat l.length).toNat +Int.toNat 0+0+1) l (Int.ofNat l.length) 0 []) λr5=>.bn (strings_Join r5 (ByteArray.mk #[(42:UInt8)])) λr4=>.k r4
def zhf (zbk:At->Bool×ByteArray) (l:yD):=(zwT zbk l).fin default
theorem zFk (zbk:At->Bool×ByteArray) (zNT:Sound Tryz.prog zb2 167 (znl zbk)):Sound Tryz.prog zb2 139 (zhc (zhf zbk)):=
 sU (cx':=(zwa zbk)) (zk ⟨zNT,zKl.nodr,zDa,trivial⟩) call139 func139 (lOK (aC (zGA zbk) aN))
abbrev zu1:=Unit×yC×Int×Int×Unit
abbrev zuW:=List ByteArray×Unit
def zml (z7:yD->Bool×ByteArray) (t9:yC) (t10:Int) (t11:Int) (out_:List ByteArray):Wy zu1 zuW (List ByteArray):=.i (decide (t11<t10)) (.i (decide (0<=t11)&&decide (t11<Int.ofNat t9.length)) (.i (Int.ofNat (t9.getD t11.toNat default).Fs.length==0) (.bn (zj6 (t9.getD t11.toNat default).Cf 10) λr0=>.i (decide ((out_.length+[r0].length)*16<=zO)) (.h ((),t9,t10,(IntKind.i64.wrap (t11+1)),()) ((out_++[r0]),())) .d) (.i ((t9.getD t11.toNat default).Cf==1) (.bn (z7 (t9.getD t11.toNat default).Fs) λr1=>.i (decide ((out_.length+[r1].length)*16<=zO)) (.h ((),t9,t10,(IntKind.i64.wrap (t11+1)),()) ((out_++[r1]),())) .d) (.bn (zj6 (t9.getD t11.toNat default).Cf 10) λr3=>.i (decide (r3.size+(ByteArray.mk #[(42:UInt8)]).size<=9223372036854775807)) (.bn (z7 (t9.getD t11.toNat default).Fs) λr2=>.i (decide ((r3++ByteArray.mk #[(42:UInt8)]).size+r2.size<=9223372036854775807)) (.i (decide ((out_.length+[r3++ByteArray.mk #[(42:UInt8)]++r2].length)*16<=zO)) (.h ((),t9,t10,(IntKind.i64.wrap (t11+1)),()) ((out_++[r3++ByteArray.mk #[(42:UInt8)]++r2]),())) .d) .d) .d))) .d) (.k out_)
def zzz (z7:yD->Bool×ByteArray) (x:zu1) (y:zuW):=zml z7 x.2.1 x.2.2.1 x.2.2.2.1 y.1
def zHG (z7:yD->Bool×ByteArray) (n:Nat) (t9:yC) (t10:Int) (t11:Int) (out_:List ByteArray):=zC (zzz z7) default n ((),t9,t10,t11,()) (out_,())
def zUh (r:List ByteArray):LTree ty:=.done (.exit 0) [.own 200] [.arr 9 r false]
def zVC:LL ty zu1:=za (zds 200) (za (lSl 28) (za zj (za zj zl)))
def zWm:BL ty zuW:=zdw 9 false (zbe)
def zTv (x:zu1) (y:zuW):Nat:=(x.2.1.length+Int.toNat x.2.2.1+Int.toNat x.2.2.2.1+y.1.length+1)
def zHI (z7:yD->Bool×ByteArray):=zb3 zb2 50 [(139,(zhc z7)),(169,zwD),(227,zvK)] [] [(5,[(3,.own 9),(9,.keep),(10,.keep),(11,.keep)])] [(5,1,(kpL [3]))] [(5,spW zVC zWm (zzz z7) default zUh zTv)] []
theorem zTh (z7:yD->Bool×ByteArray):zF (zHI z7) (lp (body f196) 0):=zq (id:=5) (hl:=rfl)
def zID (z7:yD->Bool×ByteArray) (a:yC):Wy0 (ByteArray):=.i (Int.ofNat a.length==0) (.k (ByteArray.mk #[(48:UInt8)])) (.bn (zHG z7 (a.length+(Int.ofNat a.length).toNat +Int.toNat 0+0+1) a (Int.ofNat a.length) 0 []) λr9=>.bn (strings_Join r9 (ByteArray.mk #[(32:UInt8),(43:UInt8),(32:UInt8)])) λr8=>.k r8)
def zqh (z7:yD->Bool×ByteArray) (a:yC):=(zID z7 a).fin default
theorem zQK (z7:yD->Bool×ByteArray) (zIV:Sound Tryz.prog zb2 139 (zhc z7)):Sound Tryz.prog zb2 196 (zwJ (zqh z7)):=
 sU (cx':=(zHI z7)) (zk ⟨zIV,zDa,zD3.nodr,trivial⟩) call196 func196 (lOK (aC (zTh z7) aN))
def zI0:Nat->(yC->Bool×ByteArray)×(At->Bool×ByteArray)×(yD->Bool×ByteArray)
 | 0=>(λ_=>(false,default),λ_=>(false,default),λ_=>(false,default))
 | n+1=>(zqh ((zI0 n).2.2),zj3 ((zI0 n).1),zhf ((zI0 n).2.1))
def zwF (n:Nat):yC->Bool×ByteArray:=(zI0 n).1
def znk (n:Nat):At->Bool×ByteArray:=(zI0 n).2.1
def zhm (n:Nat):yD->Bool×ByteArray:=(zI0 n).2.2
theorem zVR (n:Nat):zwF (n+1)=zqh (zhm n):=rfl
theorem zLW (n:Nat):znk (n+1)=zj3 (zwF n):=rfl
theorem zIi (n:Nat):zhm (n+1)=zhf (znk n):=rfl
theorem z7k:∀ n,Sound Tryz.prog zb2 196 (zwJ (zwF n))/\Sound Tryz.prog zb2 167 (znl (znk n))/\Sound Tryz.prog zb2 139 (zhc (zhm n))
 | 0=>⟨zbc call196 (λ_=>rfl),zbc call167 (λ_=>rfl),zbc call139 (λ_=>rfl)⟩
 | n+1=>by
  have ih:=z7k n;exact ⟨zQK _ (ih.2.2),zIj _ (ih.1),zFk _ (ih.2.1)⟩
def zsl:yD->Bool×ByteArray:=zhm 1000
def zwc:Ab.Spec ty:=zhc zsl
theorem zGJ:Sound Tryz.prog zb2 139 zwc:=(z7k 1000).2.2
def zmf (x:yC) (a b lim:Int):Bool×yC:=z7K zcb x a b lim
def zDy:Ab.Spec ty:=zi (cx:=base) (ze (zrf 28) (ze (zf (znO .i64)) (ze (zf (znO .i64)) (ze (zf (znO .i64)) (ze (zf (vFn 63 zb7)) zu))))) λx=>((zmf x.1 x.2.1 x.2.2.1 x.2.2.2.1).1,⟨[],[some ⟨28,(zmf x.1 x.2.1 x.2.2.1 x.2.2.2.1).2⟩]⟩)
theorem zEh (c:Unit) (x y:Term) (h:(zcb x y).1=true):zju ((AV.agg (base.enc 28 x)::AV.agg (base.enc 28 y)::(zb7:VL base Unit).enc c).map Arg.pure)=some (true,⟨[.pure (.lit (.int .i64 (zcb x y).2))],[]⟩):=by
 rw [<- h]; kernel_rfl
theorem zCU:SdP 155 zDy:=by
 letI:DecidableEq (ty 28):=inferInstanceAs (DecidableEq Term)
 exact zbff (T:=28) zkz rfl Go.Proofs.Tryz.pdqTerm Tryz.isAgg28 (by unfold zx; exact Tryz.sizeOf28) call155 zm8 zb7 (λc=>zcb) zEh
open Go.Proofs Go.RowKit
def zbT (x:yC):Bool×yC:=zCz zcb x
def zfG:Ab.Spec ty:=zi (cx:=base) (ze (zrf 28) (ze (zf (vFn 63 zb7)) zu)) λx=>((zbT x.1).1,⟨[],[some ⟨28,(zbT x.1).2⟩]⟩)
set_option maxHeartbeats 1000000 in
theorem zuT:SdP 96 zfG where
 enters:=call96
 calls:=λavs r hsp w F vs hF ha hsep=>by
  unfold zfG zi at hsp;split at hsp
  ·rename_i x hx;simp only [qa,qb] at hsp;obtain ⟨hpre,rfl⟩:=hsp;have hk:=(ze (zrf 28) (ze (zf (vFn 63 zb7)) zu):AL base _).kind vs avs x hx;have ha':=(ze (zrf 28) (ze (zf (vFn 63 zb7)) zu):AL base _).ok Tryz.prog zkz F w vs avs x hx ha;rw [hk] at hsep ⊢;clear hk hx ha;obtain ⟨l0,c,u0⟩:=x;obtain ⟨l,rfl⟩:∃ l:yC,l=l0:=⟨l0,rfl⟩;obtain ⟨v,vs',rfl,hv,hv'⟩:=ha'.inv;obtain ⟨fv,vs'',rfl,hfv,h0⟩:=hv'.inv;obtain rfl:=h0.nil_left.1
   have hsl:∃ p cap,v=.slice p l.length cap:=by
    obtain ⟨⟨xs,hown,_⟩,_⟩:=(show zdH base F w v 28 l/\∀ b,zbn v=some b->¬ F b from hv)
    rcases hown.2 with ⟨h1,h2⟩ | ⟨g0,cap,cur,h1,_⟩
    ·exact ⟨none,0,by rw [h1,show l.length=0 from h2]⟩
    ·exact ⟨_,cap,h1⟩
   have hok:SortOK (α:=Term) zcb l:=of_decide_eq_true (p:=SortOK (α:=Term) zcb l) hpre;have hlen:l.length<4611686018427387904:=hok.size;have hbl:Lib.bitLen l.length<4611686018427387904:=Nat.lt_of_le_of_lt (Lib.bitLen_le l.length 62 (by omega) (by omega)) (by omega)
   have hpp:(zmf l 0 (l.length:Int) ((Lib.bitLen l.length:Nat):Int)).1=true:=by
    show (decide (SortOK (α:=Term) zcb l)&&(decide ((0:Int)=0)&&(decide ((l.length:Int)=l.length)&&(decide ((0:Int)<=((Lib.bitLen l.length:Nat):Int))&&decide (((Lib.bitLen l.length:Nat):Int)<4611686018427387904)))))=true;simp only [qc,qe];exact ⟨hok,trivial,trivial,by omega,by omega⟩
   have hp:=(zCU).calls [.own 28 l,.pure (.lit (.int .i64 0)),.pure (.lit (.int .i64 (l.length:Int))),.pure (.lit (.int .i64 ((Lib.bitLen l.length:Nat):Int))),.pure (.fn 63 [])] ⟨[],[some ⟨28,(zbT l).2⟩]⟩
    (by rw [<- hpp]; kernel_rfl) w F [v,.int .i64 0,.int .i64 (l.length:Int),.int .i64 ((Lib.bitLen l.length:Nat):Int),fv] hF (.cons hv (.cons (Rep.lit _) (.cons (Rep.lit _) (.cons (Rep.lit _) (.cons hfv .nil))))) hsep
   replace hp:Calls Tryz.prog 155 #[v,.int .i64 0,.int .i64 (l.length:Int),.int .i64 ((Lib.bitLen l.length:Nat):Int),fv] w λe w'=>∃ u,e=.returned u/\Post base F w [v] ⟨[],[some ⟨28,(zbT l).2⟩]⟩ u w':=hp
   show Calls Tryz.prog 96 #[v,fv] w λe w'=>∃ u,e=.returned u/\Post base F w [v] ⟨[],[some ⟨28,(zbT l).2⟩]⟩ u w'
   have hb:Calls Tryz.prog 156 #[.int .u64 (l.length:Int)] w λe w'=>e=.returned (.int .i64 ((Lib.bitLen l.length:Nat):Int))/\w'=w:=by
    have h:=Any.bits_Len Go.Proofs.Tryz.lays125 (l.length:Int) w (by omega) (by omega)
    rwa [Int.toNat_natCast] at h
   have wr:IntKind.u64.wrap (l.length:Int)=l.length:=by simp [IntKind.wrap,IntKind.bits,IntKind.signed]; omega
   generalize (zbT l).2=res at hp ⊢;generalize hn:l.length=m at *;generalize Lib.bitLen m=bl at *;clear hpp hv hfv hsep hok hpre hF;obtain ⟨p,cap,rfl⟩:=hsl;clear hn
   go_enter func96,ntmps96
   go_wp2_with (first | (go_at_call 156; refine hb.mono ?_; rintro e w' ⟨rfl,rfl⟩) | (go_at_call 155; refine hp.mono ?_; rintro e w' ⟨u,rfl,hpost⟩; obtain rfl:=hpost.unit))
   go_end0
   exact ⟨_,rfl,hpost⟩
  ·cases hsp
end Go.Proofs.YtljlfiomikifjaaGreatDoor
namespace Go.Proofs.YtljlfiomikifjaaGreatDoor
open Go Go.Ab
open Go.Proofs.Tryz
abbrev zpx:=Unit×Unit×yC×Int×Int×Unit
abbrev zpC:=(List (_root_.Go.Value×Int))×yC×Unit
def zlm (t11:yC) (t12:Int) (t13:Int) (at_:List (_root_.Go.Value×Int)) (out_:yC):Wy zpx zpC (yC):=.i (decide (t13<t12)) (.i (decide (0<=t13)&&decide (t13<Int.ofNat t11.length)) (.bn (zsl (t11.getD t13.toNat default).Fs) λr0=>.i (zbeU (Value.string r0) at_) (.i (decide (0<=(zHB (Value.string r0) at_).getD 0)&&decide ((zHB (Value.string r0) at_).getD 0<Int.ofNat out_.length)) (.i (decide (0<=(zHB (Value.string r0) at_).getD 0)&&decide ((zHB (Value.string r0) at_).getD 0<Int.ofNat out_.length)) (.i (decide (Int.toNat ((zHB (Value.string r0) at_).getD 0)<out_.length)) (.h ((),(),t11,t12,(IntKind.i64.wrap (t13+1)),()) (at_,(out_.set (Int.toNat ((zHB (Value.string r0) at_).getD 0)) (TO.mk (if 1152921504606846976<IntKind.i64.wrap ((out_.getD (Int.toNat ((zHB (Value.string r0) at_).getD 0)) default).Cf+(t11.getD t13.toNat default).Cf) then 1152921504606846976 else IntKind.i64.wrap ((out_.getD (Int.toNat ((zHB (Value.string r0) at_).getD 0)) default).Cf+(t11.getD t13.toNat default).Cf)) (out_.getD (Int.toNat ((zHB (Value.string r0) at_).getD 0)) default).Fs)),())) .d) .d) .d) (.i (decide ((out_.length+[t11.getD t13.toNat default].length)*32<=zO)) (.h ((),(),t11,t12,(IntKind.i64.wrap (t13+1)),()) ((zbe2 (Value.string r0) (Int.ofNat out_.length) at_),(out_++[t11.getD t13.toNat default]),())) .d)) .d) (.k out_)
def zxf (x:zpx) (y:zpC):=zlm x.2.2.1 x.2.2.2.1 x.2.2.2.2.1 y.1 y.2.1
def zwX (n:Nat) (t11:yC) (t12:Int) (t13:Int) (at_:List (_root_.Go.Value×Int)) (out_:yC):=zC (zxf) default n ((),(),t11,t12,t13,()) (at_,out_,())
def zSK (r:yC):LTree ty:=.done (.exit 0) [.own 208] [.arr 28 r false]
def zUW:LL ty zpx:=za (lMp 208) (za (zds 209) (za (lSl 28) (za zj (za zj zl))))
def zUT:BL ty zpC:=bMp 9 3 false (zdw 28 false (zbe))
def zSn (x:zpx) (y:zpC):Nat:=(x.2.2.1.length+Int.toNat x.2.2.2.1+Int.toNat x.2.2.2.2.1+y.1.length+y.2.1.length+1)
def zFK:=zb3 zb2 52 [(63,zju),(96,zfG),(139,zwc)] [(96,[true,false])] [(4,[(3,.keep),(4,.own 28),(11,.keep),(12,.keep),(13,.keep)])] [(4,1,(kpL [4]))] [(4,spW zUW zUT (zxf) default zSK zSn)] []
theorem zSd:zF zFK (lp (body f71) 0):=zq (id:=4) (hl:=rfl)
def zGN (terms:yC):Wy0 (yC):=.bn (zwX (terms.length+(Int.ofNat terms.length).toNat +Int.toNat 0+0+0+1) terms (Int.ofNat terms.length) 0 [] []) λr3=>.bn (zbT r3) λr2=>.k r2
def zix (terms:yC):=(zGN terms).fin default
def zSe (r:yC):ARes ty:=⟨[.own 28 r],[]⟩
def zt5:=zi z2b λx=>((zix x.1).1,zSe (zix x.1).2)
theorem zCt:Sound Tryz.prog zb2 71 zt5:=
 sU (cx':=zFK) (zk ⟨zm8.nodr,zuT.nodr,zGJ,trivial⟩) call71 func71 (lOK (aC zSd aN)) (sg:=⟨[.own 28],[]⟩)
def znr (F:yC->Bool×yC):Ab.Spec ty:=zi zZJ λx=>((F x.1).1,zSe (F x.1).2)
def zNb (r:At):ARes ty:=⟨[.pure (.agg (base.enc 67 r))],[]⟩
def znc (F:At->Bool×At):Ab.Spec ty:=zi zE5 λx=>((F x.1).1,zNb (F x.1).2)
def ze8:Cx ty:={ base with nt:=8 }
def zfN (s:yD):Bool×yD:=(decide (s.length*128<=zO),s)
def zmi:Ab.Spec ty:=zi (cx:=base) (ze (zf (vSl 69)) zu) λx=>((zfN x.1).1,⟨[.own 69 (zfN x.1).2],[]⟩)
theorem zAp:zgW ze8 f95 (body f95) ⟨[.own 69],[]⟩ [.pure (.lit (.slice none 0 0))]=some ⟨[.own 69 []],[]⟩:=by kernel_rfl
theorem zx7 (p:Addr) (c:Nat):zgW ze8 f95 (body f95) ⟨[.own 69],[]⟩ [.pure (.lit (.slice (some p) 0 c))]=some ⟨[.own 69 []],[]⟩:=by kernel_rfl
theorem zzD (l:yD):zgW ze8 f95 (body f95) ⟨[.own 69],[]⟩ [.pure (.sl 69 l)]=bif !l.isEmpty then bif decide ((([]:List (ty 69)).length+l.length)*128<=zO) then some ⟨[.own 69 l],[]⟩ else none else none:=by kernel_rfl
theorem zye:SdP 95 zmi:=
 zJ3 (cx':=ze8) (bytes:=128) zG3 zkz ⟨⟨rfl,rfl,rfl,rfl,rfl,rfl⟩,rfl⟩ (λg s h=>by cases h) call95 func95 (c:=body f95) (by kernel_rfl) (zDG (l:=[]) (by kernel_rfl) trivial) zAp zx7 zzD (by kernel_rfl)
abbrev zqK:=Unit×Unit×Unit×yC×Int×Int×Int×Int×Unit
abbrev zqC:=yC×Term×yD×Unit
abbrev zHR:=yC×Int×Int×yC×Term×yD
abbrev zqN:=Unit×yC×Int×Int×Unit
abbrev zq0:=yC×Unit
def zkP (zM:At->Bool×At) (t8:yC) (t9:Int) (t10:Int) (t18:Int) (t19:Int) (out_:yC) (t:Term) (factors:yD):Wy zqK zqC zHR:=.i (decide (t19<t18)) (.i (decide (0<=t19)&&decide (t19<Int.ofNat factors.length)) (.bn (zM (At.mk (factors.getD t19.toNat default).At.Kind (factors.getD t19.toNat default).At.Row (factors.getD t19.toNat default).At.Ag (factors.getD t19.toNat default).At.Func (factors.getD t19.toNat default).At.Items (factors.getD t19.toNat default).At.Op (factors.getD t19.toNat default).At.Bd)) λr2=>.i (decide (0<=t19)&&decide (t19<Int.ofNat factors.length)) (.i (decide (t19.toNat<factors.length)) (.h ((),(),(),t8,t9,t10,t18,(IntKind.i64.wrap (t19+1)),()) (out_,t,(factors.set t19.toNat (FO.mk (At.mk r2.Kind r2.Row r2.Ag r2.Func r2.Items r2.Op r2.Bd) (factors.getD t19.toNat default).Exp)),())) .d) .d) .d) (.k (t8,t9,t10,out_,t,factors))
def zvT (zM:At->Bool×At) (x:zqK) (y:zqC):=zkP zM x.2.2.2.1 x.2.2.2.2.1 x.2.2.2.2.2.1 x.2.2.2.2.2.2.1 x.2.2.2.2.2.2.2.1 y.1 y.2.1 y.2.2.1
def zEF (zM:At->Bool×At) (n:Nat) (t8:yC) (t9:Int) (t10:Int) (t18:Int) (t19:Int) (out_:yC) (t:Term) (factors:yD):=zC (zvT zM) default n ((),(),(),t8,t9,t10,t18,t19,()) (out_,t,factors,())
def zQ1 (r:zHR):LTree ty:=.done (.exit 2) [.own 168,.ptr 169 0,.own 170,.sl 28 r.1,.lit (.int .i64 r.2.1),.lit (.int .i64 r.2.2.1)] [.arr 28 r.2.2.2.1 false,.box (base.enc 28 r.2.2.2.2.1) false,.arr 69 r.2.2.2.2.2 false]
def zSL:LL ty zqK:=za (zds 168) (za (zgc 169 0) (za (zds 170) (za (lSl 28) (za zj (za zj (za zj (za zj zl)))))))
def zS3:BL ty zqC:=zdw 28 false (zj7 (zh1 (λx=>(⟨x.1,x.2.1⟩:Term)) (λx=>(x.Cf,x.Fs,())) (λ_=>rfl) (za (zT .i64) (za (lSl 69) zl))) false (zdw 69 false (zbe)))
def zkX (zM:At->Bool×At) (t8:yC) (t9:Int) (t10:Int) (out_:yC):Wy zqN zq0 (yC):=.i (decide (t10<t9)) (.i (decide (0<=t10)&&decide (t10<Int.ofNat t8.length)) (.bn (zfN (t8.getD t10.toNat default).Fs) λr5=>.bn (zEF zM (t8.length+t9.toNat +t10.toNat +(Int.ofNat r5.length).toNat +Int.toNat 0+out_.length+(t8.getD t10.toNat default).Fs.length+r5.length+1) t8 t9 t10 (Int.ofNat r5.length) 0 out_ (t8.getD t10.toNat default) r5) λr4=>.i (decide ((r4.2.2.2.1.length+[TO.mk r4.2.2.2.2.1.Cf r4.2.2.2.2.2].length)*32<=zO)) (.h ((),(r4.1),(r4.2.1),(IntKind.i64.wrap (r4.2.2.1+1)),()) ((r4.2.2.2.1++[TO.mk r4.2.2.2.2.1.Cf r4.2.2.2.2.2]),())) .d) .d) (.k out_)
def zvZ (zM:At->Bool×At) (x:zqN) (y:zq0):=zkX zM x.2.1 x.2.2.1 x.2.2.2.1 y.1
def zEP (zM:At->Bool×At) (n:Nat) (t8:yC) (t9:Int) (t10:Int) (out_:yC):=zC (zvZ zM) default n ((),t8,t9,t10,()) (out_,())
def zQM (r:yC):LTree ty:=.done (.exit 0) [.own 168] [.arr 28 r false]
def zSr:LL ty zqN:=za (zds 168) (za (lSl 28) (za zj (za zj zl)))
def zSV:BL ty zq0:=zdw 28 false (zbe)
def zQX (x:zqK) (y:zqC):Nat:=(x.2.2.2.1.length+Int.toNat x.2.2.2.2.1+Int.toNat x.2.2.2.2.2.1+Int.toNat x.2.2.2.2.2.2.1+Int.toNat x.2.2.2.2.2.2.2.1+y.1.length+y.2.1.Fs.length+y.2.2.1.length+1)
def zQz (x:zqN) (y:zq0):Nat:=(x.2.1.length+Int.toNat x.2.2.1+Int.toNat x.2.2.2.1+y.1.length+1)
def zvA (zM:At->Bool×At):=zb3 base 42 [(95,zmi),(151,(znc zM))] [] [(3,[(3,.own 28),(8,.keep),(9,.keep),(10,.keep)]),(7,(kpL [3,5,6,8,9,10,18,19]))] [(3,1,(kpL [3])),(7,3,(kpL [3,5,6,8,9,10]))] [(7,spW zSL zS3 (zvT zM) default zQ1 zQX),(3,spW zSr zSV (zvZ zM) default zQM zQz)] []
theorem zQw (zM:At->Bool×At):zF (zvA zM) (lp (body f87) 1):=zq (id:=7) (hl:=rfl)
theorem zQg (zM:At->Bool×At):zF (zvA zM) (lp (body f87) 0):=zq (id:=3) (hl:=rfl)
def zFM (zM:At->Bool×At) (a:yC):Wy0 (yC):=.bn (zEP zM (a.length+(Int.ofNat a.length).toNat +Int.toNat 0+0+1) a (Int.ofNat a.length) 0 []) λr8=>.k r8
def zns (zM:At->Bool×At) (a:yC):=(zFM zM a).fin default
theorem zNQ (zM:At->Bool×At) (zNs:SdP 151 (znc zM)):SdP 87 (znr (zns zM)):=
 sT (cx':=(zvA zM)) (zk ⟨zye,zNs,trivial⟩) call87 func87 (lOK (aC (zQg zM) (aC (zQw zM) aN))) (sg:=⟨[.own 28],[]⟩)
def zdK:Cx ty:={ base with nt:=8 }
def zeh (s:yA):Bool×yA:=(decide (s.length*24<=zO),s)
def ziC:Ab.Spec ty:=zi (cx:=base) (ze (zf (vSl 23)) zu) λx=>((zeh x.1).1,⟨[.own 23 (zeh x.1).2],[]⟩)
theorem zti:zgW zdK f181 (body f181) ⟨[.own 23],[]⟩ [.pure (.lit (.slice none 0 0))]=some ⟨[.own 23 []],[]⟩:=by kernel_rfl
theorem zrK (p:Addr) (c:Nat):zgW zdK f181 (body f181) ⟨[.own 23],[]⟩ [.pure (.lit (.slice (some p) 0 c))]=some ⟨[.own 23 []],[]⟩:=by kernel_rfl
theorem zsa (l:yA):zgW zdK f181 (body f181) ⟨[.own 23],[]⟩ [.pure (.sl 23 l)]=bif !l.isEmpty then bif decide ((([]:List (ty 23)).length+l.length)*24<=zO) then some ⟨[.own 23 l],[]⟩ else none else none:=by kernel_rfl
theorem zrU:SdP 181 ziC:=
 zJ3 (cx':=zdK) (bytes:=24) zG3 zkz ⟨⟨rfl,rfl,rfl,rfl,rfl,rfl⟩,rfl⟩ (λg s h=>by cases h) call181 func181 (c:=body f181) (by kernel_rfl) (zDG (l:=[]) (by kernel_rfl) trivial) zti zrK zsa (by kernel_rfl)
def zem:Cx ty:={ base with nt:=8 }
def ze1 (s:yE):Bool×yE:=(decide (s.length*56<=zO),s)
def zkF:Ab.Spec ty:=zi (cx:=base) (ze (zf (vSl 100)) zu) λx=>((ze1 x.1).1,⟨[.own 100 (ze1 x.1).2],[]⟩)
theorem zwk:zgW zem f182 (body f182) ⟨[.own 100],[]⟩ [.pure (.lit (.slice none 0 0))]=some ⟨[.own 100 []],[]⟩:=by kernel_rfl
theorem zut (p:Addr) (c:Nat):zgW zem f182 (body f182) ⟨[.own 100],[]⟩ [.pure (.lit (.slice (some p) 0 c))]=some ⟨[.own 100 []],[]⟩:=by kernel_rfl
theorem zv6 (l:yE):zgW zem f182 (body f182) ⟨[.own 100],[]⟩ [.pure (.sl 100 l)]=bif !l.isEmpty then bif decide ((([]:List (ty 100)).length+l.length)*56<=zO) then some ⟨[.own 100 l],[]⟩ else none else none:=by kernel_rfl
theorem zu8:SdP 182 zkF:=
 zJ3 (cx':=zem) (bytes:=56) zG3 zkz ⟨⟨rfl,rfl,rfl,rfl,rfl,rfl⟩,rfl⟩ (λg s h=>by cases h) call182 func182 (c:=body f182) (by kernel_rfl) (zDG (l:=[]) (by kernel_rfl) trivial) zwk zut zv6 (by kernel_rfl)
abbrev zec:=Unit×Unit×Int×Int×Unit
abbrev zmg:=(Int×Int×Int×Unit×Int×yE×Int×Int×Int×ByteArray×Unit)×(Int×Int×Int×Unit×Int×Unit×Int×Int×Int×ByteArray×Unit)×yA×Unit
abbrev zCE:=Int×Int×Int×Int×yE×Int×Int×Int×ByteArray×Int×Int×Int×Int×Int×Int×Int×ByteArray×yA
abbrev zmc:=(Int×Int×Int×Unit×Int×Unit×Int×Int×Int×ByteArray×Unit)×(Int×Int×Int×Unit×Int×Unit×Int×Int×Int×ByteArray×Unit)×yA×yE×Unit
abbrev zCa:=Int×Int×Int×Int×Int×Int×Int×ByteArray×Int×Int×Int×Int×Int×Int×Int×ByteArray×yA×yE
def zhj (zZ:yC->Bool×yC) (t11:Int) (t12:Int) (x_0:Int) (x_1:Int) (x_2:Int) (x_3:Int) (x_4:yE) (x_5:Int) (x_6:Int) (x_7:Int) (x_8:ByteArray) (t2_0:Int) (t2_1:Int) (t2_2:Int) (t2_3:Int) (t2_4:Int) (t2_5:Int) (t2_6:Int) (t2_7:ByteArray) (b2:yA):Wy zec zmg zCE:=.i (decide (t12<t11)) (.i (decide (0<=t12)&&decide (t12<Int.ofNat b2.length)) (.bn (zZ (b2.getD t12.toNat default)) λr0=>.i (decide (0<=t12)&&decide (t12<Int.ofNat b2.length)) (.i (decide (t12.toNat<b2.length)) (.h ((),(),t11,(IntKind.i64.wrap (t12+1)),()) ((x_0,x_1,x_2,(),x_3,x_4,x_5,x_6,x_7,x_8,()),(t2_0,t2_1,t2_2,(),t2_3,(),t2_4,t2_5,t2_6,t2_7,()),(b2.set t12.toNat r0),())) .d) .d) .d) (.k (x_0,x_1,x_2,x_3,x_4,x_5,x_6,x_7,x_8,t2_0,t2_1,t2_2,t2_3,t2_4,t2_5,t2_6,t2_7,b2))
def zpT (zZ:yC->Bool×yC) (x:zec) (y:zmg):=zhj zZ x.2.2.1 x.2.2.2.1 y.1.1 y.1.2.1 y.1.2.2.1 y.1.2.2.2.2.1 y.1.2.2.2.2.2.1 y.1.2.2.2.2.2.2.1 y.1.2.2.2.2.2.2.2.1 y.1.2.2.2.2.2.2.2.2.1 y.1.2.2.2.2.2.2.2.2.2.1 y.2.1.1 y.2.1.2.1 y.2.1.2.2.1 y.2.1.2.2.2.2.1 y.2.1.2.2.2.2.2.2.1 y.2.1.2.2.2.2.2.2.2.1 y.2.1.2.2.2.2.2.2.2.2.1 y.2.1.2.2.2.2.2.2.2.2.2.1 y.2.2.1
def zzY (zZ:yC->Bool×yC) (n:Nat) (t11:Int) (t12:Int) (x_0:Int) (x_1:Int) (x_2:Int) (x_3:Int) (x_4:yE) (x_5:Int) (x_6:Int) (x_7:Int) (x_8:ByteArray) (t2_0:Int) (t2_1:Int) (t2_2:Int) (t2_3:Int) (t2_4:Int) (t2_5:Int) (t2_6:Int) (t2_7:ByteArray) (b2:yA):=zC (zpT zZ) default n ((),(),t11,t12,()) ((x_0,x_1,x_2,(),x_3,x_4,x_5,x_6,x_7,x_8,()),(t2_0,t2_1,t2_2,(),t2_3,(),t2_4,t2_5,t2_6,t2_7,()),b2,())
def zLj (r:zCE):LTree ty:=.done (.exit 0) [.ptr 200 0,.ptr 201 0] [.box ([.lit (.int .i64 r.1),.lit (.int .i64 r.2.1),.lit (.int .i64 r.2.2.1),.own 202,.lit (.int .i64 r.2.2.2.1),.sl 100 r.2.2.2.2.1,.lit (.int .i64 r.2.2.2.2.2.1),.lit (.int .i64 r.2.2.2.2.2.2.1),.lit (.int .i64 r.2.2.2.2.2.2.2.1),.lit (.string r.2.2.2.2.2.2.2.2.1)]) false,.box ([.lit (.int .i64 r.2.2.2.2.2.2.2.2.2.1),.lit (.int .i64 r.2.2.2.2.2.2.2.2.2.2.1),.lit (.int .i64 r.2.2.2.2.2.2.2.2.2.2.2.1),.lit (.slice none 0 0),.lit (.int .i64 r.2.2.2.2.2.2.2.2.2.2.2.2.1),.lit (.slice none 0 0),.lit (.int .i64 r.2.2.2.2.2.2.2.2.2.2.2.2.2.1),.lit (.int .i64 r.2.2.2.2.2.2.2.2.2.2.2.2.2.2.1),.lit (.int .i64 r.2.2.2.2.2.2.2.2.2.2.2.2.2.2.2.1),.lit (.string r.2.2.2.2.2.2.2.2.2.2.2.2.2.2.2.2.1)]) false,.arr 23 r.2.2.2.2.2.2.2.2.2.2.2.2.2.2.2.2.2 false]
def zLA:LL ty zec:=za (zgc 200 0) (za (zgc 201 0) (za zj (za zj zl)))
def zLL:BL ty zmg:=zj7 (za (zT .i64) (za (zT .i64) (za (zT .i64) (za (zds 202) (za (zT .i64) (za (lSl 100) (za (zT .i64) (za (zT .i64) (za (zT .i64) (za zsR zl)))))))))) false (zj7 (za (zT .i64) (za (zT .i64) (za (zT .i64) (za zbeg (za (zT .i64) (za zbeg (za (zT .i64) (za (zT .i64) (za (zT .i64) (za zsR zl)))))))))) false (zdw 23 false (zbe)))
def zhh (zZ:yC->Bool×yC) (t32:Int) (t33:Int) (x_0:Int) (x_1:Int) (x_2:Int) (x_3:Int) (x_4:Int) (x_5:Int) (x_6:Int) (x_7:ByteArray) (t2_0:Int) (t2_1:Int) (t2_2:Int) (t2_3:Int) (t2_4:Int) (t2_5:Int) (t2_6:Int) (t2_7:ByteArray) (b2:yA) (b3:yE):Wy zec zmc zCa:=.i (decide (t33<t32)) (.i (decide (0<=t33)&&decide (t33<Int.ofNat b3.length)) (.bn (zZ (b3.getD t33.toNat default).Ann) λr2=>.i (decide (0<=t33)&&decide (t33<Int.ofNat b3.length)) (.i (decide (t33.toNat<b3.length)) (.h ((),(),t32,(IntKind.i64.wrap (t33+1)),()) ((x_0,x_1,x_2,(),x_3,(),x_4,x_5,x_6,x_7,()),(t2_0,t2_1,t2_2,(),t2_3,(),t2_4,t2_5,t2_6,t2_7,()),b2,(b3.set t33.toNat (WO.mk (b3.getD t33.toNat default).Value r2)),())) .d) .d) .d) (.k (x_0,x_1,x_2,x_3,x_4,x_5,x_6,x_7,t2_0,t2_1,t2_2,t2_3,t2_4,t2_5,t2_6,t2_7,b2,b3))
def zp1 (zZ:yC->Bool×yC) (x:zec) (y:zmc):=zhh zZ x.2.2.1 x.2.2.2.1 y.1.1 y.1.2.1 y.1.2.2.1 y.1.2.2.2.2.1 y.1.2.2.2.2.2.2.1 y.1.2.2.2.2.2.2.2.1 y.1.2.2.2.2.2.2.2.2.1 y.1.2.2.2.2.2.2.2.2.2.1 y.2.1.1 y.2.1.2.1 y.2.1.2.2.1 y.2.1.2.2.2.2.1 y.2.1.2.2.2.2.2.2.1 y.2.1.2.2.2.2.2.2.2.1 y.2.1.2.2.2.2.2.2.2.2.1 y.2.1.2.2.2.2.2.2.2.2.2.1 y.2.2.1 y.2.2.2.1
def zAe (zZ:yC->Bool×yC) (n:Nat) (t32:Int) (t33:Int) (x_0:Int) (x_1:Int) (x_2:Int) (x_3:Int) (x_4:Int) (x_5:Int) (x_6:Int) (x_7:ByteArray) (t2_0:Int) (t2_1:Int) (t2_2:Int) (t2_3:Int) (t2_4:Int) (t2_5:Int) (t2_6:Int) (t2_7:ByteArray) (b2:yA) (b3:yE):=zC (zp1 zZ) default n ((),(),t32,t33,()) ((x_0,x_1,x_2,(),x_3,(),x_4,x_5,x_6,x_7,()),(t2_0,t2_1,t2_2,(),t2_3,(),t2_4,t2_5,t2_6,t2_7,()),b2,b3,())
def zKj (r:zCa):LTree ty:=.done (.exit 2) [.ptr 200 0,.ptr 201 0] [.box ([.lit (.int .i64 r.1),.lit (.int .i64 r.2.1),.lit (.int .i64 r.2.2.1),.own 202,.lit (.int .i64 r.2.2.2.1),.own 203,.lit (.int .i64 r.2.2.2.2.1),.lit (.int .i64 r.2.2.2.2.2.1),.lit (.int .i64 r.2.2.2.2.2.2.1),.lit (.string r.2.2.2.2.2.2.2.1)]) false,.box ([.lit (.int .i64 r.2.2.2.2.2.2.2.2.1),.lit (.int .i64 r.2.2.2.2.2.2.2.2.2.1),.lit (.int .i64 r.2.2.2.2.2.2.2.2.2.2.1),.lit (.slice none 0 0),.lit (.int .i64 r.2.2.2.2.2.2.2.2.2.2.2.1),.lit (.slice none 0 0),.lit (.int .i64 r.2.2.2.2.2.2.2.2.2.2.2.2.1),.lit (.int .i64 r.2.2.2.2.2.2.2.2.2.2.2.2.2.1),.lit (.int .i64 r.2.2.2.2.2.2.2.2.2.2.2.2.2.2.1),.lit (.string r.2.2.2.2.2.2.2.2.2.2.2.2.2.2.2.1)]) false,.arr 23 r.2.2.2.2.2.2.2.2.2.2.2.2.2.2.2.2.1 false,.arr 100 r.2.2.2.2.2.2.2.2.2.2.2.2.2.2.2.2.2 false]
def zLC:BL ty zmc:=zj7 (za (zT .i64) (za (zT .i64) (za (zT .i64) (za (zds 202) (za (zT .i64) (za (zds 203) (za (zT .i64) (za (zT .i64) (za (zT .i64) (za zsR zl)))))))))) false (zj7 (za (zT .i64) (za (zT .i64) (za (zT .i64) (za zbeg (za (zT .i64) (za zbeg (za (zT .i64) (za (zT .i64) (za (zT .i64) (za zsR zl)))))))))) false (zdw 23 false (zdw 100 false (zbe))))
def zKa (x:zec) (y:zmg):Nat:=(Int.toNat x.2.2.1+Int.toNat x.2.2.2.1+Int.toNat y.1.1+Int.toNat y.1.2.1+Int.toNat y.1.2.2.1+Int.toNat y.1.2.2.2.2.1+y.1.2.2.2.2.2.1.length+Int.toNat y.1.2.2.2.2.2.2.1+Int.toNat y.1.2.2.2.2.2.2.2.1+Int.toNat y.1.2.2.2.2.2.2.2.2.1+y.1.2.2.2.2.2.2.2.2.2.1.size+Int.toNat y.2.1.1+Int.toNat y.2.1.2.1+Int.toNat y.2.1.2.2.1+Int.toNat y.2.1.2.2.2.2.1+Int.toNat y.2.1.2.2.2.2.2.2.1+Int.toNat y.2.1.2.2.2.2.2.2.2.1+Int.toNat y.2.1.2.2.2.2.2.2.2.2.1+y.2.1.2.2.2.2.2.2.2.2.2.1.size+y.2.2.1.length+1)
def zKg (x:zec) (y:zmc):Nat:=(Int.toNat x.2.2.1+Int.toNat x.2.2.2.1+Int.toNat y.1.1+Int.toNat y.1.2.1+Int.toNat y.1.2.2.1+Int.toNat y.1.2.2.2.2.1+Int.toNat y.1.2.2.2.2.2.2.1+Int.toNat y.1.2.2.2.2.2.2.2.1+Int.toNat y.1.2.2.2.2.2.2.2.2.1+y.1.2.2.2.2.2.2.2.2.2.1.size+Int.toNat y.2.1.1+Int.toNat y.2.1.2.1+Int.toNat y.2.1.2.2.1+Int.toNat y.2.1.2.2.2.2.1+Int.toNat y.2.1.2.2.2.2.2.2.1+Int.toNat y.2.1.2.2.2.2.2.2.2.1+Int.toNat y.2.1.2.2.2.2.2.2.2.2.1+y.2.1.2.2.2.2.2.2.2.2.2.1.size+y.2.2.1.length+y.2.2.2.1.length+1)
def zpN (zZ:yC->Bool×yC):=zb3 base 50 [(87,(znr zZ)),(181,ziC),(182,zkF)] [] [(3,(kpL [1,2,11,12])),(9,(kpL [1,2,32,33]))] [(3,1,(kpL [1,2])),(9,3,(kpL [1,2]))] [(3,spW zLA zLL (zpT zZ) default zLj zKa),(9,spW zLA zLC (zp1 zZ) default zKj zKg)] []
theorem zJ8 (zZ:yC->Bool×yC):zF (zpN zZ) (lp (body f151) 0):=zq (id:=3) (hl:=rfl)
theorem zKv (zZ:yC->Bool×yC):zF (zpN zZ) (lp (body f151) 1):=zq (id:=9) (hl:=rfl)
def zBw (zZ:yC->Bool×yC) (x_:At):Wy0 (At):=.bn (zeh x_.Ag) λr7=>.bn (zzY zZ ((Int.ofNat r7.length).toNat +Int.toNat 0+x_.Kind.toNat +x_.Row.Table.toNat +x_.Row.Seq.toNat +x_.Func.toNat +x_.Items.length+x_.Op.toNat +x_.Bd.Kind.toNat +x_.Bd.Int.toNat +x_.Bd.Text.size+Int.toNat 0+Int.toNat 0+Int.toNat 0+Int.toNat 0+Int.toNat 0+Int.toNat 0+Int.toNat 0+(ByteArray.mk #[]).size+r7.length+1) (Int.ofNat r7.length) 0 x_.Kind x_.Row.Table x_.Row.Seq x_.Func x_.Items x_.Op x_.Bd.Kind x_.Bd.Int x_.Bd.Text 0 0 0 0 0 0 0 (ByteArray.mk #[]) r7) λr6=>.bn (ze1 r6.2.2.2.2.1) λr5=>.bn (zAe zZ ((Int.ofNat r5.length).toNat +Int.toNat 0+r6.1.toNat +r6.2.1.toNat +r6.2.2.1.toNat +r6.2.2.2.1.toNat +r6.2.2.2.2.2.1.toNat +r6.2.2.2.2.2.2.1.toNat +r6.2.2.2.2.2.2.2.1.toNat +r6.2.2.2.2.2.2.2.2.1.size+r6.2.2.2.2.2.2.2.2.2.1.toNat +r6.2.2.2.2.2.2.2.2.2.2.1.toNat +r6.2.2.2.2.2.2.2.2.2.2.2.1.toNat +r6.2.2.2.2.2.2.2.2.2.2.2.2.1.toNat +r6.2.2.2.2.2.2.2.2.2.2.2.2.2.1.toNat +r6.2.2.2.2.2.2.2.2.2.2.2.2.2.2.1.toNat +r6.2.2.2.2.2.2.2.2.2.2.2.2.2.2.2.1.toNat +r6.2.2.2.2.2.2.2.2.2.2.2.2.2.2.2.2.1.size+r6.2.2.2.2.2.2.2.2.2.2.2.2.2.2.2.2.2.length+r5.length+1) (Int.ofNat r5.length) 0 r6.1 r6.2.1 r6.2.2.1 r6.2.2.2.1 r6.2.2.2.2.2.1 r6.2.2.2.2.2.2.1 r6.2.2.2.2.2.2.2.1 r6.2.2.2.2.2.2.2.2.1 r6.2.2.2.2.2.2.2.2.2.1 r6.2.2.2.2.2.2.2.2.2.2.1 r6.2.2.2.2.2.2.2.2.2.2.2.1 r6.2.2.2.2.2.2.2.2.2.2.2.2.1 r6.2.2.2.2.2.2.2.2.2.2.2.2.2.1 r6.2.2.2.2.2.2.2.2.2.2.2.2.2.2.1 r6.2.2.2.2.2.2.2.2.2.2.2.2.2.2.2.1 r6.2.2.2.2.2.2.2.2.2.2.2.2.2.2.2.2.1 r6.2.2.2.2.2.2.2.2.2.2.2.2.2.2.2.2.2 r5) λr4=>.k (⟨r4.1,(⟨r4.2.1,r4.2.2.1⟩:RowID),r4.2.2.2.2.2.2.2.2.2.2.2.2.2.2.2.2.1,r4.2.2.2.1,r4.2.2.2.2.2.2.2.2.2.2.2.2.2.2.2.2.2,r4.2.2.2.2.1,(⟨r4.2.2.2.2.2.1,r4.2.2.2.2.2.2.1,r4.2.2.2.2.2.2.2.1⟩:Value)⟩:At)
def zj0 (zZ:yC->Bool×yC) (x_:At):=(zBw zZ x_).fin default
theorem zH2 (zZ:yC->Bool×yC) (zTo:SdP 87 (znr zZ)):SdP 151 (znc (zj0 zZ)):=
 sT (cx':=(zpN zZ)) (zk ⟨zTo,zrU,zu8,trivial⟩) call151 func151 (lOK (aC (zJ8 zZ) (aC (zKv zZ) aN)))
def zM8:Nat->(yC->Bool×yC)×(At->Bool×At)
 | 0=>(λ_=>(false,default),λ_=>(false,default))
 | n+1=>(zns ((zM8 n).2),zj0 ((zM8 n).1))
def znG (n:Nat):yC->Bool×yC:=(zM8 n).1
def zng (n:Nat):At->Bool×At:=(zM8 n).2
theorem zSc (n:Nat):znG (n+1)=zns (zng n):=rfl
theorem zMp (n:Nat):zng (n+1)=zj0 (znG n):=rfl
theorem z1a:∀ n,SdP 87 (znr (znG n))/\SdP 151 (znc (zng n))
 | 0=>⟨zbc call87 (λ_=>rfl),zbc call151 (λ_=>rfl)⟩
 | n+1=>by
  have ih:=z1a n;exact ⟨zNQ _ (ih.2),zH2 _ (ih.1)⟩
def zhz:yC->Bool×yC:=znG 1000
def zhv:Ab.Spec ty:=znr zhz
theorem zjS:SdP 87 zhv:=(z1a 1000).1
def zUe:=zbt base 9 [(62,zvX),(87,zhv)]
def zHw (a:yC):Wy0 (yC×Int):=.bn (zmL a) λr1=>.i (!r1) (.k ([],6)) (.bn (zhz a) λr0=>.k (r0,0))
def zeW (a:yC):=(zHw a).fin default
def zfj:=zi zZJ λx=>((zeW x.1).1,zR6 (zeW x.1).2)
theorem zgn:SdP 70 zfj:=
 sT (cx':=zUe) (zk ⟨zDX,zjS,trivial⟩) call70 func70 (lOK aN) (sg:=⟨[.own 28,.pure],[]⟩)
def zAJ:=zbt base 27 []
def zn9 (n_:Int):Wy0 (yC):=.i (decide (n_<0)) .d (.i (decide (IntKind.i64.wrap (n_ - IntKind.i64.wrap (0 - 0))>0)) (.i (decide (0<IntKind.i64.wrap (n_ - IntKind.i64.wrap (0 - 0)))&&(decide (IntKind.i64.wrap (n_ - IntKind.i64.wrap (0 - 0))*Int.ofNat 32<=Int.ofNat zO)&&(decide (IntKind.i64.wrap (n_ - IntKind.i64.wrap (0 - 0))<=Int.ofNat zO)&& !Nat.beq 2 0))) (.k (List.take (Int.toNat 0 - Int.toNat 0) (List.replicate (IntKind.i64.wrap (n_ - IntKind.i64.wrap (0 - 0))).toNat (TO.mk 0 [])))) .d) (.k []))
def zer (n_:Int):=(zn9 n_).fin default
def zBW:AL base (Unit×Int×Unit):=ze (zf zbia) (ze (zf zfl) zu)
def zl0:=zi zBW λx=>((zer x.2.1).1,zSe (zer x.2.1).2)
theorem zyp:SdP 140 zl0:=
 sT (cx':=zAJ) (zk trivial) call140 func140 (lOK aN) (sg:=⟨[.own 28],[]⟩)
abbrev zfB:=yA×Int×yA×Int×Int×Unit
abbrev zow:=yA×Int
abbrev zfx:=Unit×yA×Int×Int×Unit
abbrev zfs:=yC×Unit
def zdq (slices:yA) (size:Int) (t9:yA) (t10:Int) (t11:Int):Wy zfB Unit zow:=.i (decide (t11<t10)) (.i (decide (0<=t11)&&decide (t11<Int.ofNat t9.length)) (.i (decide (IntKind.i64.wrap (size+Int.ofNat (List.length (t9.getD t11.toNat default)))<0)) .d (.h (slices,(IntKind.i64.wrap (size+Int.ofNat (List.length (t9.getD t11.toNat default)))),t9,t10,(IntKind.i64.wrap (t11+1)),()) ())) .d) (.k (slices,size))
def zgX (x:zfB) (y:Unit):=zdq x.1 x.2.1 x.2.2.1 x.2.2.2.1 x.2.2.2.2.1
def zmA (n:Nat) (slices:yA) (size:Int) (t9:yA) (t10:Int) (t11:Int):=zC (zgX) default n (slices,size,t9,t10,t11,()) ()
def zyh (r:zow):LTree ty:=.done (.exit 0) [.sl 23 r.1,.lit (.int .i64 r.2)] []
def zyV:LL ty zfB:=za (lSl 23) (za zj (za (lSl 23) (za zj (za zj zl))))
def zdh (t25:yA) (t26:Int) (t27:Int) (newslice:yC):Wy zfx zfs (yC):=.i (decide (t27<t26)) (.i (decide (0<=t27)&&decide (t27<Int.ofNat t25.length)) (.i (decide ((newslice.length+List.length (t25.getD t27.toNat default))*32<=zO)) (.h ((),t25,t26,(IntKind.i64.wrap (t27+1)),()) ((newslice++t25.getD t27.toNat default),())) .d) .d) (.k newslice)
def zgB (x:zfx) (y:zfs):=zdh x.2.1 x.2.2.1 x.2.2.2.1 y.1
def zlX (n:Nat) (t25:yA) (t26:Int) (t27:Int) (newslice:yC):=zC (zgB) default n ((),t25,t26,t27,()) (newslice,())
def zwM (r:yC):LTree ty:=.done (.exit 2) [.own 144] [.arr 28 r false]
def zyt:LL ty zfx:=za (zds 144) (za (lSl 23) (za zj (za zj zl)))
def zyu:BL ty zfs:=zdw 28 false (zbe)
def zya (x:zfB) (y:Unit):Nat:=(x.1.length+Int.toNat x.2.1+x.2.2.1.length+Int.toNat x.2.2.2.1+Int.toNat x.2.2.2.2.1+1)
def zxX (x:zfx) (y:zfs):Nat:=(x.2.1.length+Int.toNat x.2.2.1+Int.toNat x.2.2.2.1+y.1.length+1)
def zg7:=zb3 base 36 [(140,zl0)] [] [(3,(kpL [0,3,9,10,11])),(11,(kpL [6,25,26,27]))] [(3,1,(kpL [0,3])),(11,3,(kpL [6]))] [(3,spW zyV zZe (zgX) default zyh zya),(11,spW zyt zyu (zgB) default zwM zxX)] [140]
theorem zyy:zF zg7 (lp (body f72) 0):=zq (id:=3) (hl:=rfl)
theorem zxG:zF zg7 (lp (body f72) 1):=zq (id:=11) (hl:=rfl)
def zmS (slices:yA):Wy0 (yC):=.bn (zmA (slices.length+Int.toNat 0+slices.length+(Int.ofNat slices.length).toNat +Int.toNat 0+1) slices 0 slices (Int.ofNat slices.length) 0) λr2=>.bn (zer r2.2) λr1=>.bn (zlX (r2.1.length+(Int.ofNat r2.1.length).toNat +Int.toNat 0+r1.length+1) r2.1 (Int.ofNat r2.1.length) 0 r1) λr0=>.k r0
def zd2 (slices:yA):=(zmS slices).fin default
def zAz:AL base (yA×Unit):=ze (zf (vSl 23)) zu
def zlq:=zi zAz λx=>((zd2 x.1).1,zSe (zd2 x.1).2)
theorem zwi:SdP 72 zlq:=
 sT (cx':=zg7) (zk ⟨zyp,trivial⟩) call72 func72 (lOK (aC zyy (aC zxG aN))) (sg:=⟨[.own 28],[]⟩)
def z2C:=zbt zb2 22 [(20,zce),(70,zfj),(71,zt5),(72,zlq)]
def zOB (a:yC) (b:yC):Wy0 (yC×Int):=.bn (zbZ a) λr4=>.i (!r4) (.k ([],1)) (.bn (zbZ b) λr3=>.i (!r3) (.k ([],1)) (.bn (zd2 [a,b]) λr2=>.bn (zix r2) λr1=>.bn (zeW r1) λr0=>.k (r0.1,r0.2)))
def zxj (a:yC) (b:yC):=(zOB a b).fin default
def z38:AL zb2 (yC×yC×Unit):=ze (zf (vSl 28)) (ze (zf (vSl 28)) zu)
def zIq:=zi z38 λx=>((zxj x.1 x.2.1).1,zR6 (zxj x.1 x.2.1).2)
theorem zVv:Sound Tryz.prog zb2 23 zIq:=
 sU (cx':=z2C) (zk ⟨zcg.nodr,zgn.nodr,zCt,zwi.nodr,trivial⟩) call23 func23 (lOK aN) (sg:=⟨[.own 28,.pure],[]⟩)
def zYq:=zbt base 9 []
def zLi (n_:Int):Wy0 (yC):=.i (decide (n_<1)) (.k []) (.k [TO.mk (if 1152921504606846976<n_ then 1152921504606846976 else n_) []])
def zsu (n_:Int):=(zLi n_).fin default
def zFJ:=zi z2k λx=>((zsu x.1).1,zSe (zsu x.1).2)
theorem zSX:SdP 149 zFJ:=
 sT (cx':=zYq) (zk trivial) call149 func149 (lOK aN) (sg:=⟨[.own 28],[]⟩)
def zBH:=zbt base 27 []
def zoL (n_:Int):Wy0 (yD):=.i (decide (n_<0)) .d (.i (decide (IntKind.i64.wrap (n_ - IntKind.i64.wrap (0 - 0))>0)) (.i (decide (0<IntKind.i64.wrap (n_ - IntKind.i64.wrap (0 - 0)))&&(decide (IntKind.i64.wrap (n_ - IntKind.i64.wrap (0 - 0))*Int.ofNat 128<=Int.ofNat zO)&&(decide (IntKind.i64.wrap (n_ - IntKind.i64.wrap (0 - 0))<=Int.ofNat zO)&& !Nat.beq 11 0))) (.k (List.take (Int.toNat 0 - Int.toNat 0) (List.replicate (IntKind.i64.wrap (n_ - IntKind.i64.wrap (0 - 0))).toNat (FO.mk (At.mk 0 (RowID.mk 0 0) [] 0 [] 0 (Value.mk 0 0 (ByteArray.mk #[]))) 0)))) .d) (.k []))
def zeH (n_:Int):=(zoL n_).fin default
def zA2 (r:yD):ARes ty:=⟨[.own 69 r],[]⟩
def zmQ:=zi zBW λx=>((zeH x.2.1).1,zA2 (zeH x.2.1).2)
theorem zzy:SdP 220 zmQ:=
 sT (cx':=zBH) (zk trivial) call220 func220 (lOK aN) (sg:=⟨[.own 69],[]⟩)
abbrev zfS:=List (yD)×Int×List (yD)×Int×Int×Unit
abbrev zpj:=List (yD)×Int
abbrev zfH:=Unit×List (yD)×Int×Int×Unit
abbrev zfI:=yD×Unit
def zdA (slices:List (yD)) (size:Int) (t9:List (yD)) (t10:Int) (t11:Int):Wy zfS Unit zpj:=.i (decide (t11<t10)) (.i (decide (0<=t11)&&decide (t11<Int.ofNat t9.length)) (.i (decide (IntKind.i64.wrap (size+Int.ofNat (List.length (t9.getD t11.toNat default)))<0)) .d (.h (slices,(IntKind.i64.wrap (size+Int.ofNat (List.length (t9.getD t11.toNat default)))),t9,t10,(IntKind.i64.wrap (t11+1)),()) ())) .d) (.k (slices,size))
def zhl (x:zfS) (y:Unit):=zdA x.1 x.2.1 x.2.2.1 x.2.2.2.1 x.2.2.2.2.1
def zmP (n:Nat) (slices:List (yD)) (size:Int) (t9:List (yD)) (t10:Int) (t11:Int):=zC (zhl) default n (slices,size,t9,t10,t11,()) ()
def zzv (r:zpj):LTree ty:=.done (.exit 0) [.sl 26 r.1,.lit (.int .i64 r.2)] []
def zAx:LL ty zfS:=za (lSl 26) (za zj (za (lSl 26) (za zj (za zj zl))))
def zdn (t25:List (yD)) (t26:Int) (t27:Int) (newslice:yD):Wy zfH zfI (yD):=.i (decide (t27<t26)) (.i (decide (0<=t27)&&decide (t27<Int.ofNat t25.length)) (.i (decide ((newslice.length+List.length (t25.getD t27.toNat default))*128<=zO)) (.h ((),t25,t26,(IntKind.i64.wrap (t27+1)),()) ((newslice++t25.getD t27.toNat default),())) .d) .d) (.k newslice)
def zg1 (x:zfH) (y:zfI):=zdn x.2.1 x.2.2.1 x.2.2.2.1 y.1
def zmh (n:Nat) (t25:List (yD)) (t26:Int) (t27:Int) (newslice:yD):=zC (zg1) default n ((),t25,t26,t27,()) (newslice,())
def zyk (r:yD):LTree ty:=.done (.exit 2) [.own 144] [.arr 69 r false]
def zzr:LL ty zfH:=za (zds 144) (za (lSl 26) (za zj (za zj zl)))
def zzJ:BL ty zfI:=zdw 69 false (zbe)
def zy9 (x:zfS) (y:Unit):Nat:=(x.1.length+Int.toNat x.2.1+x.2.2.1.length+Int.toNat x.2.2.2.1+Int.toNat x.2.2.2.2.1+1)
def zyx (x:zfH) (y:zfI):Nat:=(x.2.1.length+Int.toNat x.2.2.1+Int.toNat x.2.2.2.1+y.1.length+1)
def zhe:=zb3 base 36 [(220,zmQ)] [] [(3,(kpL [0,3,9,10,11])),(11,(kpL [6,25,26,27]))] [(3,1,(kpL [0,3])),(11,3,(kpL [6]))] [(3,spW zAx zZe (zhl) default zzv zy9),(11,spW zzr zzJ (zg1) default zyk zyx)] [220]
theorem zyT:zF zhe (lp (body f183) 0):=zq (id:=3) (hl:=rfl)
theorem zym:zF zhe (lp (body f183) 1):=zq (id:=11) (hl:=rfl)
def znz (slices:List (yD)):Wy0 (yD):=.bn (zmP (slices.length+Int.toNat 0+slices.length+(Int.ofNat slices.length).toNat +Int.toNat 0+1) slices 0 slices (Int.ofNat slices.length) 0) λr2=>.bn (zeH r2.2) λr1=>.bn (zmh (r2.1.length+(Int.ofNat r2.1.length).toNat +Int.toNat 0+r1.length+1) r2.1 (Int.ofNat r2.1.length) 0 r1) λr0=>.k r0
def zee (slices:List (yD)):=(znz slices).fin default
def zA5:AL base (List (yD)×Unit):=ze (zf (vSl 26)) zu
def zlY:=zi zA5 λx=>((zee x.1).1,zA2 (zee x.1).2)
theorem zxT:SdP 183 zlY:=
 sT (cx':=zhe) (zk ⟨zzy,trivial⟩) call183 func183 (lOK (aC zyT (aC zym aN))) (sg:=⟨[.own 69],[]⟩)
abbrev zuI:=yD×yD×Unit×Unit
abbrev zuU:=yD×Unit
abbrev zJ9:=yD×yD×yD
def zCs (a:yD) (b:yD) (out_:yD):Wy zuI zuU zJ9:=.i (decide (Int.ofNat a.length>0)) (.i (decide (Int.ofNat b.length>0)) (.i (decide ((0:Int)<=(0:Int))&&decide (0<Int.ofNat a.length)) (.i (decide ((0:Int)<=(0:Int))&&decide (0<Int.ofNat b.length)) (.bn (zjY (At.mk (a.getD (Int.toNat 0) default).At.Kind (a.getD (Int.toNat 0) default).At.Row (a.getD (Int.toNat 0) default).At.Ag (a.getD (Int.toNat 0) default).At.Func (a.getD (Int.toNat 0) default).At.Items (a.getD (Int.toNat 0) default).At.Op (a.getD (Int.toNat 0) default).At.Bd) (At.mk (b.getD (Int.toNat 0) default).At.Kind (b.getD (Int.toNat 0) default).At.Row (b.getD (Int.toNat 0) default).At.Ag (b.getD (Int.toNat 0) default).At.Func (b.getD (Int.toNat 0) default).At.Items (b.getD (Int.toNat 0) default).At.Op (b.getD (Int.toNat 0) default).At.Bd)) λr1=>.i (decide (r1<0)) (.i (decide ((0:Int)<=(0:Int))&&decide (0<Int.ofNat a.length)) (.i (decide ((out_.length+[FO.mk (At.mk (a.getD (Int.toNat 0) default).At.Kind (a.getD (Int.toNat 0) default).At.Row (a.getD (Int.toNat 0) default).At.Ag (a.getD (Int.toNat 0) default).At.Func (a.getD (Int.toNat 0) default).At.Items (a.getD (Int.toNat 0) default).At.Op (a.getD (Int.toNat 0) default).At.Bd) (a.getD (Int.toNat 0) default).Exp].length)*128<=zO)) (.i (decide ((0:Int)<=(1:Int))&&decide (1<=Int.ofNat a.length)&&decide (Int.ofNat a.length<=Int.ofNat a.length)) (.h ((List.take ((Int.ofNat a.length).toNat - Int.toNat 1) (List.drop (Int.toNat 1) a)),b,(),()) ((out_++[FO.mk (At.mk (a.getD (Int.toNat 0) default).At.Kind (a.getD (Int.toNat 0) default).At.Row (a.getD (Int.toNat 0) default).At.Ag (a.getD (Int.toNat 0) default).At.Func (a.getD (Int.toNat 0) default).At.Items (a.getD (Int.toNat 0) default).At.Op (a.getD (Int.toNat 0) default).At.Bd) (a.getD (Int.toNat 0) default).Exp]),())) .d) .d) .d) (.i (decide (r1>0)) (.i (decide ((0:Int)<=(0:Int))&&decide (0<Int.ofNat b.length)) (.i (decide ((out_.length+[FO.mk (At.mk (b.getD (Int.toNat 0) default).At.Kind (b.getD (Int.toNat 0) default).At.Row (b.getD (Int.toNat 0) default).At.Ag (b.getD (Int.toNat 0) default).At.Func (b.getD (Int.toNat 0) default).At.Items (b.getD (Int.toNat 0) default).At.Op (b.getD (Int.toNat 0) default).At.Bd) (b.getD (Int.toNat 0) default).Exp].length)*128<=zO)) (.i (decide ((0:Int)<=(1:Int))&&decide (1<=Int.ofNat b.length)&&decide (Int.ofNat b.length<=Int.ofNat b.length)) (.h (a,(List.take ((Int.ofNat b.length).toNat - Int.toNat 1) (List.drop (Int.toNat 1) b)),(),()) ((out_++[FO.mk (At.mk (b.getD (Int.toNat 0) default).At.Kind (b.getD (Int.toNat 0) default).At.Row (b.getD (Int.toNat 0) default).At.Ag (b.getD (Int.toNat 0) default).At.Func (b.getD (Int.toNat 0) default).At.Items (b.getD (Int.toNat 0) default).At.Op (b.getD (Int.toNat 0) default).At.Bd) (b.getD (Int.toNat 0) default).Exp]),())) .d) .d) .d) (.i (decide ((0:Int)<=(0:Int))&&decide (0<Int.ofNat a.length)) (.bn (zgi (At.mk (a.getD (Int.toNat 0) default).At.Kind (a.getD (Int.toNat 0) default).At.Row (a.getD (Int.toNat 0) default).At.Ag (a.getD (Int.toNat 0) default).At.Func (a.getD (Int.toNat 0) default).At.Items (a.getD (Int.toNat 0) default).At.Op (a.getD (Int.toNat 0) default).At.Bd)) λr0=>.i (!r0) (.i (decide ((0:Int)<=(0:Int))&&decide (0<Int.ofNat b.length)) (.i (decide ((out_.length+[FO.mk (At.mk (a.getD (Int.toNat 0) default).At.Kind (a.getD (Int.toNat 0) default).At.Row (a.getD (Int.toNat 0) default).At.Ag (a.getD (Int.toNat 0) default).At.Func (a.getD (Int.toNat 0) default).At.Items (a.getD (Int.toNat 0) default).At.Op (a.getD (Int.toNat 0) default).At.Bd) (IntKind.i64.wrap ((a.getD (Int.toNat 0) default).Exp+(b.getD (Int.toNat 0) default).Exp))].length)*128<=zO)) (.i (decide ((0:Int)<=(1:Int))&&decide (1<=Int.ofNat a.length)&&decide (Int.ofNat a.length<=Int.ofNat a.length)) (.i (decide ((0:Int)<=(1:Int))&&decide (1<=Int.ofNat b.length)&&decide (Int.ofNat b.length<=Int.ofNat b.length)) (.h ((List.take ((Int.ofNat a.length).toNat - Int.toNat 1) (List.drop (Int.toNat 1) a)),(List.take ((Int.ofNat b.length).toNat - Int.toNat 1) (List.drop (Int.toNat 1) b)),(),()) ((out_++[FO.mk (At.mk (a.getD (Int.toNat 0) default).At.Kind (a.getD (Int.toNat 0) default).At.Row (a.getD (Int.toNat 0) default).At.Ag (a.getD (Int.toNat 0) default).At.Func (a.getD (Int.toNat 0) default).At.Items (a.getD (Int.toNat 0) default).At.Op (a.getD (Int.toNat 0) default).At.Bd) (IntKind.i64.wrap ((a.getD (Int.toNat 0) default).Exp+(b.getD (Int.toNat 0) default).Exp))]),())) .d) .d) .d) .d) (.i (decide ((out_.length+[FO.mk (At.mk (a.getD (Int.toNat 0) default).At.Kind (a.getD (Int.toNat 0) default).At.Row (a.getD (Int.toNat 0) default).At.Ag (a.getD (Int.toNat 0) default).At.Func (a.getD (Int.toNat 0) default).At.Items (a.getD (Int.toNat 0) default).At.Op (a.getD (Int.toNat 0) default).At.Bd) (a.getD (Int.toNat 0) default).Exp].length)*128<=zO)) (.i (decide ((0:Int)<=(1:Int))&&decide (1<=Int.ofNat a.length)&&decide (Int.ofNat a.length<=Int.ofNat a.length)) (.i (decide ((0:Int)<=(1:Int))&&decide (1<=Int.ofNat b.length)&&decide (Int.ofNat b.length<=Int.ofNat b.length)) (.h ((List.take ((Int.ofNat a.length).toNat - Int.toNat 1) (List.drop (Int.toNat 1) a)),(List.take ((Int.ofNat b.length).toNat - Int.toNat 1) (List.drop (Int.toNat 1) b)),(),()) ((out_++[FO.mk (At.mk (a.getD (Int.toNat 0) default).At.Kind (a.getD (Int.toNat 0) default).At.Row (a.getD (Int.toNat 0) default).At.Ag (a.getD (Int.toNat 0) default).At.Func (a.getD (Int.toNat 0) default).At.Items (a.getD (Int.toNat 0) default).At.Op (a.getD (Int.toNat 0) default).At.Bd) (a.getD (Int.toNat 0) default).Exp]),())) .d) .d) .d)) .d))) .d) .d) (.k (a,b,out_))) (.k (a,b,out_))
def zK6 (x:zuI) (y:zuU):=zCs x.1 x.2.1 y.1
def zCJ (n:Nat) (a:yD) (b:yD) (out_:yD):=zC (zK6) default n (a,b,(),()) (out_,())
def zYu (r:zJ9):LTree ty:=.done (.exit 0) [.sl 69 r.1,.sl 69 r.2.1,.own 300] [.arr 69 r.2.2 false]
def zZC:LL ty zuI:=za (lSl 69) (za (lSl 69) (za (zds 300) zl))
def zZa:BL ty zuU:=zdw 69 false (zbe)
def zYs (x:zuI) (y:zuU):Nat:=(x.1.length+x.2.1.length+y.1.length+1)
def zLe:=zb3 base 75 [(64,zk0),(65,zn2),(183,zlY)] [] [(2,[(0,.keep),(1,.keep),(5,.own 69)])] [(2,1,(kpL [0,1,5]))] [(2,spW zZC zZa (zK6) default zYu zYs)] []
theorem zYx:zF zLe (lp (body f154) 0):=zq (id:=2) (hl:=rfl)
def zMQ (a:yD) (b:yD):Wy0 (yD):=.bn (zCJ (a.length+b.length+0+1) a b []) λr5=>.bn (zee [r5.2.2,r5.1,r5.2.1]) λr4=>.k r4
def zpm (a:yD) (b:yD):=(zMQ a b).fin default
def zHm:=zi zSf λx=>((zpm x.1 x.2.1).1,zA2 (zpm x.1 x.2.1).2)
theorem zTj:SdP 154 zHm:=
 sT (cx':=zLe) (zk ⟨zpa,zwb,zxT,trivial⟩) call154 func154 (lOK (aC zYx aN)) (sg:=⟨[.own 69],[]⟩)
def zXZ:=zbt base 12 []
def zLc (a:Int) (b:Int):Wy0 (Int):=.i (!decide (b=0)) (.i (decide (a>IntKind.i64.wrap (Int.tdiv 1152921504606846976 b))) (.k 1152921504606846976) (.k (IntKind.i64.wrap (a*b)))) .d
def zsv (a:Int) (b:Int):=(zLc a b).fin default
def zF0:=zi z8x λx=>((zsv x.1 x.2.1).1,z2L (zsv x.1 x.2.1).2)
theorem zR0:SdP 153 zF0:=
 sT (cx':=zXZ) (zk trivial) call153 func153 (lOK aN)
abbrev zwI:=yC×Unit×Unit×yC×Int×Int×yC×Int×Int×Unit
abbrev zwG:=yC×Term×Unit
abbrev zMZ:=yC×yC×Int×Int×yC
abbrev zwz:=yC×Unit×yC×Int×Int×Unit
abbrev zwy:=yC×Unit
def zqc (b:yC) (t19:yC) (t20:Int) (t21:Int) (t25:yC) (t26:Int) (t27:Int) (terms:yC) (x_:Term):Wy zwI zwG zMZ:=.i (decide (t27<t26)) (.i (decide (0<=t27)&&decide (t27<Int.ofNat t25.length)) (.bn (zsv x_.Cf (t25.getD t27.toNat default).Cf) λr5=>.bn (zpm x_.Fs (t25.getD t27.toNat default).Fs) λr4=>.i (decide ((terms.length+[TO.mk r5 r4].length)*32<=zO)) (.h (b,(),(),t19,t20,t21,t25,t26,(IntKind.i64.wrap (t27+1)),()) ((terms++[TO.mk r5 r4]),x_,())) .d) .d) (.k (b,t19,t20,t21,terms))
def zEb (x:zwI) (y:zwG):=zqc x.1 x.2.2.2.1 x.2.2.2.2.1 x.2.2.2.2.2.1 x.2.2.2.2.2.2.1 x.2.2.2.2.2.2.2.1 x.2.2.2.2.2.2.2.2.1 y.1 y.2.1
def zM0 (n:Nat) (b:yC) (t19:yC) (t20:Int) (t21:Int) (t25:yC) (t26:Int) (t27:Int) (terms:yC) (x_:Term):=zC (zEb) default n (b,(),(),t19,t20,t21,t25,t26,t27,()) (terms,x_,())
def z0j (r:zMZ):LTree ty:=.done (.exit 2) [.sl 28 r.1,.own 208,.sl 28 r.2.1,.lit (.int .i64 r.2.2.1),.lit (.int .i64 r.2.2.2.1)] [.arr 28 r.2.2.2.2 false]
def z2i:LL ty zwI:=za (lSl 28) (za (zds 208) (za (zgc 209 0) (za (lSl 28) (za zj (za zj (za (lSl 28) (za zj (za zj zl))))))))
def z1U:BL ty zwG:=zdw 28 false (zj7 (zh1 (λx=>(⟨x.1,x.2.1⟩:Term)) (λx=>(x.Cf,x.Fs,())) (λ_=>rfl) (za (zT .i64) (za (lSl 69) zl))) false (zbe))
def zqj (b:yC) (t19:yC) (t20:Int) (t21:Int) (terms:yC):Wy zwz zwy (yC):=.i (decide (t21<t20)) (.i (decide (0<=t21)&&decide (t21<Int.ofNat t19.length)) (.bn (zM0 (b.length+t19.length+t20.toNat +t21.toNat +b.length+(Int.ofNat b.length).toNat +Int.toNat 0+terms.length+(t19.getD t21.toNat default).Fs.length+1) b t19 t20 t21 b (Int.ofNat b.length) 0 terms (t19.getD t21.toNat default)) λr8=>.h ((r8.1),(),(r8.2.1),(r8.2.2.1),(IntKind.i64.wrap (r8.2.2.2.1+1)),()) ((r8.2.2.2.2),())) .d) (.k terms)
def zEC (x:zwz) (y:zwy):=zqj x.1 x.2.2.1 x.2.2.2.1 x.2.2.2.2.1 y.1
def zEz (n:Nat) (b:yC) (t19:yC) (t20:Int) (t21:Int) (terms:yC):=zC (zEC) default n (b,(),t19,t20,t21,()) (terms,())
def z2R:LL ty zwz:=za (lSl 28) (za (zds 208) (za (lSl 28) (za zj (za zj zl))))
def z3c:BL ty zwy:=zdw 28 false (zbe)
def z1j (x:zwI) (y:zwG):Nat:=(x.1.length+x.2.2.2.1.length+Int.toNat x.2.2.2.2.1+Int.toNat x.2.2.2.2.2.1+x.2.2.2.2.2.2.1.length+Int.toNat x.2.2.2.2.2.2.2.1+Int.toNat x.2.2.2.2.2.2.2.2.1+y.1.length+y.2.1.Fs.length+1)
def zZY (x:zwz) (y:zwy):Nat:=(x.1.length+x.2.2.1.length+Int.toNat x.2.2.2.1+Int.toNat x.2.2.2.2.1+y.1.length+1)
def zEB:=zb3 zb2 52 [(20,zce),(70,zfj),(71,zt5),(153,zF0),(154,zHm)] [] [(5,[(1,.keep),(6,.own 28),(19,.keep),(20,.keep),(21,.keep)]),(8,[(1,.keep),(6,.own 28),(8,.keep),(19,.keep),(20,.keep),(21,.keep),(25,.keep),(26,.keep),(27,.keep)])] [(5,1,(kpL [6])),(8,3,(kpL [1,6,19,20,21]))] [(8,spW z2i z1U (zEb) default z0j z1j),(5,spW z2R z3c (zEC) default zSK zZY)] []
theorem zZq:zF zEB (lp (body f92) 1):=zq (id:=8) (hl:=rfl)
theorem zZg:zF zEB (lp (body f92) 0):=zq (id:=5) (hl:=rfl)
def zPn (a:yC) (b:yC):Wy0 (yC×Int):=.bn (zbZ a) λr14=>.i (!r14) (.k ([],1)) (.bn (zbZ b) λr13=>.i (!r13) (.k ([],1)) (.bn (zEz (b.length+a.length+(Int.ofNat a.length).toNat +Int.toNat 0+0+1) b a (Int.ofNat a.length) 0 []) λr12=>.bn (zix r12) λr11=>.bn (zeW r11) λr10=>.k (r10.1,r10.2)))
def zxQ (a:yC) (b:yC):=(zPn a b).fin default
def zIy:=zi z38 λx=>((zxQ x.1 x.2.1).1,zR6 (zxQ x.1 x.2.1).2)
theorem zWC:Sound Tryz.prog zb2 92 zIy:=
 sU (cx':=zEB) (zk ⟨zcg.nodr,zgn.nodr,zCt,zR0.nodr,zTj.nodr,trivial⟩) call92 func92 (lOK (aC zZg (aC zZq aN))) (sg:=⟨[.own 28,.pure],[]⟩)
def zGW:=zbt base 8 []
def zwe (b:Bg) (p1:RowID):Wy0 (Bool):=.k (b.Row.Table==p1.Table&&(b.Row.Seq==p1.Seq&&true))
def zgN (b:Bg) (p1:RowID):=(zwe b p1).fin default
def zIb:AL base (Bg×RowID×Unit):=ze (zf (zcV 51)) (ze (zf (zBc 49)) zu)
def zlc:=zi zIb λx=>((zgN x.1 x.2.1).1,zYt (zgN x.1 x.2.1).2)
theorem zrr:SdP 86 zlc:=
 sT (cx':=zGW) (zk trivial) call86 func86 (lOK aN)
def zWo:=zbt base 8 []
def zIz (x_:At):Wy0 (yC):=.k [TO.mk 1 [FO.mk (At.mk x_.Kind x_.Row x_.Ag x_.Func x_.Items x_.Op x_.Bd) 1]]
def zf8 (x_:At):=(zIz x_).fin default
def zhp:=zi zE5 λx=>((zf8 x.1).1,zSe (zf8 x.1).2)
theorem zj1:SdP 152 zhp:=
 sT (cx':=zWo) (zk trivial) call152 func152 (lOK aN) (sg:=⟨[.own 28],[]⟩)
def z2G:=zbt base 9 [(128,zwB),(152,zhp)]
def zOY (id:RowID):Wy0 (yC):=.bn (zsj id) λr0=>.i (!r0) (.k []) (.k ((zf8 (At.mk 0 id [] 0 [] 0 (Value.mk 0 0 (ByteArray.mk #[])))).2))
def zxo (id:RowID):=(zOY id).fin default
def zIE:=zi z8t λx=>((zxo x.1).1,zSe (zxo x.1).2)
theorem zVV:SdP 88 zIE:=
 sT (cx':=z2G) (zk ⟨zDg,zj1,trivial⟩) call88 func88 (lOK aN) (sg:=⟨[.own 28],[]⟩)
abbrev zeu:=yG×(RowID×Unit)×Int×Int×Unit
def ztr (s:yG) (f:RowID) (t7:Int) (t8:Int):Wy zeu Unit (Int⊕Unit):=.i (decide (t8<t7)) (.i (decide (0<=t8)&&decide (t8<Int.ofNat s.length)) (.i ((zgN (s.getD t8.toNat default) f).2) (.k (.inl t8)) (.h (s,(f,()),t7,(IntKind.i64.wrap (t8+1)),()) ())) .d) (.k (.inr ()))
def zjo (x:zeu) (y:Unit):=ztr x.1 x.2.1.1 x.2.2.1 x.2.2.2.1
def zte (n:Nat) (s:yG) (f:RowID) (t7:Int) (t8:Int):=zC (zjo) (.inl default) n (s,(f,()),t7,t8,()) ()
def ztm:LL ty zeu:=za (lSl 51) (za (lFn 86 (za (zoD (zh1 (λx=>(⟨x.1,x.2.1⟩:RowID)) (λx=>(x.Table,x.Seq,())) (λ_=>rfl) (za zj (za zj zl))) 0) zl)) (za zj (za zj zl)))
def zsO (x:zeu) (y:Unit):Nat:=(x.1.length+Int.toNat x.2.2.1+Int.toNat x.2.2.2.1+1)
def zjc:=zb3 base 19 [(86,zlc)] [] [(2,(kpL [0,1,7,8]))] [(2,1,[]),(2,0,(kpL [4]))] [(2,spW ztm zZe (zjo) (.inl default) ztL zsO)] []
theorem zsb:zF zjc (lp (body f85) 0):=zq (id:=2) (hl:=rfl)
def zug (s:yG) (f:RowID):Wy0 (Int):=.bn (zte (s.length+(Int.ofNat s.length).toNat +Int.toNat 0+1) s f (Int.ofNat s.length) 0) λr0=>.i (isL r0) (.k (getL r0)) (.k (-1:Int))
def zcP (s:yG) (f:RowID):=(zug s f).fin default
def zuj:AL base (yG×(RowID×Unit)×Unit):=ze (zf (vSl 51)) (ze (zf (vFn 86 (zdP (zBc 49) zb7))) zu)
def zij:=zi zuj λx=>((zcP x.1 x.2.1.1).1,z2L (zcP x.1 x.2.1.1).2)
theorem zq8:SdP 85 zij:=
 sT (cx':=zjc) (zk ⟨zrr,trivial⟩) call85 func85 (lOK (aC zsb aN))
end Go.Proofs.YtljlfiomikifjaaGreatDoor
end
