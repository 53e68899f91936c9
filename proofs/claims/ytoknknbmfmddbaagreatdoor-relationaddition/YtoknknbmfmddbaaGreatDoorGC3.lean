/- Texts of this claim, joined (the program, its functions in plain words, and what they compute). -/
import Derived.WalkKit
import Derived.WalkSpells
import Derived.Test.YtoknknbmfmddbaaGreatDoorGC2
set_option autoImplicit false
set_option linter.unusedVariables false
set_option linter.unusedSectionVars false
set_option linter.unusedSimpArgs false
set_option maxRecDepth 1000000
set_option maxHeartbeats 0
noncomputable section
namespace Go.Proofs.YtoknknbmfmddbaaGreatDoor
open Go Go.Ab
open Go.Proofs.Tryz
abbrev zdM:=yD×Unit×Int×Int×Unit
def zo3 (zf:Wd->Bool×Bool) (s:yD) (t7:Int) (t8:Int):Wy zdM Unit (Int⊕Unit):=.i (decide (t8<t7)) (.i (decide (0<=t8)&&decide (t8<Int.ofNat s.length)) (.bn (zf (s.getD t8.toNat default)) λr0=>.i (r0) (.k (.inl t8)) (.h (s,(),t7,(IntKind.i64.wrap (t8+1)),()) ())) .d) (.k (.inr ()))
def zhl (zf:Wd->Bool×Bool) (x:zdM) (y:Unit):=zo3 zf x.1 x.2.2.1 x.2.2.2.1
def zpb (zf:Wd->Bool×Bool) (n:Nat) (s:yD) (t7:Int) (t8:Int):=zA (zhl zf) (.inl default) n (s,(),t7,t8,()) ()
def zpt:LL ty zdM:=za (lSl 169) (za (lFn 179 (zr)) (za zj (za zj zr)))
def zot (x:zdM) (y:Unit):Nat:=(x.1.length+Int.toNat x.2.2.1+Int.toNat x.2.2.2.1+1)
def zhu (zf:Wd->Bool×Bool):=zc6 base 19 [(179,(zdu zf))] [] [(2,(kpL [0,1,7,8]))] [(2,1,[]),(2,0,(kpL [4]))] [(2,spW zpt z2k (zhl zf) (.inl default) zsy zot)] []
theorem zor (zf:Wd->Bool×Bool):zS (zhu zf) (lp (body f228) 0):=zI (id:=2) (hl:=rfl)
def zpU (zf:Wd->Bool×Bool) (s:yD):Wy0 (Int):=.bn (zpb zf (s.length+(Int.ofNat s.length).toNat +Int.toNat 0+1) s (Int.ofNat s.length) 0) λr2=>.i (isL r2) (.k (getL r2)) (.k (-1:Int))
def zcZ (zf:Wd->Bool×Bool) (s:yD):=(zpU zf s).fin default
theorem znJ (zf:Wd->Bool×Bool) (zgh:SdP 179 (zdu zf)):SdP 228 (zc3 (zcZ zf)):=
 sT (cx':=(zhu zf)) (zm ⟨zgh,trivial⟩) call228 func228 (lOK (aC (zor zf) aN))
def zey:Nat->(yB->Bool×Bool)×(At->Bool×Bool)×(yB->Bool×Bool)×(Wd->Bool×Bool)×(yA->Bool×Int)×(yA->Bool×Bool)×(yD->Bool×Int)×(yD->Bool×Bool)
 | 0=>(λ_=>(false,default),λ_=>(false,default),λ_=>(false,default),λ_=>(false,default),λ_=>(false,default),λ_=>(false,default),λ_=>(false,default),λ_=>(false,default))
 | n+1=>(znC ((zey n).2.1),zj4 ((zey n).2.2.2.2.2.1) ((zey n).2.2.1) ((zey n).2.2.2.2.2.2.2) ((zey n).2.2.2.1),zkS ((zey n).1),zkT ((zey n).1),zcH ((zey n).2.2.1),zcp ((zey n).2.2.1) ((zey n).2.2.2.2.1),zcZ ((zey n).2.2.2.1),zcM ((zey n).2.2.2.1) ((zey n).2.2.2.2.2.2.1))
def zkJ (n:Nat):yB->Bool×Bool:=(zey n).1
def zmU (n:Nat):At->Bool×Bool:=(zey n).2.1
def zfo (n:Nat):yB->Bool×Bool:=(zey n).2.2.1
def zft (n:Nat):Wd->Bool×Bool:=(zey n).2.2.2.1
def zcE (n:Nat):yA->Bool×Int:=(zey n).2.2.2.2.1
def zco (n:Nat):yA->Bool×Bool:=(zey n).2.2.2.2.2.1
def zc4 (n:Nat):yD->Bool×Int:=(zey n).2.2.2.2.2.2.1
def zcL (n:Nat):yD->Bool×Bool:=(zey n).2.2.2.2.2.2.2
theorem zOB (n:Nat):zkJ (n+1)=znC (zmU n):=rfl
theorem zIh (n:Nat):zmU (n+1)=zj4 (zco n) (zfo n) (zcL n) (zft n):=rfl
theorem zE4 (n:Nat):zfo (n+1)=zkS (zkJ n):=rfl
theorem zER (n:Nat):zft (n+1)=zkT (zkJ n):=rfl
theorem zm1 (n:Nat):zcE (n+1)=zcH (zfo n):=rfl
theorem zlV (n:Nat):zco (n+1)=zcp (zfo n) (zcE n):=rfl
theorem zpp (n:Nat):zc4 (n+1)=zcZ (zft n):=rfl
theorem znB (n:Nat):zcL (n+1)=zcM (zft n) (zc4 n):=rfl
theorem zWh:∀ n,SdP 52 (ziP (zkJ n))/\SdP 107 (zmS (zmU n))/\SdP 174 (ziP (zfo n))/\SdP 179 (zdu (zft n))/\SdP 226 (zcI (zcE n))/\SdP 173 (zcn (zco n))/\SdP 228 (zc3 (zc4 n))/\SdP 178 (zcO (zcL n))
 | 0=>⟨zbQ call52 (λ_=>rfl),zbQ call107 (λ_=>rfl),zbQ call174 (λ_=>rfl),zbQ call179 (λ_=>rfl),zbQ call226 (λ_=>rfl),zbQ call173 (λ_=>rfl),zbQ call228 (λ_=>rfl),zbQ call178 (λ_=>rfl)⟩
 | n+1=>by
  have ih:=zWh n;exact ⟨zJu _ (ih.2.1),zEk _ _ _ _ (ih.2.2.2.2.2.1) (ih.2.2.1) (ih.2.2.2.2.2.2.2) (ih.2.2.2.1),zCA _ (ih.1),zCx _ (ih.1),zlZ _ (ih.2.2.1),zk9 _ _ (ih.2.2.1) (ih.2.2.2.2.1),znJ _ (ih.2.2.2.1),zmp _ _ (ih.2.2.2.1) (ih.2.2.2.2.2.2.1)⟩
def zb9:yB->Bool×Bool:=zkJ 1000
def zcr:Ab.Spec ty:=ziP zb9
theorem zcz:SdP 52 zcr:=(zWh 1000).1
def zR2 (r:ByteArray):ARes ty:=⟨[.pure (.lit (.string r))],[]⟩
def zVw:AL zbp (yB×Unit):=zg (zh (vSl 107)) zC
def zo4 (F:yB->Bool×ByteArray):Ab.Spec ty:=zi zVw λx=>((F x.1).1,zR2 (F x.1).2)
def zLq:AL zbp (At×Unit):=zg (zh (zda 143)) zC
def zl7 (F:At->Bool×ByteArray):Ab.Spec ty:=zi zLq λx=>((F x.1).1,zR2 (F x.1).2)
def zG2:AL zbp (yC×Unit):=zg (zh (vSl 145)) zC
def zgY (F:yC->Bool×ByteArray):Ab.Spec ty:=zi zG2 λx=>((F x.1).1,zR2 (F x.1).2)
def zK7:=zbN base 2 []
def zMV:Wy0 (List ByteArray):=.k [ByteArray.mk #[(67:UInt8),(79:UInt8),(85:UInt8),(78:UInt8),(84:UInt8)],ByteArray.mk #[(83:UInt8),(85:UInt8),(77:UInt8)],ByteArray.mk #[(77:UInt8),(73:UInt8),(78:UInt8)],ByteArray.mk #[(77:UInt8),(65:UInt8),(88:UInt8)]]
def zb2:Bool×List ByteArray:=(zMV).fin default
def zKc (r:List ByteArray):ARes ty:=⟨[.own 9 r],[]⟩
def zxR:=zi z0b λx=>((zb2 ).1,zKc (zb2 ).2)
theorem zG9:SdP 265 zxR:=
 sT (cx':=zK7) (zm trivial) call265 func265 (lOK aN) (sg:=⟨[.own 9],[]⟩)
def zLt:=zbN base 2 []
def zNk:Wy0 (List ByteArray):=.k [ByteArray.mk #[(61:UInt8)],ByteArray.mk #[(60:UInt8),(62:UInt8)],ByteArray.mk #[(60:UInt8)],ByteArray.mk #[(60:UInt8),(61:UInt8)],ByteArray.mk #[(62:UInt8)],ByteArray.mk #[(62:UInt8),(61:UInt8)]]
def zdJ:Bool×List ByteArray:=(zNk).fin default
def zxO:=zi z0b λx=>((zdJ ).1,zKc (zdJ ).2)
theorem zHx:SdP 266 zxO:=
 sT (cx':=zLt) (zm trivial) call266 func266 (lOK aN) (sg:=⟨[.own 9],[]⟩)
def strings_Join (l:List ByteArray) (sep:ByteArray):Bool×ByteArray:=zVc l sep
def zpj:Ab.Spec ty:=zi (cx:=zbp) (zg (zh (vSl 9)) (zg (zh zxz) zC)) λx=>((strings_Join x.1 x.2.1).1,⟨[.pure (.lit (.string (strings_Join x.1 x.2.1).2))],[]⟩)
theorem zs4:Sound Tryz.prog zbp 44 zpj:=z7j (T:=9) zPA rfl Go.Proofs.Tryz.lays156 Go.Proofs.Tryz.Builder_Extra_156 call44 (λs:ByteArray=>s) (λ_=>rfl) strings_Join (λl sep=>congrArg (λl=>zVc l sep) (List.map_id' (α:=ByteArray) l).symm)
def strconv_Itoa (x:Int):Bool×ByteArray:=zP2 x
def zAt:Ab.Spec ty:=zi (cx:=base) (zg (zh (zg0 .i64)) zC) λx=>((strconv_Itoa x.1).1,⟨[.pure (.lit (.string (strconv_Itoa x.1).2))],[]⟩)
theorem zFQ:SdP 216 zAt:=z7h zfB Go.Proofs.Tryz.laysM171 call216 (λ_ h=>h.1)
def zXs:=zbN base 15 [(116,zum),(216,zAt)]
def zL7 (id:RowID):Wy0 (ByteArray):=.bn (zro id) λr2=>.i (!r2) (.k (ByteArray.mk #[])) (.bn (strconv_Itoa id.Table) λr1=>.i (decide ((ByteArray.mk #[(116:UInt8)]).size+r1.size<=9223372036854775807)) (.i (decide ((ByteArray.mk #[(116:UInt8)]++r1).size+(ByteArray.mk #[(46:UInt8)]).size<=9223372036854775807)) (.bn (strconv_Itoa id.Seq) λr0=>.i (decide ((ByteArray.mk #[(116:UInt8)]++r1++ByteArray.mk #[(46:UInt8)]).size+r0.size<=9223372036854775807)) (.k (ByteArray.mk #[(116:UInt8)]++r1++ByteArray.mk #[(46:UInt8)]++r0)) .d) .d) .d)
def zwZ (id:RowID):=(zL7 id).fin default
def zGy:=zi z4X λx=>((zwZ x.1).1,zR2 (zwZ x.1).2)
theorem zSi:SdP 264 zGy:=
 sT (cx':=zXs) (zm ⟨zyV,zFQ,trivial⟩) call264 func264 (lOK aN)
def zjJ (m b:Int):Bool×ByteArray:=zvH m b
def zt4:Ab.Spec ty:=zi (cx:=base) (zg (zh (zg0 .i64)) (zg (zh (zg0 .i64)) zC)) λx=>((zjJ x.1 x.2.1).1,⟨[.pure (.lit (.string (zjJ x.1 x.2.1).2))],[]⟩)
theorem zzP:SdP 92 zt4:=zYk zfB Go.Proofs.Tryz.laysM173 call92 (λ_ h=>h.1)
def strings_ReplaceAll (s p q:ByteArray):Bool×ByteArray:=zqm s p q
def zzU:Ab.Spec ty:=zi (cx:=zbp) (zg (zh zxz) (zg (zh zxz) (zg (zh zxz) zC))) λx=>((strings_ReplaceAll x.1 x.2.1 x.2.2.1).1,⟨[.pure (.lit (.string (strings_ReplaceAll x.1 x.2.1 x.2.2.1).2))],[]⟩)
theorem zKu:Sound Tryz.prog zbp 93 zzU:=zXL zPA rfl Go.Proofs.Tryz.lays155 Go.Proofs.Tryz.Builder_Extra_155 call93 (λ_ h=>h.2)
def zYi:=zbN zbp 27 [(91,zqZ),(92,zt4),(93,zzU)]
def zOo (v:Value):Wy0 (ByteArray):=.bn (zqn v) λr2=>.i (!r2) (.k (ByteArray.mk #[])) (.i (v.Kind==0) (.bn (zjJ v.Int 10) λr0=>.k r0) (.i (v.Kind==1) (.bn (strings_ReplaceAll v.Text (ByteArray.mk #[(39:UInt8)]) (ByteArray.mk #[(39:UInt8),(39:UInt8)])) λr1=>.i (decide ((ByteArray.mk #[(39:UInt8)]).size+r1.size<=9223372036854775807)) (.i (decide ((ByteArray.mk #[(39:UInt8)]++r1).size+(ByteArray.mk #[(39:UInt8)]).size<=9223372036854775807)) (.k (ByteArray.mk #[(39:UInt8)]++r1++ByteArray.mk #[(39:UInt8)])) .d) .d) (.i (v.Int==1) (.k (ByteArray.mk #[(84:UInt8),(82:UInt8),(85:UInt8),(69:UInt8)])) (.k (ByteArray.mk #[(70:UInt8),(65:UInt8),(76:UInt8),(83:UInt8),(69:UInt8)])))))
def zrq (v:Value):=(zOo v).fin default
def zZ2:AL zbp (Value×Unit):=zg (zh (zda 79)) zC
def zAC:=zi zZ2 λx=>((zrq x.1).1,zR2 (zrq x.1).2)
theorem zFy:Sound Tryz.prog zbp 45 zAC:=
 sU (cx':=zYi) (zm ⟨zuk.nodr,zzP.nodr,zKu,trivial⟩) call45 func45 (lOK aN)
abbrev zlD:=Unit×Unit×yD×Int×Int×Unit
abbrev zle:=At×List ByteArray×Unit
abbrev zyT:=At×List ByteArray
def zgo (zbi:yB->Bool×ByteArray) (t48:yD) (t49:Int) (t50:Int) (x_:At) (items:List ByteArray):Wy zlD zle zyT:=.i (decide (t50<t49)) (.i (decide (0<=t50)&&decide (t50<Int.ofNat t48.length)) (.bn (zrq (t48.getD t50.toNat default).Value) λr1=>.i (decide (r1.size+(ByteArray.mk #[(58:UInt8),(32:UInt8)]).size<=9223372036854775807)) (.bn (zbi (t48.getD t50.toNat default).Ann) λr0=>.i (decide ((r1++ByteArray.mk #[(58:UInt8),(32:UInt8)]).size+r0.size<=9223372036854775807)) (.i (decide ((items.length+[r1++ByteArray.mk #[(58:UInt8),(32:UInt8)]++r0].length)*16<=zG)) (.h ((),(),t48,t49,(IntKind.i64.wrap (t50+1)),()) (x_,(items++[r1++ByteArray.mk #[(58:UInt8),(32:UInt8)]++r0]),())) .d) .d) .d) .d) (.k (x_,items))
def znL (zbi:yB->Bool×ByteArray) (x:zlD) (y:zle):=zgo zbi x.2.2.1 x.2.2.2.1 x.2.2.2.2.1 y.1 y.2.1
def zvw (zbi:yB->Bool×ByteArray) (n:Nat) (t48:yD) (t49:Int) (t50:Int) (x_:At) (items:List ByteArray):=zA (znL zbi) default n ((),(),t48,t49,t50,()) (x_,items,())
def zE0 (r:zyT):LTree ty:=.done (.exit 1) [.ptr 360 0,.own 361] [.box (base.enc 143 r.1) false,.arr 9 r.2 false]
def zFT:LL ty zlD:=za (zfi 360 0) (za (zeZ 361) (za (lSl 169) (za zj (za zj zr))))
def zFV:BL ty zle:=ziu (zg7 (λx=>(⟨x.1,⟨x.2.1,x.2.2.1⟩,x.2.2.2.1,x.2.2.2.2.1,x.2.2.2.2.2.1,x.2.2.2.2.2.2.1,⟨x.2.2.2.2.2.2.2.1,x.2.2.2.2.2.2.2.2.1,x.2.2.2.2.2.2.2.2.2.1⟩⟩:At)) (λx=>(x.Kind,x.Row.Table,x.Row.Seq,x.Ag,x.Func,x.Items,x.Op,x.Bd.Kind,x.Bd.Int,x.Bd.Text,())) (λ_=>rfl) (za (zbL .i64) (za (zbL .i64) (za (zbL .i64) (za (lSl 51) (za (zbL .i64) (za (lSl 169) (za (zbL .i64) (za (zbL .i64) (za (zbL .i64) (za zG5 zr))))))))))) false (ze2 9 false (zbD))
def zEX (x:zlD) (y:zle):Nat:=(x.2.2.1.length+Int.toNat x.2.2.2.1+Int.toNat x.2.2.2.2.1+y.1.Ag.length+y.1.Items.length+y.2.1.length+1)
def zwt (zbi:yB->Bool×ByteArray):=zc6 zbp 90 [(44,zpj),(45,zAC),(94,(zo4 zbi)),(264,zGy),(265,zxR),(266,zxO)] [] [(12,[(1,.keep),(3,.own 9),(48,.keep),(49,.keep),(50,.keep)])] [(12,2,(kpL [1,3]))] [(12,spW zFT zFV (znL zbi) default zE0 zEX)] []
theorem zEK (zbi:yB->Bool×ByteArray):zS (zwt zbi) (lp (body f215) 0):=zI (id:=12) (hl:=rfl)
def zxQ (zbi:yB->Bool×ByteArray) (x_:At):Wy0 (ByteArray):=.i (x_.Kind==0) (.bn (zwZ x_.Row) λr4=>.k r4) (.i (x_.Kind==1) (.i (decide ((0:Int)<=(0:Int))&&decide (0<Int.ofNat x_.Ag.length)) (.bn (zbi (x_.Ag.getD (Int.toNat 0) default)) λr6=>.i (decide ((ByteArray.mk #[(109:UInt8),(111:UInt8),(110:UInt8),(117:UInt8),(115:UInt8),(91:UInt8)]).size+r6.size<=9223372036854775807)) (.i (decide ((ByteArray.mk #[(109:UInt8),(111:UInt8),(110:UInt8),(117:UInt8),(115:UInt8),(91:UInt8)]++r6).size+(ByteArray.mk #[(44:UInt8),(32:UInt8)]).size<=9223372036854775807)) (.i (decide ((0:Int)<=(1:Int))&&decide (1<Int.ofNat x_.Ag.length)) (.bn (zbi (x_.Ag.getD (Int.toNat 1) default)) λr5=>.i (decide ((ByteArray.mk #[(109:UInt8),(111:UInt8),(110:UInt8),(117:UInt8),(115:UInt8),(91:UInt8)]++r6++ByteArray.mk #[(44:UInt8),(32:UInt8)]).size+r5.size<=9223372036854775807)) (.i (decide ((ByteArray.mk #[(109:UInt8),(111:UInt8),(110:UInt8),(117:UInt8),(115:UInt8),(91:UInt8)]++r6++ByteArray.mk #[(44:UInt8),(32:UInt8)]++r5).size+(ByteArray.mk #[(93:UInt8)]).size<=9223372036854775807)) (.k (ByteArray.mk #[(109:UInt8),(111:UInt8),(110:UInt8),(117:UInt8),(115:UInt8),(91:UInt8)]++r6++ByteArray.mk #[(44:UInt8),(32:UInt8)]++r5++ByteArray.mk #[(93:UInt8)])) .d) .d) .d) .d) .d) .d) (.i (x_.Kind==2) (.i (decide ((0:Int)<=(0:Int))&&decide (0<Int.ofNat x_.Ag.length)) (.bn (zbi (x_.Ag.getD (Int.toNat 0) default)) λr7=>.i (decide ((ByteArray.mk #[(100:UInt8),(101:UInt8),(108:UInt8),(116:UInt8),(97:UInt8),(91:UInt8)]).size+r7.size<=9223372036854775807)) (.i (decide ((ByteArray.mk #[(100:UInt8),(101:UInt8),(108:UInt8),(116:UInt8),(97:UInt8),(91:UInt8)]++r7).size+(ByteArray.mk #[(93:UInt8)]).size<=9223372036854775807)) (.k (ByteArray.mk #[(100:UInt8),(101:UInt8),(108:UInt8),(116:UInt8),(97:UInt8),(91:UInt8)]++r7++ByteArray.mk #[(93:UInt8)])) .d) .d) .d) (.i (x_.Kind==3) (.i (decide ((0:Int)<=(0:Int))&&decide (0<Int.ofNat x_.Ag.length)) (.bn (zbi (x_.Ag.getD (Int.toNat 0) default)) λr8=>.i (decide ((ByteArray.mk #[(97:UInt8),(98:UInt8),(115:UInt8),(101:UInt8),(110:UInt8),(116:UInt8),(91:UInt8)]).size+r8.size<=9223372036854775807)) (.i (decide ((ByteArray.mk #[(97:UInt8),(98:UInt8),(115:UInt8),(101:UInt8),(110:UInt8),(116:UInt8),(91:UInt8)]++r8).size+(ByteArray.mk #[(93:UInt8)]).size<=9223372036854775807)) (.k (ByteArray.mk #[(97:UInt8),(98:UInt8),(115:UInt8),(101:UInt8),(110:UInt8),(116:UInt8),(91:UInt8)]++r8++ByteArray.mk #[(93:UInt8)])) .d) .d) .d) (.bn (zvw zbi (x_.Items.length+(Int.ofNat x_.Items.length).toNat +Int.toNat 0+x_.Ag.length+x_.Items.length+0+1) x_.Items (Int.ofNat x_.Items.length) 0 (At.mk x_.Kind x_.Row x_.Ag x_.Func x_.Items x_.Op x_.Bd) []) λr11=>.i (decide (0<=r11.1.Func)&&decide (r11.1.Func<Int.ofNat zb2.2.length)) (.i (decide ((ByteArray.mk #[(116:UInt8),(101:UInt8),(115:UInt8),(116:UInt8),(91:UInt8)]).size+ByteArray.size (zb2.2.getD r11.1.Func.toNat default)<=9223372036854775807)) (.i (decide ((ByteArray.mk #[(116:UInt8),(101:UInt8),(115:UInt8),(116:UInt8),(91:UInt8)]++zb2.2.getD r11.1.Func.toNat default).size+(ByteArray.mk #[(123:UInt8)]).size<=9223372036854775807)) (.bn (strings_Join r11.2 (ByteArray.mk #[(59:UInt8),(32:UInt8)])) λr10=>.i (decide ((ByteArray.mk #[(116:UInt8),(101:UInt8),(115:UInt8),(116:UInt8),(91:UInt8)]++zb2.2.getD r11.1.Func.toNat default++ByteArray.mk #[(123:UInt8)]).size+r10.size<=9223372036854775807)) (.i (decide ((ByteArray.mk #[(116:UInt8),(101:UInt8),(115:UInt8),(116:UInt8),(91:UInt8)]++zb2.2.getD r11.1.Func.toNat default++ByteArray.mk #[(123:UInt8)]++r10).size+(ByteArray.mk #[(125:UInt8),(32:UInt8)]).size<=9223372036854775807)) (.i (decide (0<=IntKind.i64.wrap (r11.1.Op - 5))&&decide (IntKind.i64.wrap (r11.1.Op - 5)<Int.ofNat zdJ.2.length)) (.i (decide ((ByteArray.mk #[(116:UInt8),(101:UInt8),(115:UInt8),(116:UInt8),(91:UInt8)]++zb2.2.getD r11.1.Func.toNat default++ByteArray.mk #[(123:UInt8)]++r10++ByteArray.mk #[(125:UInt8),(32:UInt8)]).size+ByteArray.size (zdJ.2.getD (IntKind.i64.wrap (r11.1.Op - 5)).toNat default)<=9223372036854775807)) (.i (decide ((ByteArray.mk #[(116:UInt8),(101:UInt8),(115:UInt8),(116:UInt8),(91:UInt8)]++zb2.2.getD r11.1.Func.toNat default++ByteArray.mk #[(123:UInt8)]++r10++ByteArray.mk #[(125:UInt8),(32:UInt8)]++zdJ.2.getD (IntKind.i64.wrap (r11.1.Op - 5)).toNat default).size+(ByteArray.mk #[(32:UInt8)]).size<=9223372036854775807)) (.bn (zrq r11.1.Bd) λr9=>.i (decide ((ByteArray.mk #[(116:UInt8),(101:UInt8),(115:UInt8),(116:UInt8),(91:UInt8)]++zb2.2.getD r11.1.Func.toNat default++ByteArray.mk #[(123:UInt8)]++r10++ByteArray.mk #[(125:UInt8),(32:UInt8)]++zdJ.2.getD (IntKind.i64.wrap (r11.1.Op - 5)).toNat default++ByteArray.mk #[(32:UInt8)]).size+r9.size<=9223372036854775807)) (.i (decide ((ByteArray.mk #[(116:UInt8),(101:UInt8),(115:UInt8),(116:UInt8),(91:UInt8)]++zb2.2.getD r11.1.Func.toNat default++ByteArray.mk #[(123:UInt8)]++r10++ByteArray.mk #[(125:UInt8),(32:UInt8)]++zdJ.2.getD (IntKind.i64.wrap (r11.1.Op - 5)).toNat default++ByteArray.mk #[(32:UInt8)]++r9).size+(ByteArray.mk #[(93:UInt8)]).size<=9223372036854775807)) (.k (ByteArray.mk #[(116:UInt8),(101:UInt8),(115:UInt8),(116:UInt8),(91:UInt8)]++zb2.2.getD r11.1.Func.toNat default++ByteArray.mk #[(123:UInt8)]++r10++ByteArray.mk #[(125:UInt8),(32:UInt8)]++zdJ.2.getD (IntKind.i64.wrap (r11.1.Op - 5)).toNat default++ByteArray.mk #[(32:UInt8)]++r9++ByteArray.mk #[(93:UInt8)])) .d) .d) .d) .d) .d) .d) .d) .d) .d) .d))))
def zjs (zbi:yB->Bool×ByteArray) (x_:At):=(zxQ zbi x_).fin default
theorem zDO (zbi:yB->Bool×ByteArray) (zRS:Sound Tryz.prog zbp 94 (zo4 zbi)):Sound Tryz.prog zbp 215 (zl7 (zjs zbi)):=
 sU (cx':=(zwt zbi)) (zm ⟨zs4,zFy,zRS,zSi.nodr,zG9.nodr,zHx.nodr,trivial⟩) call215 func215 (lOK (aC (zEK zbi) aN))
abbrev zjR:=Unit×yC×Int×Int×Unit
abbrev zjP:=List ByteArray×Unit
def zfD (zba:At->Bool×ByteArray) (t7:yC) (t8:Int) (t9:Int) (out_:List ByteArray):Wy zjR zjP (List ByteArray):=.i (decide (t9<t8)) (.i (decide (0<=t9)&&decide (t9<Int.ofNat t7.length)) (.bn (zba (At.mk (t7.getD t9.toNat default).At.Kind (t7.getD t9.toNat default).At.Row (t7.getD t9.toNat default).At.Ag (t7.getD t9.toNat default).At.Func (t7.getD t9.toNat default).At.Items (t7.getD t9.toNat default).At.Op (t7.getD t9.toNat default).At.Bd)) λr1=>.i ((t7.getD t9.toNat default).Exp != 1) (.bn (strconv_Itoa (t7.getD t9.toNat default).Exp) λr0=>.i (decide ((ByteArray.mk #[(94:UInt8)]).size+r0.size<=9223372036854775807)) (.i (decide (r1.size+(ByteArray.mk #[(94:UInt8)]++r0).size<=9223372036854775807)) (.i (decide ((out_.length+[r1++(ByteArray.mk #[(94:UInt8)]++r0)].length)*16<=zG)) (.h ((),t7,t8,(IntKind.i64.wrap (t9+1)),()) ((out_++[r1++(ByteArray.mk #[(94:UInt8)]++r0)]),())) .d) .d) .d) (.i (decide ((out_.length+[r1].length)*16<=zG)) (.h ((),t7,t8,(IntKind.i64.wrap (t9+1)),()) ((out_++[r1]),())) .d)) .d) (.k out_)
def zlX (zba:At->Bool×ByteArray) (x:zjR) (y:zjP):=zfD zba x.2.1 x.2.2.1 x.2.2.2.1 y.1
def zt8 (zba:At->Bool×ByteArray) (n:Nat) (t7:yC) (t8:Int) (t9:Int) (out_:List ByteArray):=zA (zlX zba) default n ((),t7,t8,t9,()) (out_,())
def zDz (r:List ByteArray):LTree ty:=.done (.exit 0) [.own 128] [.arr 9 r false]
def zDT:LL ty zjR:=za (zeZ 128) (za (lSl 145) (za zj (za zj zr)))
def zDQ:BL ty zjP:=ze2 9 false (zbD)
def zC4 (x:zjR) (y:zjP):Nat:=(x.2.1.length+Int.toNat x.2.2.1+Int.toNat x.2.2.2.1+y.1.length+1)
def zua (zba:At->Bool×ByteArray):=zc6 zbp 32 [(44,zpj),(215,(zl7 zba)),(216,zAt)] [] [(3,[(3,.own 9),(7,.keep),(8,.keep),(9,.keep)])] [(3,1,(kpL [3]))] [(3,spW zDT zDQ (zlX zba) default zDz zC4)] []
theorem zC7 (zba:At->Bool×ByteArray):zS (zua zba) (lp (body f154) 0):=zI (id:=3) (hl:=rfl)
def zu0 (zba:At->Bool×ByteArray) (l:yC):Wy0 (ByteArray):=.bn (zt8 zba (l.length+(Int.ofNat l.length).toNat +Int.toNat 0+0+1) l (Int.ofNat l.length) 0 []) λr5=>.bn (strings_Join r5 (ByteArray.mk #[(42:UInt8)])) λr4=>.k r4
def zgM (zba:At->Bool×ByteArray) (l:yC):=(zu0 zba l).fin default
theorem zBq (zba:At->Bool×ByteArray) (zID:Sound Tryz.prog zbp 215 (zl7 zba)):Sound Tryz.prog zbp 154 (zgY (zgM zba)):=
 sU (cx':=(zua zba)) (zm ⟨zs4,zID,zFQ.nodr,trivial⟩) call154 func154 (lOK (aC (zC7 zba) aN))
abbrev zti:=Unit×yB×Int×Int×Unit
abbrev ztH:=List ByteArray×Unit
def zlg (zT:yC->Bool×ByteArray) (t9:yB) (t10:Int) (t11:Int) (out_:List ByteArray):Wy zti ztH (List ByteArray):=.i (decide (t11<t10)) (.i (decide (0<=t11)&&decide (t11<Int.ofNat t9.length)) (.i (Int.ofNat (t9.getD t11.toNat default).Fs.length==0) (.bn (zjJ (t9.getD t11.toNat default).Cf 10) λr0=>.i (decide ((out_.length+[r0].length)*16<=zG)) (.h ((),t9,t10,(IntKind.i64.wrap (t11+1)),()) ((out_++[r0]),())) .d) (.i ((t9.getD t11.toNat default).Cf==1) (.bn (zT (t9.getD t11.toNat default).Fs) λr1=>.i (decide ((out_.length+[r1].length)*16<=zG)) (.h ((),t9,t10,(IntKind.i64.wrap (t11+1)),()) ((out_++[r1]),())) .d) (.bn (zjJ (t9.getD t11.toNat default).Cf 10) λr3=>.i (decide (r3.size+(ByteArray.mk #[(42:UInt8)]).size<=9223372036854775807)) (.bn (zT (t9.getD t11.toNat default).Fs) λr2=>.i (decide ((r3++ByteArray.mk #[(42:UInt8)]).size+r2.size<=9223372036854775807)) (.i (decide ((out_.length+[r3++ByteArray.mk #[(42:UInt8)]++r2].length)*16<=zG)) (.h ((),t9,t10,(IntKind.i64.wrap (t11+1)),()) ((out_++[r3++ByteArray.mk #[(42:UInt8)]++r2]),())) .d) .d) .d))) .d) (.k out_)
def zvO (zT:yC->Bool×ByteArray) (x:zti) (y:ztH):=zlg zT x.2.1 x.2.2.1 x.2.2.2.1 y.1
def zCY (zT:yC->Bool×ByteArray) (n:Nat) (t9:yB) (t10:Int) (t11:Int) (out_:List ByteArray):=zA (zvO zT) default n ((),t9,t10,t11,()) (out_,())
def zOV (r:List ByteArray):LTree ty:=.done (.exit 0) [.own 200] [.arr 9 r false]
def zPE:LL ty zti:=za (zeZ 200) (za (lSl 107) (za zj (za zj zr)))
def zPU:BL ty ztH:=ze2 9 false (zbD)
def zOc (x:zti) (y:ztH):Nat:=(x.2.1.length+Int.toNat x.2.2.1+Int.toNat x.2.2.2.1+y.1.length+1)
def zDl (zT:yC->Bool×ByteArray):=zc6 zbp 50 [(44,zpj),(92,zt4),(154,(zgY zT))] [] [(5,[(3,.own 9),(9,.keep),(10,.keep),(11,.keep)])] [(5,1,(kpL [3]))] [(5,spW zPE zPU (zvO zT) default zOV zOc)] []
theorem zN7 (zT:yC->Bool×ByteArray):zS (zDl zT) (lp (body f94) 0):=zI (id:=5) (hl:=rfl)
def zD5 (zT:yC->Bool×ByteArray) (a:yB):Wy0 (ByteArray):=.i (Int.ofNat a.length==0) (.k (ByteArray.mk #[(48:UInt8)])) (.bn (zCY zT (a.length+(Int.ofNat a.length).toNat +Int.toNat 0+0+1) a (Int.ofNat a.length) 0 []) λr9=>.bn (strings_Join r9 (ByteArray.mk #[(32:UInt8),(43:UInt8),(32:UInt8)])) λr8=>.k r8)
def zpi (zT:yC->Bool×ByteArray) (a:yB):=(zD5 zT a).fin default
theorem zKY (zT:yC->Bool×ByteArray) (zEt:Sound Tryz.prog zbp 154 (zgY zT)):Sound Tryz.prog zbp 94 (zo4 (zpi zT)):=
 sU (cx':=(zDl zT)) (zm ⟨zs4,zzP.nodr,zEt,trivial⟩) call94 func94 (lOK (aC (zN7 zT) aN))
def zEA:Nat->(yB->Bool×ByteArray)×(At->Bool×ByteArray)×(yC->Bool×ByteArray)
 | 0=>(λ_=>(false,default),λ_=>(false,default),λ_=>(false,default))
 | n+1=>(zpi ((zEA n).2.2),zjs ((zEA n).1),zgM ((zEA n).2.1))
def zpc (n:Nat):yB->Bool×ByteArray:=(zEA n).1
def zl1 (n:Nat):At->Bool×ByteArray:=(zEA n).2.1
def zgQ (n:Nat):yC->Bool×ByteArray:=(zEA n).2.2
theorem zQo (n:Nat):zpc (n+1)=zpi (zgQ n):=rfl
theorem zGV (n:Nat):zl1 (n+1)=zjs (zpc n):=rfl
theorem zDN (n:Nat):zgQ (n+1)=zgM (zl1 n):=rfl
theorem zQQ:∀ n,Sound Tryz.prog zbp 94 (zo4 (zpc n))/\Sound Tryz.prog zbp 215 (zl7 (zl1 n))/\Sound Tryz.prog zbp 154 (zgY (zgQ n))
 | 0=>⟨zbQ call94 (λ_=>rfl),zbQ call215 (λ_=>rfl),zbQ call154 (λ_=>rfl)⟩
 | n+1=>by
  have ih:=zQQ n;exact ⟨zKY _ (ih.2.2),zDO _ (ih.1),zBq _ (ih.2.1)⟩
def zLU:yB->Bool×ByteArray:=zpc 1000
def zDa:Ab.Spec ty:=zo4 zLU
theorem zOJ:Sound Tryz.prog zbp 94 zDa:=(zQQ 1000).1
def zrn:yC->Bool×ByteArray:=zgQ 1000
def zuc:Ab.Spec ty:=zgY zrn
theorem zDc:Sound Tryz.prog zbp 154 zuc:=(zQQ 1000).2.2
def zQ2:=zbN zbp 8 [(52,zcr),(94,zDa)]
def zSC (a:yB):Wy0 (ByteArray):=.bn (zb9 a) λr1=>.i (!r1) (.k (ByteArray.mk #[])) (.bn (zLU a) λr0=>.k r0)
def zAo (a:yB):=(zSC a).fin default
def zAM:=zi zVw λx=>((zAo x.1).1,zR2 (zAo x.1).2)
theorem zKS:Sound Tryz.prog zbp 46 zAM:=
 sU (cx':=zQ2) (zm ⟨zcz.nodr,zOJ,trivial⟩) call46 func46 (lOK aN)
def zSm:=zbN base 16 [(91,zqZ)]
def zFD (p:pair):Wy0 (Bool):=.bn (zqn p.v) λr0=>.i (!r0) (.k true) (.k (p.v.Kind != p.c.Type_))
def zmA (p:pair):=(zFD p).fin default
def zST:AL base (pair×Unit):=zg (zh (zda 137)) zC
def znW:=zi zST λx=>((zmA x.1).1,zSj (zmA x.1).2)
theorem ztM:SdP 102 znW:=
 sT (cx':=zSm) (zm ⟨zuk,trivial⟩) call102 func102 (lOK aN)
abbrev zxI:=yH×Unit×yG×Int×Int×Unit
abbrev zxJ:=List pair×Unit
def zDC (l:yH) (t8:yG) (t9:Int) (t10:Int) (out_:List pair):Wy zxI zxJ (List pair):=.i (decide (t10<t9)) (.i (decide (0<=t10)&&decide (t10<Int.ofNat t8.length)) (.i (decide (0<=t10)&&decide (t10<Int.ofNat l.length)) (.i (decide ((out_.length+[pair.mk (l.getD t10.toNat default) (t8.getD t10.toNat default)].length)*56<=zG)) (.h (l,(),t8,t9,(IntKind.i64.wrap (t10+1)),()) ((out_++[pair.mk (l.getD t10.toNat default) (t8.getD t10.toNat default)]),())) .d) .d) .d) (.k out_)
def zDd (x:zxI) (y:zxJ):=zDC x.1 x.2.2.1 x.2.2.2.1 x.2.2.2.2.1 y.1
def zCM (n:Nat) (l:yH) (t8:yG) (t9:Int) (t10:Int) (out_:List pair):=zA (zDd) default n (l,(),t8,t9,t10,()) (out_,())
def zXg (r:List pair):LTree ty:=.done (.exit 0) [.own 104] [.arr 137 r false]
def zYQ:LL ty zxI:=za (lSl 75) (za (zeZ 104) (za (lSl 79) (za zj (za zj zr))))
def zYb:BL ty zxJ:=ze2 137 false (zbD)
def zXa (x:zxI) (y:zxJ):Nat:=(x.1.length+x.2.2.1.length+Int.toNat x.2.2.2.1+Int.toNat x.2.2.2.2.1+y.1.length+1000)
def zMe:=zc6 base 26 [] [] [(3,[(0,.keep),(5,.own 137),(8,.keep),(9,.keep),(10,.keep)])] [(3,1,(kpL [5]))] [(3,spW zYQ zYb (zDd) default zXg zXa)] []
theorem zWU:zS zMe (lp (body f101) 0):=zI (id:=3) (hl:=rfl)
def zOM (l:yH) (row:yG):Wy0 (List pair):=.bn (zCM (l.length+row.length+(Int.ofNat row.length).toNat +Int.toNat 0+0+1000) l row (Int.ofNat row.length) 0 []) λr0=>.k r0
def zyU (l:yH) (row:yG):=(zOM l row).fin default
def zXG (r:List pair):ARes ty:=⟨[.own 137 r],[]⟩
def zZX:AL base (yH×yG×Unit):=zg (zh (vSl 75)) (zg (zh (vSl 79)) zC)
def zHA:=zi zZX λx=>((zyU x.1 x.2.1).1,zXG (zyU x.1 x.2.1).2)
theorem zSV:SdP 101 zHA:=
 sT (cx':=zMe) (zm trivial) call101 func101 (lOK (aC zWU aN)) (sg:=⟨[.own 137],[]⟩)
abbrev zdm:=List pair×Unit×Int×Int×Unit
def zpq (s:List pair) (t7:Int) (t8:Int):Wy zdm Unit (Int⊕Unit):=.i (decide (t8<t7)) (.i (decide (0<=t8)&&decide (t8<Int.ofNat s.length)) (.bn (zmA (s.getD t8.toNat default)) λr0=>.i (r0) (.k (.inl t8)) (.h (s,(),t7,(IntKind.i64.wrap (t8+1)),()) ())) .d) (.k (.inr ()))
def zhs (x:zdm) (y:Unit):=zpq x.1 x.2.2.1 x.2.2.2.1
def zpv (n:Nat) (s:List pair) (t7:Int) (t8:Int):=zA (zhs) (.inl default) n (s,(),t7,t8,()) ()
def zpl:LL ty zdm:=za (lSl 137) (za (lFn 102 (zr)) (za zj (za zj zr)))
def zoP (x:zdm) (y:Unit):Nat:=(x.1.length+Int.toNat x.2.2.1+Int.toNat x.2.2.2.1+1000)
def zhm:=zc6 base 19 [(102,znW)] [] [(2,(kpL [0,1,7,8]))] [(2,1,[]),(2,0,(kpL [4]))] [(2,spW zpl z2k (zhs) (.inl default) zsy zoP)] []
theorem zoA:zS zhm (lp (body f158) 0):=zI (id:=2) (hl:=rfl)
def zpN (s:List pair):Wy0 (Int):=.bn (zpv (s.length+(Int.ofNat s.length).toNat +Int.toNat 0+1000) s (Int.ofNat s.length) 0) λr2=>.i (isL r2) (.k (getL r2)) (.k (-1:Int))
def zc1 (s:List pair):=(zpN s).fin default
def zqb:AL base (List pair×Unit×Unit):=zg (zh (vSl 137)) (zg (zh (vFn 102 zcX)) zC)
def zgJ:=zi zqb λx=>((zc1 x.1).1,zNi (zc1 x.1).2)
theorem znH:SdP 158 zgJ:=
 sT (cx':=zhm) (zm ⟨ztM,trivial⟩) call158 func158 (lOK (aC zoA aN))
def zns:=zbN base 9 [(102,znW),(158,zgJ)]
def zgI (s:List pair):Wy0 (Bool):=.bn (zc1 s) λr0=>.k (decide (r0≥0))
def zb0 (s:List pair):=(zgI s).fin default
def zf6:=zi zqb λx=>((zb0 x.1).1,zSj (zb0 x.1).2)
theorem zmd:SdP 100 zf6:=
 sT (cx':=zns) (zm ⟨ztM,znH,trivial⟩) call100 func100 (lOK aN)
def zXz:=zbN base 17 [(100,zf6),(101,zHA),(102,znW)]
def zLK (l:yH) (row:yG):Wy0 (Bool):=.i (Int.ofNat l.length==Int.ofNat row.length) (.bn (zyU l row) λr1=>.bn (zb0 r1) λr0=>.k (!r0)) (.k false)
def zsP (l:yH) (row:yG):=(zLK l row).fin default
def zyt:=zi zZX λx=>((zsP x.1 x.2.1).1,zSj (zsP x.1 x.2.1).2)
theorem zEh:SdP 51 zyt:=
 sT (cx':=zXz) (zm ⟨zmd,zSV,ztM,trivial⟩) call51 func51 (lOK aN)
def z0s:=zbN base 2 []
def z19:Wy0 (List ByteArray):=.k [ByteArray.mk #[(73:UInt8),(78:UInt8),(84:UInt8),(69:UInt8),(71:UInt8),(69:UInt8),(82:UInt8)],ByteArray.mk #[(84:UInt8),(69:UInt8),(88:UInt8),(84:UInt8)],ByteArray.mk #[(66:UInt8),(79:UInt8),(79:UInt8),(76:UInt8),(69:UInt8),(65:UInt8),(78:UInt8)]]
def zFc:Bool×List ByteArray:=(z19).fin default
def zKr:=zi z0b λx=>((zFc ).1,zKc (zFc ).2)
theorem zVV:SdP 87 zKr:=
 sT (cx':=z0s) (zm trivial) call87 func87 (lOK aN) (sg:=⟨[.own 9],[]⟩)
def zVI:=zbN base 13 [(87,zKr)]
def zBA (kind:Int):Wy0 (ByteArray):=.i (decide (kind<0)) (.k (ByteArray.mk #[])) (.i (decide (kind>2)) (.k (ByteArray.mk #[])) (.i (decide (0<=kind)&&decide (kind<Int.ofNat zFc.2.length)) (.k (zFc.2.getD kind.toNat default)) .d))
def zqL (kind:Int):=(zBA kind).fin default
def zxu:=zi zVG λx=>((zqL x.1).1,zR2 (zqL x.1).2)
theorem zDH:SdP 43 zxu:=
 sT (cx':=zVI) (zm ⟨zVV,trivial⟩) call43 func43 (lOK aN)
def zFr:=zbN base 7 [(43,zxu)]
def zoB (c:Column):Wy0 (Bool):=.bn (zqL c.Type_) λr0=>.k (r0.toList==(ByteArray.mk #[]).toList)
def zbX (c:Column):=(zoB c).fin default
def zGS:AL base (Column×Unit):=zg (zh (zda 75)) zC
def zio:=zi zGS λx=>((zbX x.1).1,zSj (zbX x.1).2)
theorem zlw:SdP 99 zio:=
 sT (cx':=zFr) (zm ⟨zDH,trivial⟩) call99 func99 (lOK aN)
abbrev zew:=yH×Unit×Int×Int×Unit
def ztc (s:yH) (t7:Int) (t8:Int):Wy zew Unit (Int⊕Unit):=.i (decide (t8<t7)) (.i (decide (0<=t8)&&decide (t8<Int.ofNat s.length)) (.bn (zbX (s.getD t8.toNat default)) λr0=>.i (r0) (.k (.inl t8)) (.h (s,(),t7,(IntKind.i64.wrap (t8+1)),()) ())) .d) (.k (.inr ()))
def zjN (x:zew) (y:Unit):=ztc x.1 x.2.2.1 x.2.2.2.1
def ztb (n:Nat) (s:yH) (t7:Int) (t8:Int):=zA (zjN) (.inl default) n (s,(),t7,t8,()) ()
def ztu:LL ty zew:=za (lSl 75) (za (lFn 99 (zr)) (za zj (za zj zr)))
def zsk (x:zew) (y:Unit):Nat:=(x.1.length+Int.toNat x.2.2.1+Int.toNat x.2.2.2.1+1000)
def zjK:=zc6 base 19 [(99,zio)] [] [(2,(kpL [0,1,7,8]))] [(2,1,[]),(2,0,(kpL [4]))] [(2,spW ztu z2k (zjN) (.inl default) zsy zsk)] []
theorem zsx:zS zjK (lp (body f157) 0):=zI (id:=2) (hl:=rfl)
def zt1 (s:yH):Wy0 (Int):=.bn (ztb (s.length+(Int.ofNat s.length).toNat +Int.toNat 0+1000) s (Int.ofNat s.length) 0) λr2=>.i (isL r2) (.k (getL r2)) (.k (-1:Int))
def zd5 (s:yH):=(zt1 s).fin default
def ztK:AL base (yH×Unit×Unit):=zg (zh (vSl 75)) (zg (zh (vFn 99 zcX)) zC)
def ziZ:=zi ztK λx=>((zd5 x.1).1,zNi (zd5 x.1).2)
theorem zry:SdP 157 ziZ:=
 sT (cx':=zjK) (zm ⟨zlw,trivial⟩) call157 func157 (lOK (aC zsx aN))
def zri:=zbN base 9 [(99,zio),(157,ziZ)]
def zi1 (s:yH):Wy0 (Bool):=.bn (zd5 s) λr0=>.k (decide (r0≥0))
def zcs (s:yH):=(zi1 s).fin default
def zhT:=zi ztK λx=>((zcs x.1).1,zSj (zcs x.1).2)
theorem zpu:SdP 98 zhT:=
 sT (cx':=zri) (zm ⟨zlw,zry,trivial⟩) call98 func98 (lOK aN)
def zKf:=zbN base 11 [(98,zhT),(99,zio)]
def zz5 (l:yH):Wy0 (Bool):=.i (decide (Int.ofNat l.length<=16)) (.bn (zcs l) λr0=>.k (!r0)) (.k false)
def zh1 (l:yH):=(zz5 l).fin default
def zKV:AL base (yH×Unit):=zg (zh (vSl 75)) zC
def zou:=zi zKV λx=>((zh1 x.1).1,zSj (zh1 x.1).2)
theorem zvA:SdP 50 zou:=
 sT (cx':=zKf) (zm ⟨zpu,zlw,trivial⟩) call50 func50 (lOK aN)
abbrev zul:=Unit×yF×Int×Int×Unit
abbrev zpe:=Relation×Unit
def zpm (t16:yF) (t17:Int) (t18:Int) (r:Relation):Wy zul zpe (Bool⊕Unit):=.i (decide (t18<t17)) (.i (decide (0<=t18)&&decide (t18<Int.ofNat t16.length)) (.bn (zsP r.Columns (t16.getD t18.toNat default).Values) λr2=>.i (!r2) (.k (.inl false)) (.i (Int.ofNat (t16.getD t18.toNat default).Ann.length==0) (.k (.inl false)) (.bn (zb9 (t16.getD t18.toNat default).Ann) λr1=>.i (!r1) (.k (.inl false)) (.i (decide (t18>0)) (.i (decide (0<=IntKind.i64.wrap (t18 - 1))&&decide (IntKind.i64.wrap (t18 - 1)<Int.ofNat r.Rows.length)) (.bn (zbV (r.Rows.getD (IntKind.i64.wrap (t18 - 1)).toNat default) (t16.getD t18.toNat default)) λr0=>.i (decide (r0≥0)) (.k (.inl false)) (.h ((),t16,t17,(IntKind.i64.wrap (t18+1)),()) (r,()))) .d) (.h ((),t16,t17,(IntKind.i64.wrap (t18+1)),()) (r,())))))) .d) (.k (.inr ()))
def zAi (x:zul) (y:zpe):=zpm x.2.1 x.2.2.1 x.2.2.2.1 y.1
def zHB (n:Nat) (t16:yF) (t17:Int) (t18:Int) (r:Relation):=zA (zAi) (.inl default) n ((),t16,t17,t18,()) (r,())
def zVH:LL ty zul:=za (zfi 228 0) (za (lSl 54) (za zj (za zj zr)))
def zVy:BL ty zpe:=ziu (zg7 (λx=>(⟨x.1,x.2.1⟩:Relation)) (λx=>(x.Columns,x.Rows,())) (λ_=>rfl) (za (lSl 75) (za (lSl 54) zr))) false (zbD)
def zTW (x:zul) (y:zpe):Nat:=(x.2.1.length+Int.toNat x.2.2.1+Int.toNat x.2.2.2.1+y.1.Columns.length+y.1.Rows.length+1000)
def zHK:=zc6 base 57 [(50,zou),(51,zyt),(52,zcr),(53,zdf)] [] [(4,(kpL [1,16,17,18]))] [(4,1,[]),(4,0,(kpL [2]))] [(4,spW zVH zVy (zAi) (.inl default) znr zTW)] []
theorem zUD:zS zHK (lp (body f14) 0):=zI (id:=4) (hl:=rfl)
def zJ8 (r:Relation):Wy0 (Bool):=.bn (zh1 r.Columns) λr7=>.i (!r7) (.k false) (.i (decide (Int.ofNat r.Rows.length>1024)) (.k false) (.bn (zHB (r.Rows.length+(Int.ofNat r.Rows.length).toNat +Int.toNat 0+r.Columns.length+r.Rows.length+1000) r.Rows (Int.ofNat r.Rows.length) 0 r) λr6=>.i (isL r6) (.k (getL r6)) (.k true)))
def zhi (r:Relation):=(zJ8 r).fin default
def zW0:AL base zpe:=zg (zh (zda 25)) zC
def zmc:=zi zW0 λx=>((zhi x.1).1,zSj (zhi x.1).2)
theorem zqa:SdP 14 zmc:=
 sT (cx':=zHK) (zm ⟨zvA,zEh,zcz,zdN,trivial⟩) call14 func14 (lOK (aC zUD aN))
abbrev zsY:=Unit×Unit×yH×Int×Int×Unit
abbrev ztv:=Relation×List ByteArray×Unit
abbrev zFF:=Relation×List ByteArray
abbrev ztn:=Unit×Unit×Unit×yF×Int×Int×yG×Int×Int×Unit
abbrev zte:=List ByteArray×Row×List ByteArray×Unit
abbrev zGe:=yF×Int×Int×List ByteArray×Row×List ByteArray
abbrev zsW:=Unit×yF×Int×Int×Unit
abbrev zsR:=List ByteArray×Unit
def zUu (t16:yH) (t17:Int) (t18:Int) (r:Relation) (head:List ByteArray):Wy zsY ztv zFF:=.i (decide (t18<t17)) (.i (decide (0<=t18)&&decide (t18<Int.ofNat t16.length)) (.i (decide ((t16.getD t18.toNat default).Name.size+(ByteArray.mk #[(32:UInt8)]).size<=9223372036854775807)) (.bn (zqL (t16.getD t18.toNat default).Type_) λr2=>.i (decide (((t16.getD t18.toNat default).Name++ByteArray.mk #[(32:UInt8)]).size+r2.size<=9223372036854775807)) (.i (decide ((head.length+[(t16.getD t18.toNat default).Name++ByteArray.mk #[(32:UInt8)]++r2].length)*16<=zG)) (.h ((),(),t16,t17,(IntKind.i64.wrap (t18+1)),()) (r,(head++[(t16.getD t18.toNat default).Name++ByteArray.mk #[(32:UInt8)]++r2]),())) .d) .d) .d) .d) (.k (r,head))
def zGD (x:zsY) (y:ztv):=zUu x.2.2.1 x.2.2.2.1 x.2.2.2.2.1 y.1 y.2.1
def zTE (n:Nat) (t16:yH) (t17:Int) (t18:Int) (r:Relation) (head:List ByteArray):=zA (zGD) default n ((),(),t16,t17,t18,()) (r,head,())
def zSz (r:zFF):LTree ty:=.done (.exit 0) [.ptr 272 0,.own 273] [.box (base.enc 25 r.1) false,.arr 9 r.2 false]
def zTQ:LL ty zsY:=za (zfi 272 0) (za (zeZ 273) (za (lSl 75) (za zj (za zj zr))))
def zUr:BL ty ztv:=ziu (zg7 (λx=>(⟨x.1,x.2.1⟩:Relation)) (λx=>(x.Columns,x.Rows,())) (λ_=>rfl) (za (lSl 75) (za (lSl 54) zr))) false (ze2 9 false (zbD))
def zRT (t37:yF) (t38:Int) (t39:Int) (t44:yG) (t45:Int) (t46:Int) (out_:List ByteArray) (x_:Row) (l:List ByteArray):Wy ztn zte zGe:=.i (decide (t46<t45)) (.i (decide (0<=t46)&&decide (t46<Int.ofNat t44.length)) (.bn (zrq (t44.getD t46.toNat default)) λr4=>.i (decide ((l.length+[r4].length)*16<=zG)) (.h ((),(),(),t37,t38,t39,t44,t45,(IntKind.i64.wrap (t46+1)),()) (out_,x_,(l++[r4]),())) .d) .d) (.k (t37,t38,t39,out_,x_,l))
def zEf (x:ztn) (y:zte):=zRT x.2.2.2.1 x.2.2.2.2.1 x.2.2.2.2.2.1 x.2.2.2.2.2.2.1 x.2.2.2.2.2.2.2.1 x.2.2.2.2.2.2.2.2.1 y.1 y.2.1 y.2.2.1
def zSx (n:Nat) (t37:yF) (t38:Int) (t39:Int) (t44:yG) (t45:Int) (t46:Int) (out_:List ByteArray) (x_:Row) (l:List ByteArray):=zA (zEf) default n ((),(),(),t37,t38,t39,t44,t45,t46,()) (out_,x_,l,())
def zQp (r:zGe):LTree ty:=.done (.exit 4) [.own 272,.ptr 273 0,.own 274,.sl 54 r.1,.lit (.int .i64 r.2.1),.lit (.int .i64 r.2.2.1)] [.arr 9 r.2.2.2.1 false,.box (base.enc 54 r.2.2.2.2.1) false,.arr 9 r.2.2.2.2.2 false]
def zSA:LL ty ztn:=za (zeZ 272) (za (zfi 273 0) (za (zeZ 274) (za (lSl 54) (za zj (za zj (za (lSl 79) (za zj (za zj zr))))))))
def zRM:BL ty zte:=ze2 9 false (ziu (zg7 (λx=>(⟨x.1,x.2.1⟩:Row)) (λx=>(x.Values,x.Ann,())) (λ_=>rfl) (za (lSl 79) (za (lSl 107) zr))) false (ze2 9 false (zbD)))
def zRO (t37:yF) (t38:Int) (t39:Int) (out_:List ByteArray):Wy zsW zsR (List ByteArray):=.i (decide (t39<t38)) (.i (decide (0<=t39)&&decide (t39<Int.ofNat t37.length)) (.bn (zSx (t37.length+t38.toNat +t39.toNat +(t37.getD t39.toNat default).Values.length+(Int.ofNat (t37.getD t39.toNat default).Values.length).toNat +Int.toNat 0+out_.length+(t37.getD t39.toNat default).Values.length+(t37.getD t39.toNat default).Ann.length+0+1000) t37 t38 t39 (t37.getD t39.toNat default).Values (Int.ofNat (t37.getD t39.toNat default).Values.length) 0 out_ (t37.getD t39.toNat default) []) λr8=>.bn (strings_Join r8.2.2.2.2.2 (ByteArray.mk #[(44:UInt8),(32:UInt8)])) λr7=>.i (decide (r7.size+(ByteArray.mk #[(32:UInt8),(124:UInt8),(32:UInt8)]).size<=9223372036854775807)) (.bn (zAo r8.2.2.2.2.1.Ann) λr6=>.i (decide ((r7++ByteArray.mk #[(32:UInt8),(124:UInt8),(32:UInt8)]).size+r6.size<=9223372036854775807)) (.i (decide ((r8.2.2.2.1.length+[r7++ByteArray.mk #[(32:UInt8),(124:UInt8),(32:UInt8)]++r6].length)*16<=zG)) (.h ((),(r8.1),(r8.2.1),(IntKind.i64.wrap (r8.2.2.1+1)),()) ((r8.2.2.2.1++[r7++ByteArray.mk #[(32:UInt8),(124:UInt8),(32:UInt8)]++r6]),())) .d) .d) .d) .d) (.k out_)
def zD7 (x:zsW) (y:zsR):=zRO x.2.1 x.2.2.1 x.2.2.2.1 y.1
def zSd (n:Nat) (t37:yF) (t38:Int) (t39:Int) (out_:List ByteArray):=zA (zD7) default n ((),t37,t38,t39,()) (out_,())
def zQg (r:List ByteArray):LTree ty:=.done (.exit 2) [.own 272] [.arr 9 r false]
def zSp:LL ty zsW:=za (zeZ 272) (za (lSl 54) (za zj (za zj zr)))
def zSl:BL ty zsR:=ze2 9 false (zbD)
def zRL (x:zsY) (y:ztv):Nat:=(x.2.2.1.length+Int.toNat x.2.2.2.1+Int.toNat x.2.2.2.2.1+y.1.Columns.length+y.1.Rows.length+y.2.1.length+1000)
def zPY (x:ztn) (y:zte):Nat:=(x.2.2.2.1.length+Int.toNat x.2.2.2.2.1+Int.toNat x.2.2.2.2.2.1+x.2.2.2.2.2.2.1.length+Int.toNat x.2.2.2.2.2.2.2.1+Int.toNat x.2.2.2.2.2.2.2.2.1+y.1.length+y.2.1.Values.length+y.2.1.Ann.length+y.2.2.1.length+1000)
def zPk (x:zsW) (y:zsR):Nat:=(x.2.1.length+Int.toNat x.2.2.1+Int.toNat x.2.2.2.1+y.1.length+1000)
def zts:=zc6 zbp 68 [(14,zmc),(43,zxu),(44,zpj),(45,zAC),(46,zAM)] [] [(5,[(1,.keep),(3,.own 9),(16,.keep),(17,.keep),(18,.keep)]),(11,(kpL [6,37,38,39])),(15,[(6,.keep),(8,.keep),(9,.own 9),(37,.keep),(38,.keep),(39,.keep),(44,.keep),(45,.keep),(46,.keep)])] [(5,1,(kpL [1,3])),(11,3,(kpL [6])),(15,5,(kpL [6,8,9,37,38,39]))] [(5,spW zTQ zUr (zGD) default zSz zRL),(15,spW zSA zRM (zEf) default zQp zPY),(11,spW zSp zSl (zD7) default zQg zPk)] []
theorem zSf:zS zts (lp (body f12) 0):=zI (id:=5) (hl:=rfl)
theorem zPe:zS zts (lp (body f12) 2):=zI (id:=15) (hl:=rfl)
theorem zQ3:zS zts (lp (body f12) 1):=zI (id:=11) (hl:=rfl)
def zVu (r:Relation):Wy0 (List ByteArray):=.bn (zhi r) λr15=>.i (!r15) (.k []) (.bn (zTE (r.Columns.length+(Int.ofNat r.Columns.length).toNat +Int.toNat 0+r.Columns.length+r.Rows.length+0+1000) r.Columns (Int.ofNat r.Columns.length) 0 r []) λr14=>.bn (strings_Join r14.2 (ByteArray.mk #[(44:UInt8),(32:UInt8)])) λr13=>.bn (zSd (r14.1.Rows.length+(Int.ofNat r14.1.Rows.length).toNat +Int.toNat 0+[r13].length+1000) r14.1.Rows (Int.ofNat r14.1.Rows.length) 0 [r13]) λr12=>.k r12)
def zLB (r:Relation):=(zVu r).fin default
def zVC:AL zbp (Relation×Unit):=zg (zh (zda 25)) zC
def zDI:=zi zVC λx=>((zLB x.1).1,zKc (zLB x.1).2)
theorem zOR:Sound Tryz.prog zbp 12 zDI:=
 sU (cx':=zts) (zm ⟨zqa.nodr,zDH.nodr,zs4,zFy,zKS,trivial⟩) call12 func12 (lOK (aC zSf (aC zQ3 (aC zPe aN)))) (sg:=⟨[.own 9],[]⟩)
def zCX (k:Go.Value) (l:List (Go.Value×Int)):Option Int:=zPq (ty:=ty) (V:=3) k l
def z6L (k:Go.Value) (l:List (Go.Value×Int)):Bool:=zG7 (ty:=ty) (V:=3) k l
def z6M (k:Go.Value) (x:Int) (l:List (Go.Value×Int)):List (Go.Value×Int):=zEo (ty:=ty) (V:=3) k x l
def zlx (x:yB) (a b lim:Int):Bool×yB:=zZ9 zbU x a b lim
def zzn:Ab.Spec ty:=zi (cx:=base) (zg (zpX 107) (zg (zh (zg0 .i64)) (zg (zh (zg0 .i64)) (zg (zh (zg0 .i64)) (zg (zh (vFn 104 zcX)) zC))))) λx=>((zlx x.1 x.2.1 x.2.2.1 x.2.2.2.1).1,⟨[],[some ⟨107,(zlx x.1 x.2.1 x.2.2.1 x.2.2.2.1).2⟩]⟩)
theorem zAA (c:Unit) (x y:Term) (h:(zbU x y).1=true):zi5 ((AV.agg (base.enc 107 x)::AV.agg (base.enc 107 y)::(zcX:VL base Unit).enc c).map Arg.pure)=some (true,⟨[.pure (.lit (.int .i64 (zbU x y).2))],[]⟩):=by
 rw [<- h]; kernel_rfl
theorem zyp:SdP 231 zzn:=by
 letI:DecidableEq (ty 107):=inferInstanceAs (DecidableEq Term)
 exact z6z (T:=107) zfB rfl Go.Proofs.Tryz.pdqTerm Tryz.isAgg107 (by unfold zq; exact Tryz.sizeOf107) call231 zlY zcX (λc=>zbU) zAA
open Go.Proofs Go.RowKit
def zbE (x:yB):Bool×yB:=z4m zbU x
def zfn:Ab.Spec ty:=zi (cx:=base) (zg (zpX 107) (zg (zh (vFn 104 zcX)) zC)) λx=>((zbE x.1).1,⟨[],[some ⟨107,(zbE x.1).2⟩]⟩)
set_option maxHeartbeats 1000000 in
theorem zs1:SdP 192 zfn where
 enters:=call192
 calls:=λavs r hsp w F vs hF ha hsep=>by
  unfold zfn zi at hsp;split at hsp
  ·rename_i x hx;simp only [qa,qb] at hsp;obtain ⟨hpre,rfl⟩:=hsp;have hk:=(zg (zpX 107) (zg (zh (vFn 104 zcX)) zC):AL base _).kind vs avs x hx;have ha':=(zg (zpX 107) (zg (zh (vFn 104 zcX)) zC):AL base _).ok Tryz.prog zfB F w vs avs x hx ha;rw [hk] at hsep ⊢;clear hk hx ha;obtain ⟨l0,c,u0⟩:=x;obtain ⟨l,rfl⟩:∃ l:yB,l=l0:=⟨l0,rfl⟩;obtain ⟨v,vs',rfl,hv,hv'⟩:=ha'.inv;obtain ⟨fv,vs'',rfl,hfv,h0⟩:=hv'.inv;obtain rfl:=h0.nil_left.1
   have hsl:∃ p cap,v=.slice p l.length cap:=by
    obtain ⟨⟨xs,hown,_⟩,_⟩:=(show zdk base F w v 107 l/\∀ b,zbb v=some b->¬ F b from hv)
    rcases hown.2 with ⟨h1,h2⟩ | ⟨g0,cap,cur,h1,_⟩
    ·exact ⟨none,0,by rw [h1,show l.length=0 from h2]⟩
    ·exact ⟨_,cap,h1⟩
   have hok:SortOK (α:=Term) zbU l:=of_decide_eq_true (p:=SortOK (α:=Term) zbU l) hpre;have hlen:l.length<4611686018427387904:=hok.size;have hbl:Lib.bitLen l.length<4611686018427387904:=Nat.lt_of_le_of_lt (Lib.bitLen_le l.length 62 (by omega) (by omega)) (by omega)
   have hpp:(zlx l 0 (l.length:Int) ((Lib.bitLen l.length:Nat):Int)).1=true:=by
    show (decide (SortOK (α:=Term) zbU l)&&(decide ((0:Int)=0)&&(decide ((l.length:Int)=l.length)&&(decide ((0:Int)<=((Lib.bitLen l.length:Nat):Int))&&decide (((Lib.bitLen l.length:Nat):Int)<4611686018427387904)))))=true;simp only [qc,qe];exact ⟨hok,trivial,trivial,by omega,by omega⟩
   have hp:=(zyp).calls [.own 107 l,.pure (.lit (.int .i64 0)),.pure (.lit (.int .i64 (l.length:Int))),.pure (.lit (.int .i64 ((Lib.bitLen l.length:Nat):Int))),.pure (.fn 104 [])] ⟨[],[some ⟨107,(zbE l).2⟩]⟩
    (by rw [<- hpp]; kernel_rfl) w F [v,.int .i64 0,.int .i64 (l.length:Int),.int .i64 ((Lib.bitLen l.length:Nat):Int),fv] hF (.cons hv (.cons (Rep.lit _) (.cons (Rep.lit _) (.cons (Rep.lit _) (.cons hfv .nil))))) hsep
   replace hp:Calls Tryz.prog 231 #[v,.int .i64 0,.int .i64 (l.length:Int),.int .i64 ((Lib.bitLen l.length:Nat):Int),fv] w λe w'=>∃ u,e=.returned u/\Post base F w [v] ⟨[],[some ⟨107,(zbE l).2⟩]⟩ u w':=hp
   show Calls Tryz.prog 192 #[v,fv] w λe w'=>∃ u,e=.returned u/\Post base F w [v] ⟨[],[some ⟨107,(zbE l).2⟩]⟩ u w'
   have hb:Calls Tryz.prog 205 #[.int .u64 (l.length:Int)] w λe w'=>e=.returned (.int .i64 ((Lib.bitLen l.length:Nat):Int))/\w'=w:=by
    have h:=Any.bits_Len Go.Proofs.Tryz.lays125 (l.length:Int) w (by omega) (by omega)
    rwa [Int.toNat_natCast] at h
   have wr:IntKind.u64.wrap (l.length:Int)=l.length:=by simp [IntKind.wrap,IntKind.bits,IntKind.signed]; omega
   generalize (zbE l).2=res at hp ⊢;generalize hn:l.length=m at *;generalize Lib.bitLen m=bl at *;clear hpp hv hfv hsep hok hpre hF;obtain ⟨p,cap,rfl⟩:=hsl;clear hn
   go_enter func192,ntmps192
   go_wp2_with (first | (go_at_call 205; refine hb.mono ?_; rintro e w' ⟨rfl,rfl⟩) | (go_at_call 231; refine hp.mono ?_; rintro e w' ⟨u,rfl,hpost⟩; obtain rfl:=hpost.unit))
   go_end0
   exact ⟨_,rfl,hpost⟩
  ·cases hsp
end Go.Proofs.YtoknknbmfmddbaaGreatDoor
namespace Go.Proofs.YtoknknbmfmddbaaGreatDoor
open Go Go.Ab
open Go.Proofs.Tryz
abbrev zon:=Unit×Unit×yB×Int×Int×Unit
abbrev zoa:=(List (_root_.Go.Value×Int))×yB×Unit
def zkB (t11:yB) (t12:Int) (t13:Int) (at_:List (_root_.Go.Value×Int)) (out_:yB):Wy zon zoa (yB):=.i (decide (t13<t12)) (.i (decide (0<=t13)&&decide (t13<Int.ofNat t11.length)) (.bn (zrn (t11.getD t13.toNat default).Fs) λr0=>.i (z6L (Value.string r0) at_) (.i (decide (0<=(zCX (Value.string r0) at_).getD 0)&&decide ((zCX (Value.string r0) at_).getD 0<Int.ofNat out_.length)) (.i (decide (0<=(zCX (Value.string r0) at_).getD 0)&&decide ((zCX (Value.string r0) at_).getD 0<Int.ofNat out_.length)) (.i (decide (Int.toNat ((zCX (Value.string r0) at_).getD 0)<out_.length)) (.h ((),(),t11,t12,(IntKind.i64.wrap (t13+1)),()) (at_,(out_.set (Int.toNat ((zCX (Value.string r0) at_).getD 0)) (TO.mk (if 1152921504606846976<IntKind.i64.wrap ((out_.getD (Int.toNat ((zCX (Value.string r0) at_).getD 0)) default).Cf+(t11.getD t13.toNat default).Cf) then 1152921504606846976 else IntKind.i64.wrap ((out_.getD (Int.toNat ((zCX (Value.string r0) at_).getD 0)) default).Cf+(t11.getD t13.toNat default).Cf)) (out_.getD (Int.toNat ((zCX (Value.string r0) at_).getD 0)) default).Fs)),())) .d) .d) .d) (.i (decide ((out_.length+[t11.getD t13.toNat default].length)*32<=zG)) (.h ((),(),t11,t12,(IntKind.i64.wrap (t13+1)),()) ((z6M (Value.string r0) (Int.ofNat out_.length) at_),(out_++[t11.getD t13.toNat default]),())) .d)) .d) (.k out_)
def zu1 (x:zon) (y:zoa):=zkB x.2.2.1 x.2.2.2.1 x.2.2.2.2.1 y.1 y.2.1
def zuX (n:Nat) (t11:yB) (t12:Int) (t13:Int) (at_:List (_root_.Go.Value×Int)) (out_:yB):=zA (zu1) default n ((),(),t11,t12,t13,()) (at_,out_,())
def zM5 (r:yB):LTree ty:=.done (.exit 0) [.own 208] [.arr 107 r false]
def zNw:LL ty zon:=za (lMp 208) (za (zeZ 209) (za (lSl 107) (za zj (za zj zr))))
def zOx:BL ty zoa:=bMp 9 3 false (ze2 107 false (zbD))
def zM7 (x:zon) (y:zoa):Nat:=(x.2.2.1.length+Int.toNat x.2.2.2.1+Int.toNat x.2.2.2.2.1+y.1.length+y.2.1.length+1)
def zB5:=zc6 zbp 52 [(104,zi5),(154,zuc),(192,zfn)] [(192,[true,false])] [(4,[(3,.keep),(4,.own 107),(11,.keep),(12,.keep),(13,.keep)])] [(4,1,(kpL [4]))] [(4,spW zNw zOx (zu1) default zM5 zM7)] []
theorem zMk:zS zB5 (lp (body f125) 0):=zI (id:=4) (hl:=rfl)
def zCD (terms:yB):Wy0 (yB):=.bn (zuX (terms.length+(Int.ofNat terms.length).toNat +Int.toNat 0+0+0+1) terms (Int.ofNat terms.length) 0 [] []) λr3=>.bn (zbE r3) λr2=>.k r2
def ziK (terms:yB):=(zCD terms).fin default
def zsd:=zi zVw λx=>((ziK x.1).1,zZH (ziK x.1).2)
theorem zyE:Sound Tryz.prog zbp 125 zsd:=
 sU (cx':=zB5) (zm ⟨zlY.nodr,zDc,zs1.nodr,trivial⟩) call125 func125 (lOK (aC zMk aN)) (sg:=⟨[.own 107],[]⟩)
def zmb (F:yB->Bool×yB):Ab.Spec ty:=zi zT6 λx=>((F x.1).1,zZH (F x.1).2)
def zIo (r:At):ARes ty:=⟨[.pure (.agg (base.enc 143 r))],[]⟩
def zl4 (F:At->Bool×At):Ab.Spec ty:=zi z3t λx=>((F x.1).1,zIo (F x.1).2)
def zeL:Cx ty:={ base with nt:=8 }
def zfu (s:yC):Bool×yC:=(decide (s.length*128<=zG),s)
def zlc:Ab.Spec ty:=zi (cx:=base) (zg (zh (vSl 145)) zC) λx=>((zfu x.1).1,⟨[.own 145 (zfu x.1).2],[]⟩)
theorem zwX:zeP zeL f132 (body f132) ⟨[.own 145],[]⟩ [.pure (.lit (.slice none 0 0))]=some ⟨[.own 145 []],[]⟩:=by kernel_rfl
theorem zvm (p:Addr) (c:Nat):zeP zeL f132 (body f132) ⟨[.own 145],[]⟩ [.pure (.lit (.slice (some p) 0 c))]=some ⟨[.own 145 []],[]⟩:=by kernel_rfl
theorem zvW (l:yC):zeP zeL f132 (body f132) ⟨[.own 145],[]⟩ [.pure (.sl 145 l)]=bif !l.isEmpty then bif decide ((([]:List (ty 145)).length+l.length)*128<=zG) then some ⟨[.own 145 l],[]⟩ else none else none:=by kernel_rfl
theorem zvi:SdP 132 zlc:=
 zw5 (cx':=zeL) (bytes:=128) zBb zfB ⟨⟨rfl,rfl,rfl,rfl,rfl,rfl⟩,rfl⟩ (λg s h=>by cases h) call132 func132 (c:=body f132) (by kernel_rfl) (zsX (l:=[]) (by kernel_rfl) trivial) zwX zvm zvW (by kernel_rfl)
abbrev zpy:=Unit×Unit×Unit×yB×Int×Int×Int×Int×Unit
abbrev zp9:=yB×Term×yC×Unit
abbrev zDo:=yB×Int×Int×yB×Term×yC
abbrev zpI:=Unit×yB×Int×Int×Unit
abbrev zpS:=yB×Unit
def zkf (zH:At->Bool×At) (t8:yB) (t9:Int) (t10:Int) (t18:Int) (t19:Int) (out_:yB) (t:Term) (factors:yC):Wy zpy zp9 zDo:=.i (decide (t19<t18)) (.i (decide (0<=t19)&&decide (t19<Int.ofNat factors.length)) (.bn (zH (At.mk (factors.getD t19.toNat default).At.Kind (factors.getD t19.toNat default).At.Row (factors.getD t19.toNat default).At.Ag (factors.getD t19.toNat default).At.Func (factors.getD t19.toNat default).At.Items (factors.getD t19.toNat default).At.Op (factors.getD t19.toNat default).At.Bd)) λr2=>.i (decide (0<=t19)&&decide (t19<Int.ofNat factors.length)) (.i (decide (t19.toNat<factors.length)) (.h ((),(),(),t8,t9,t10,t18,(IntKind.i64.wrap (t19+1)),()) (out_,t,(factors.set t19.toNat (FO.mk (At.mk r2.Kind r2.Row r2.Ag r2.Func r2.Items r2.Op r2.Bd) (factors.getD t19.toNat default).Exp)),())) .d) .d) .d) (.k (t8,t9,t10,out_,t,factors))
def ztW (zH:At->Bool×At) (x:zpy) (y:zp9):=zkf zH x.2.2.2.1 x.2.2.2.2.1 x.2.2.2.2.2.1 x.2.2.2.2.2.2.1 x.2.2.2.2.2.2.2.1 y.1 y.2.1 y.2.2.1
def zAX (zH:At->Bool×At) (n:Nat) (t8:yB) (t9:Int) (t10:Int) (t18:Int) (t19:Int) (out_:yB) (t:Term) (factors:yC):=zA (ztW zH) default n ((),(),(),t8,t9,t10,t18,t19,()) (out_,t,factors,())
def zLu (r:zDo):LTree ty:=.done (.exit 2) [.own 168,.ptr 169 0,.own 170,.sl 107 r.1,.lit (.int .i64 r.2.1),.lit (.int .i64 r.2.2.1)] [.arr 107 r.2.2.2.1 false,.box (base.enc 107 r.2.2.2.2.1) false,.arr 145 r.2.2.2.2.2 false]
def zMu:LL ty zpy:=za (zeZ 168) (za (zfi 169 0) (za (zeZ 170) (za (lSl 107) (za zj (za zj (za zj (za zj zr)))))))
def zM0:BL ty zp9:=ze2 107 false (ziu (zg7 (λx=>(⟨x.1,x.2.1⟩:Term)) (λx=>(x.Cf,x.Fs,())) (λ_=>rfl) (za (zbL .i64) (za (lSl 145) zr))) false (ze2 145 false (zbD)))
def zj3 (zH:At->Bool×At) (t8:yB) (t9:Int) (t10:Int) (out_:yB):Wy zpI zpS (yB):=.i (decide (t10<t9)) (.i (decide (0<=t10)&&decide (t10<Int.ofNat t8.length)) (.bn (zfu (t8.getD t10.toNat default).Fs) λr5=>.bn (zAX zH (t8.length+t9.toNat +t10.toNat +(Int.ofNat r5.length).toNat +Int.toNat 0+out_.length+(t8.getD t10.toNat default).Fs.length+r5.length+1) t8 t9 t10 (Int.ofNat r5.length) 0 out_ (t8.getD t10.toNat default) r5) λr4=>.i (decide ((r4.2.2.2.1.length+[TO.mk r4.2.2.2.2.1.Cf r4.2.2.2.2.2].length)*32<=zG)) (.h ((),(r4.1),(r4.2.1),(IntKind.i64.wrap (r4.2.2.1+1)),()) ((r4.2.2.2.1++[TO.mk r4.2.2.2.2.1.Cf r4.2.2.2.2.2]),())) .d) .d) (.k out_)
def ztZ (zH:At->Bool×At) (x:zpI) (y:zpS):=zj3 zH x.2.1 x.2.2.1 x.2.2.2.1 y.1
def zAY (zH:At->Bool×At) (n:Nat) (t8:yB) (t9:Int) (t10:Int) (out_:yB):=zA (ztZ zH) default n ((),t8,t9,t10,()) (out_,())
def zLs (r:yB):LTree ty:=.done (.exit 0) [.own 168] [.arr 107 r false]
def zMC:LL ty zpI:=za (zeZ 168) (za (lSl 107) (za zj (za zj zr)))
def zMo:BL ty zpS:=ze2 107 false (zbD)
def zKQ (x:zpy) (y:zp9):Nat:=(x.2.2.2.1.length+Int.toNat x.2.2.2.2.1+Int.toNat x.2.2.2.2.2.1+Int.toNat x.2.2.2.2.2.2.1+Int.toNat x.2.2.2.2.2.2.2.1+y.1.length+y.2.1.Fs.length+y.2.2.1.length+1)
def zLg (x:zpI) (y:zpS):Nat:=(x.2.1.length+Int.toNat x.2.2.1+Int.toNat x.2.2.2.1+y.1.length+1)
def ztX (zH:At->Bool×At):=zc6 base 42 [(132,zlc),(200,(zl4 zH))] [] [(3,[(3,.own 107),(8,.keep),(9,.keep),(10,.keep)]),(7,(kpL [3,5,6,8,9,10,18,19]))] [(3,1,(kpL [3])),(7,3,(kpL [3,5,6,8,9,10]))] [(7,spW zMu zM0 (ztW zH) default zLu zKQ),(3,spW zMC zMo (ztZ zH) default zLs zLg)] []
theorem zKZ (zH:At->Bool×At):zS (ztX zH) (lp (body f141) 1):=zI (id:=7) (hl:=rfl)
theorem zLv (zH:At->Bool×At):zS (ztX zH) (lp (body f141) 0):=zI (id:=3) (hl:=rfl)
def zBR (zH:At->Bool×At) (a:yB):Wy0 (yB):=.bn (zAY zH (a.length+(Int.ofNat a.length).toNat +Int.toNat 0+0+1) a (Int.ofNat a.length) 0 []) λr8=>.k r8
def zmk (zH:At->Bool×At) (a:yB):=(zBR zH a).fin default
theorem zH2 (zH:At->Bool×At) (zH5:SdP 200 (zl4 zH)):SdP 141 (zmb (zmk zH)):=
 sT (cx':=(ztX zH)) (zm ⟨zvi,zH5,trivial⟩) call141 func141 (lOK (aC (zLv zH) (aC (zKZ zH) aN))) (sg:=⟨[.own 107],[]⟩)
def zdh:Cx ty:={ base with nt:=8 }
def zdW (s:yA):Bool×yA:=(decide (s.length*24<=zG),s)
def ziA:Ab.Spec ty:=zi (cx:=base) (zg (zh (vSl 51)) zC) λx=>((zdW x.1).1,⟨[.own 51 (zdW x.1).2],[]⟩)
theorem zrQ:zeP zdh f133 (body f133) ⟨[.own 51],[]⟩ [.pure (.lit (.slice none 0 0))]=some ⟨[.own 51 []],[]⟩:=by kernel_rfl
theorem zqS (p:Addr) (c:Nat):zeP zdh f133 (body f133) ⟨[.own 51],[]⟩ [.pure (.lit (.slice (some p) 0 c))]=some ⟨[.own 51 []],[]⟩:=by kernel_rfl
theorem zrD (l:yA):zeP zdh f133 (body f133) ⟨[.own 51],[]⟩ [.pure (.sl 51 l)]=bif !l.isEmpty then bif decide ((([]:List (ty 51)).length+l.length)*24<=zG) then some ⟨[.own 51 l],[]⟩ else none else none:=by kernel_rfl
theorem zqO:SdP 133 ziA:=
 zw5 (cx':=zdh) (bytes:=24) zBb zfB ⟨⟨rfl,rfl,rfl,rfl,rfl,rfl⟩,rfl⟩ (λg s h=>by cases h) call133 func133 (c:=body f133) (by kernel_rfl) (zsX (l:=[]) (by kernel_rfl) trivial) zrQ zqS zrD (by kernel_rfl)
def zd3:Cx ty:={ base with nt:=8 }
def zeE (s:yD):Bool×yD:=(decide (s.length*56<=zG),s)
def zj0:Ab.Spec ty:=zi (cx:=base) (zg (zh (vSl 169)) zC) λx=>((zeE x.1).1,⟨[.own 169 (zeE x.1).2],[]⟩)
theorem zue:zeP zd3 f134 (body f134) ⟨[.own 169],[]⟩ [.pure (.lit (.slice none 0 0))]=some ⟨[.own 169 []],[]⟩:=by kernel_rfl
theorem ztj (p:Addr) (c:Nat):zeP zd3 f134 (body f134) ⟨[.own 169],[]⟩ [.pure (.lit (.slice (some p) 0 c))]=some ⟨[.own 169 []],[]⟩:=by kernel_rfl
theorem zt2 (l:yD):zeP zd3 f134 (body f134) ⟨[.own 169],[]⟩ [.pure (.sl 169 l)]=bif !l.isEmpty then bif decide ((([]:List (ty 169)).length+l.length)*56<=zG) then some ⟨[.own 169 l],[]⟩ else none else none:=by kernel_rfl
theorem ztd:SdP 134 zj0:=
 zw5 (cx':=zd3) (bytes:=56) zBb zfB ⟨⟨rfl,rfl,rfl,rfl,rfl,rfl⟩,rfl⟩ (λg s h=>by cases h) call134 func134 (c:=body f134) (by kernel_rfl) (zsX (l:=[]) (by kernel_rfl) trivial) zue ztj zt2 (by kernel_rfl)
abbrev zdS:=Unit×Unit×Int×Int×Unit
abbrev zlo:=(Int×Int×Int×Unit×Int×yD×Int×Int×Int×ByteArray×Unit)×(Int×Int×Int×Unit×Int×Unit×Int×Int×Int×ByteArray×Unit)×yA×Unit
abbrev zyO:=Int×Int×Int×Int×yD×Int×Int×Int×ByteArray×Int×Int×Int×Int×Int×Int×Int×ByteArray×yA
abbrev zli:=(Int×Int×Int×Unit×Int×Unit×Int×Int×Int×ByteArray×Unit)×(Int×Int×Int×Unit×Int×Unit×Int×Int×Int×ByteArray×Unit)×yA×yD×Unit
abbrev zyJ:=Int×Int×Int×Int×Int×Int×Int×ByteArray×Int×Int×Int×Int×Int×Int×Int×ByteArray×yA×yD
def zgT (zQ:yB->Bool×yB) (t11:Int) (t12:Int) (x_0:Int) (x_1:Int) (x_2:Int) (x_3:Int) (x_4:yD) (x_5:Int) (x_6:Int) (x_7:Int) (x_8:ByteArray) (t2_0:Int) (t2_1:Int) (t2_2:Int) (t2_3:Int) (t2_4:Int) (t2_5:Int) (t2_6:Int) (t2_7:ByteArray) (b2:yA):Wy zdS zlo zyO:=.i (decide (t12<t11)) (.i (decide (0<=t12)&&decide (t12<Int.ofNat b2.length)) (.bn (zQ (b2.getD t12.toNat default)) λr0=>.i (decide (0<=t12)&&decide (t12<Int.ofNat b2.length)) (.i (decide (t12.toNat<b2.length)) (.h ((),(),t11,(IntKind.i64.wrap (t12+1)),()) ((x_0,x_1,x_2,(),x_3,x_4,x_5,x_6,x_7,x_8,()),(t2_0,t2_1,t2_2,(),t2_3,(),t2_4,t2_5,t2_6,t2_7,()),(b2.set t12.toNat r0),())) .d) .d) .d) (.k (x_0,x_1,x_2,x_3,x_4,x_5,x_6,x_7,x_8,t2_0,t2_1,t2_2,t2_3,t2_4,t2_5,t2_6,t2_7,b2))
def zoJ (zQ:yB->Bool×yB) (x:zdS) (y:zlo):=zgT zQ x.2.2.1 x.2.2.2.1 y.1.1 y.1.2.1 y.1.2.2.1 y.1.2.2.2.2.1 y.1.2.2.2.2.2.1 y.1.2.2.2.2.2.2.1 y.1.2.2.2.2.2.2.2.1 y.1.2.2.2.2.2.2.2.2.1 y.1.2.2.2.2.2.2.2.2.2.1 y.2.1.1 y.2.1.2.1 y.2.1.2.2.1 y.2.1.2.2.2.2.1 y.2.1.2.2.2.2.2.2.1 y.2.1.2.2.2.2.2.2.2.1 y.2.1.2.2.2.2.2.2.2.2.1 y.2.1.2.2.2.2.2.2.2.2.2.1 y.2.2.1
def zwk (zQ:yB->Bool×yB) (n:Nat) (t11:Int) (t12:Int) (x_0:Int) (x_1:Int) (x_2:Int) (x_3:Int) (x_4:yD) (x_5:Int) (x_6:Int) (x_7:Int) (x_8:ByteArray) (t2_0:Int) (t2_1:Int) (t2_2:Int) (t2_3:Int) (t2_4:Int) (t2_5:Int) (t2_6:Int) (t2_7:ByteArray) (b2:yA):=zA (zoJ zQ) default n ((),(),t11,t12,()) ((x_0,x_1,x_2,(),x_3,x_4,x_5,x_6,x_7,x_8,()),(t2_0,t2_1,t2_2,(),t2_3,(),t2_4,t2_5,t2_6,t2_7,()),b2,())
def zFM (r:zyO):LTree ty:=.done (.exit 0) [.ptr 200 0,.ptr 201 0] [.box ([.lit (.int .i64 r.1),.lit (.int .i64 r.2.1),.lit (.int .i64 r.2.2.1),.own 202,.lit (.int .i64 r.2.2.2.1),.sl 169 r.2.2.2.2.1,.lit (.int .i64 r.2.2.2.2.2.1),.lit (.int .i64 r.2.2.2.2.2.2.1),.lit (.int .i64 r.2.2.2.2.2.2.2.1),.lit (.string r.2.2.2.2.2.2.2.2.1)]) false,.box ([.lit (.int .i64 r.2.2.2.2.2.2.2.2.2.1),.lit (.int .i64 r.2.2.2.2.2.2.2.2.2.2.1),.lit (.int .i64 r.2.2.2.2.2.2.2.2.2.2.2.1),.lit (.slice none 0 0),.lit (.int .i64 r.2.2.2.2.2.2.2.2.2.2.2.2.1),.lit (.slice none 0 0),.lit (.int .i64 r.2.2.2.2.2.2.2.2.2.2.2.2.2.1),.lit (.int .i64 r.2.2.2.2.2.2.2.2.2.2.2.2.2.2.1),.lit (.int .i64 r.2.2.2.2.2.2.2.2.2.2.2.2.2.2.2.1),.lit (.string r.2.2.2.2.2.2.2.2.2.2.2.2.2.2.2.2.1)]) false,.arr 51 r.2.2.2.2.2.2.2.2.2.2.2.2.2.2.2.2.2 false]
def zHa:LL ty zdS:=za (zfi 200 0) (za (zfi 201 0) (za zj (za zj zr)))
def zGI:BL ty zlo:=ziu (za (zbL .i64) (za (zbL .i64) (za (zbL .i64) (za (zeZ 202) (za (zbL .i64) (za (lSl 169) (za (zbL .i64) (za (zbL .i64) (za (zbL .i64) (za zG5 zr)))))))))) false (ziu (za (zbL .i64) (za (zbL .i64) (za (zbL .i64) (za zUC (za (zbL .i64) (za zUC (za (zbL .i64) (za (zbL .i64) (za (zbL .i64) (za zG5 zr)))))))))) false (ze2 51 false (zbD)))
def zgX (zQ:yB->Bool×yB) (t32:Int) (t33:Int) (x_0:Int) (x_1:Int) (x_2:Int) (x_3:Int) (x_4:Int) (x_5:Int) (x_6:Int) (x_7:ByteArray) (t2_0:Int) (t2_1:Int) (t2_2:Int) (t2_3:Int) (t2_4:Int) (t2_5:Int) (t2_6:Int) (t2_7:ByteArray) (b2:yA) (b3:yD):Wy zdS zli zyJ:=.i (decide (t33<t32)) (.i (decide (0<=t33)&&decide (t33<Int.ofNat b3.length)) (.bn (zQ (b3.getD t33.toNat default).Ann) λr2=>.i (decide (0<=t33)&&decide (t33<Int.ofNat b3.length)) (.i (decide (t33.toNat<b3.length)) (.h ((),(),t32,(IntKind.i64.wrap (t33+1)),()) ((x_0,x_1,x_2,(),x_3,(),x_4,x_5,x_6,x_7,()),(t2_0,t2_1,t2_2,(),t2_3,(),t2_4,t2_5,t2_6,t2_7,()),b2,(b3.set t33.toNat (WO.mk (b3.getD t33.toNat default).Value r2)),())) .d) .d) .d) (.k (x_0,x_1,x_2,x_3,x_4,x_5,x_6,x_7,t2_0,t2_1,t2_2,t2_3,t2_4,t2_5,t2_6,t2_7,b2,b3))
def zoT (zQ:yB->Bool×yB) (x:zdS) (y:zli):=zgX zQ x.2.2.1 x.2.2.2.1 y.1.1 y.1.2.1 y.1.2.2.1 y.1.2.2.2.2.1 y.1.2.2.2.2.2.2.1 y.1.2.2.2.2.2.2.2.1 y.1.2.2.2.2.2.2.2.2.1 y.1.2.2.2.2.2.2.2.2.2.1 y.2.1.1 y.2.1.2.1 y.2.1.2.2.1 y.2.1.2.2.2.2.1 y.2.1.2.2.2.2.2.2.1 y.2.1.2.2.2.2.2.2.2.1 y.2.1.2.2.2.2.2.2.2.2.1 y.2.1.2.2.2.2.2.2.2.2.2.1 y.2.2.1 y.2.2.2.1
def zwV (zQ:yB->Bool×yB) (n:Nat) (t32:Int) (t33:Int) (x_0:Int) (x_1:Int) (x_2:Int) (x_3:Int) (x_4:Int) (x_5:Int) (x_6:Int) (x_7:ByteArray) (t2_0:Int) (t2_1:Int) (t2_2:Int) (t2_3:Int) (t2_4:Int) (t2_5:Int) (t2_6:Int) (t2_7:ByteArray) (b2:yA) (b3:yD):=zA (zoT zQ) default n ((),(),t32,t33,()) ((x_0,x_1,x_2,(),x_3,(),x_4,x_5,x_6,x_7,()),(t2_0,t2_1,t2_2,(),t2_3,(),t2_4,t2_5,t2_6,t2_7,()),b2,b3,())
def zFB (r:zyJ):LTree ty:=.done (.exit 2) [.ptr 200 0,.ptr 201 0] [.box ([.lit (.int .i64 r.1),.lit (.int .i64 r.2.1),.lit (.int .i64 r.2.2.1),.own 202,.lit (.int .i64 r.2.2.2.1),.own 203,.lit (.int .i64 r.2.2.2.2.1),.lit (.int .i64 r.2.2.2.2.2.1),.lit (.int .i64 r.2.2.2.2.2.2.1),.lit (.string r.2.2.2.2.2.2.2.1)]) false,.box ([.lit (.int .i64 r.2.2.2.2.2.2.2.2.1),.lit (.int .i64 r.2.2.2.2.2.2.2.2.2.1),.lit (.int .i64 r.2.2.2.2.2.2.2.2.2.2.1),.lit (.slice none 0 0),.lit (.int .i64 r.2.2.2.2.2.2.2.2.2.2.2.1),.lit (.slice none 0 0),.lit (.int .i64 r.2.2.2.2.2.2.2.2.2.2.2.2.1),.lit (.int .i64 r.2.2.2.2.2.2.2.2.2.2.2.2.2.1),.lit (.int .i64 r.2.2.2.2.2.2.2.2.2.2.2.2.2.2.1),.lit (.string r.2.2.2.2.2.2.2.2.2.2.2.2.2.2.2.1)]) false,.arr 51 r.2.2.2.2.2.2.2.2.2.2.2.2.2.2.2.2.1 false,.arr 169 r.2.2.2.2.2.2.2.2.2.2.2.2.2.2.2.2.2 false]
def zHg:BL ty zli:=ziu (za (zbL .i64) (za (zbL .i64) (za (zbL .i64) (za (zeZ 202) (za (zbL .i64) (za (zeZ 203) (za (zbL .i64) (za (zbL .i64) (za (zbL .i64) (za zG5 zr)))))))))) false (ziu (za (zbL .i64) (za (zbL .i64) (za (zbL .i64) (za zUC (za (zbL .i64) (za zUC (za (zbL .i64) (za (zbL .i64) (za (zbL .i64) (za zG5 zr)))))))))) false (ze2 51 false (ze2 169 false (zbD))))
def zGj (x:zdS) (y:zlo):Nat:=(Int.toNat x.2.2.1+Int.toNat x.2.2.2.1+Int.toNat y.1.1+Int.toNat y.1.2.1+Int.toNat y.1.2.2.1+Int.toNat y.1.2.2.2.2.1+y.1.2.2.2.2.2.1.length+Int.toNat y.1.2.2.2.2.2.2.1+Int.toNat y.1.2.2.2.2.2.2.2.1+Int.toNat y.1.2.2.2.2.2.2.2.2.1+y.1.2.2.2.2.2.2.2.2.2.1.size+Int.toNat y.2.1.1+Int.toNat y.2.1.2.1+Int.toNat y.2.1.2.2.1+Int.toNat y.2.1.2.2.2.2.1+Int.toNat y.2.1.2.2.2.2.2.2.1+Int.toNat y.2.1.2.2.2.2.2.2.2.1+Int.toNat y.2.1.2.2.2.2.2.2.2.2.1+y.2.1.2.2.2.2.2.2.2.2.2.1.size+y.2.2.1.length+1)
def zGv (x:zdS) (y:zli):Nat:=(Int.toNat x.2.2.1+Int.toNat x.2.2.2.1+Int.toNat y.1.1+Int.toNat y.1.2.1+Int.toNat y.1.2.2.1+Int.toNat y.1.2.2.2.2.1+Int.toNat y.1.2.2.2.2.2.2.1+Int.toNat y.1.2.2.2.2.2.2.2.1+Int.toNat y.1.2.2.2.2.2.2.2.2.1+y.1.2.2.2.2.2.2.2.2.2.1.size+Int.toNat y.2.1.1+Int.toNat y.2.1.2.1+Int.toNat y.2.1.2.2.1+Int.toNat y.2.1.2.2.2.2.1+Int.toNat y.2.1.2.2.2.2.2.2.1+Int.toNat y.2.1.2.2.2.2.2.2.2.1+Int.toNat y.2.1.2.2.2.2.2.2.2.2.1+y.2.1.2.2.2.2.2.2.2.2.2.1.size+y.2.2.1.length+y.2.2.2.1.length+1)
def zoN (zQ:yB->Bool×yB):=zc6 base 50 [(133,ziA),(134,zj0),(141,(zmb zQ))] [] [(3,(kpL [1,2,11,12])),(9,(kpL [1,2,32,33]))] [(3,1,(kpL [1,2])),(9,3,(kpL [1,2]))] [(3,spW zHa zGI (zoJ zQ) default zFM zGj),(9,spW zHa zHg (zoT zQ) default zFB zGv)] []
theorem zGm (zQ:yB->Bool×yB):zS (zoN zQ) (lp (body f200) 0):=zI (id:=3) (hl:=rfl)
theorem zFi (zQ:yB->Bool×yB):zS (zoN zQ) (lp (body f200) 1):=zI (id:=9) (hl:=rfl)
def zxS (zQ:yB->Bool×yB) (x_:At):Wy0 (At):=.bn (zdW x_.Ag) λr7=>.bn (zwk zQ ((Int.ofNat r7.length).toNat +Int.toNat 0+x_.Kind.toNat +x_.Row.Table.toNat +x_.Row.Seq.toNat +x_.Func.toNat +x_.Items.length+x_.Op.toNat +x_.Bd.Kind.toNat +x_.Bd.Int.toNat +x_.Bd.Text.size+Int.toNat 0+Int.toNat 0+Int.toNat 0+Int.toNat 0+Int.toNat 0+Int.toNat 0+Int.toNat 0+(ByteArray.mk #[]).size+r7.length+1) (Int.ofNat r7.length) 0 x_.Kind x_.Row.Table x_.Row.Seq x_.Func x_.Items x_.Op x_.Bd.Kind x_.Bd.Int x_.Bd.Text 0 0 0 0 0 0 0 (ByteArray.mk #[]) r7) λr6=>.bn (zeE r6.2.2.2.2.1) λr5=>.bn (zwV zQ ((Int.ofNat r5.length).toNat +Int.toNat 0+r6.1.toNat +r6.2.1.toNat +r6.2.2.1.toNat +r6.2.2.2.1.toNat +r6.2.2.2.2.2.1.toNat +r6.2.2.2.2.2.2.1.toNat +r6.2.2.2.2.2.2.2.1.toNat +r6.2.2.2.2.2.2.2.2.1.size+r6.2.2.2.2.2.2.2.2.2.1.toNat +r6.2.2.2.2.2.2.2.2.2.2.1.toNat +r6.2.2.2.2.2.2.2.2.2.2.2.1.toNat +r6.2.2.2.2.2.2.2.2.2.2.2.2.1.toNat +r6.2.2.2.2.2.2.2.2.2.2.2.2.2.1.toNat +r6.2.2.2.2.2.2.2.2.2.2.2.2.2.2.1.toNat +r6.2.2.2.2.2.2.2.2.2.2.2.2.2.2.2.1.toNat +r6.2.2.2.2.2.2.2.2.2.2.2.2.2.2.2.2.1.size+r6.2.2.2.2.2.2.2.2.2.2.2.2.2.2.2.2.2.length+r5.length+1) (Int.ofNat r5.length) 0 r6.1 r6.2.1 r6.2.2.1 r6.2.2.2.1 r6.2.2.2.2.2.1 r6.2.2.2.2.2.2.1 r6.2.2.2.2.2.2.2.1 r6.2.2.2.2.2.2.2.2.1 r6.2.2.2.2.2.2.2.2.2.1 r6.2.2.2.2.2.2.2.2.2.2.1 r6.2.2.2.2.2.2.2.2.2.2.2.1 r6.2.2.2.2.2.2.2.2.2.2.2.2.1 r6.2.2.2.2.2.2.2.2.2.2.2.2.2.1 r6.2.2.2.2.2.2.2.2.2.2.2.2.2.2.1 r6.2.2.2.2.2.2.2.2.2.2.2.2.2.2.2.1 r6.2.2.2.2.2.2.2.2.2.2.2.2.2.2.2.2.1 r6.2.2.2.2.2.2.2.2.2.2.2.2.2.2.2.2.2 r5) λr4=>.k (⟨r4.1,(⟨r4.2.1,r4.2.2.1⟩:RowID),r4.2.2.2.2.2.2.2.2.2.2.2.2.2.2.2.2.1,r4.2.2.2.1,r4.2.2.2.2.2.2.2.2.2.2.2.2.2.2.2.2.2,r4.2.2.2.2.1,(⟨r4.2.2.2.2.2.1,r4.2.2.2.2.2.2.1,r4.2.2.2.2.2.2.2.1⟩:Value)⟩:At)
def zjv (zQ:yB->Bool×yB) (x_:At):=(zxS zQ x_).fin default
theorem zDU (zQ:yB->Bool×yB) (zNW:SdP 141 (zmb zQ)):SdP 200 (zl4 (zjv zQ)):=
 sT (cx':=(zoN zQ)) (zm ⟨zqO,ztd,zNW,trivial⟩) call200 func200 (lOK (aC (zGm zQ) (aC (zFi zQ) aN)))
def zIw:Nat->(yB->Bool×yB)×(At->Bool×At)
 | 0=>(λ_=>(false,default),λ_=>(false,default))
 | n+1=>(zmk ((zIw n).2),zjv ((zIw n).1))
def zmi (n:Nat):yB->Bool×yB:=(zIw n).1
def zl2 (n:Nat):At->Bool×At:=(zIw n).2
theorem zMQ (n:Nat):zmi (n+1)=zmk (zl2 n):=rfl
theorem zG6 (n:Nat):zl2 (n+1)=zjv (zmi n):=rfl
theorem zS6:∀ n,SdP 141 (zmb (zmi n))/\SdP 200 (zl4 (zl2 n))
 | 0=>⟨zbQ call141 (λ_=>rfl),zbQ call200 (λ_=>rfl)⟩
 | n+1=>by
  have ih:=zS6 n;exact ⟨zH2 _ (ih.2),zDU _ (ih.1)⟩
def zho:yB->Bool×yB:=zmi 1000
def zg8:Ab.Spec ty:=zmb zho
theorem zjw:SdP 141 zg8:=(zS6 1000).1
def zNI:=zbN base 9 [(103,ztY),(141,zg8)]
def zC2 (a:yB):Wy0 (yB×Int):=.bn (zlM a) λr1=>.i (!r1) (.k ([],6)) (.bn (zho a) λr0=>.k (r0,0))
def zeA (a:yB):=(zC2 a).fin default
def zNs (r:yB×Int):ARes ty:=⟨[.own 107 r.1,.pure (.lit (.int .i64 r.2))],[]⟩
def ze0:=zi zT6 λx=>((zeA x.1).1,zNs (zeA x.1).2)
theorem zf4:SdP 124 ze0:=
 sT (cx':=zNI) (zm ⟨zzO,zjw,trivial⟩) call124 func124 (lOK aN) (sg:=⟨[.own 107,.pure],[]⟩)
def zxs:=zbN base 27 []
def zmK (n_:Int):Wy0 (yB):=.i (decide (n_<0)) .d (.i (decide (IntKind.i64.wrap (n_ - IntKind.i64.wrap (0 - 0))>0)) (.i (decide (0<IntKind.i64.wrap (n_ - IntKind.i64.wrap (0 - 0)))&&(decide (IntKind.i64.wrap (n_ - IntKind.i64.wrap (0 - 0))*Int.ofNat 32<=Int.ofNat zG)&&(decide (IntKind.i64.wrap (n_ - IntKind.i64.wrap (0 - 0))<=Int.ofNat zG)&& !Nat.beq 2 0))) (.k (List.take (Int.toNat 0 - Int.toNat 0) (List.replicate (IntKind.i64.wrap (n_ - IntKind.i64.wrap (0 - 0))).toNat (TO.mk 0 [])))) .d) (.k []))
def zd1 (n_:Int):=(zmK n_).fin default
def zyb:AL base (Unit×Int×Unit):=zg (zh z6w) (zg (zh zhY) zC)
def zlj:=zi zyb λx=>((zd1 x.2.1).1,zZH (zd1 x.2.1).2)
theorem zvf:SdP 193 zlj:=
 sT (cx':=zxs) (zm trivial) call193 func193 (lOK aN) (sg:=⟨[.own 107],[]⟩)
abbrev ze6:=yA×Int×yA×Int×Int×Unit
abbrev znp:=yA×Int
abbrev ze8:=Unit×yA×Int×Int×Unit
abbrev zfg:=yB×Unit
def zcY (slices:yA) (size:Int) (t9:yA) (t10:Int) (t11:Int):Wy ze6 Unit znp:=.i (decide (t11<t10)) (.i (decide (0<=t11)&&decide (t11<Int.ofNat t9.length)) (.i (decide (IntKind.i64.wrap (size+Int.ofNat (List.length (t9.getD t11.toNat default)))<0)) .d (.h (slices,(IntKind.i64.wrap (size+Int.ofNat (List.length (t9.getD t11.toNat default)))),t9,t10,(IntKind.i64.wrap (t11+1)),()) ())) .d) (.k (slices,size))
def zgw (x:ze6) (y:Unit):=zcY x.1 x.2.1 x.2.2.1 x.2.2.2.1 x.2.2.2.2.1
def zlp (n:Nat) (slices:yA) (size:Int) (t9:yA) (t10:Int) (t11:Int):=zA (zgw) default n (slices,size,t9,t10,t11,()) ()
def zvd (r:znp):LTree ty:=.done (.exit 0) [.sl 51 r.1,.lit (.int .i64 r.2)] []
def zv0:LL ty ze6:=za (lSl 51) (za zj (za (lSl 51) (za zj (za zj zr))))
def zcU (t25:yA) (t26:Int) (t27:Int) (newslice:yB):Wy ze8 zfg (yB):=.i (decide (t27<t26)) (.i (decide (0<=t27)&&decide (t27<Int.ofNat t25.length)) (.i (decide ((newslice.length+List.length (t25.getD t27.toNat default))*32<=zG)) (.h ((),t25,t26,(IntKind.i64.wrap (t27+1)),()) ((newslice++t25.getD t27.toNat default),())) .d) .d) (.k newslice)
def zgf (x:ze8) (y:zfg):=zcU x.2.1 x.2.2.1 x.2.2.2.1 y.1
def zk8 (n:Nat) (t25:yA) (t26:Int) (t27:Int) (newslice:yB):=zA (zgf) default n ((),t25,t26,t27,()) (newslice,())
def zuz (r:yB):LTree ty:=.done (.exit 2) [.own 144] [.arr 107 r false]
def zvg:LL ty ze8:=za (zeZ 144) (za (lSl 51) (za zj (za zj zr)))
def zvc:BL ty zfg:=ze2 107 false (zbD)
def zvk (x:ze6) (y:Unit):Nat:=(x.1.length+Int.toNat x.2.1+x.2.2.1.length+Int.toNat x.2.2.2.1+Int.toNat x.2.2.2.2.1+1)
def zuG (x:ze8) (y:zfg):Nat:=(x.2.1.length+Int.toNat x.2.2.1+Int.toNat x.2.2.2.1+y.1.length+1)
def zgt:=zc6 base 36 [(193,zlj)] [] [(3,(kpL [0,3,9,10,11])),(11,(kpL [6,25,26,27]))] [(3,1,(kpL [0,3])),(11,3,(kpL [6]))] [(3,spW zv0 z2k (zgw) default zvd zvk),(11,spW zvg zvc (zgf) default zuz zuG)] [193]
theorem zvh:zS zgt (lp (body f126) 0):=zI (id:=3) (hl:=rfl)
theorem zuP:zS zgt (lp (body f126) 1):=zI (id:=11) (hl:=rfl)
def zlP (slices:yA):Wy0 (yB):=.bn (zlp (slices.length+Int.toNat 0+slices.length+(Int.ofNat slices.length).toNat +Int.toNat 0+1) slices 0 slices (Int.ofNat slices.length) 0) λr2=>.bn (zd1 r2.2) λr1=>.bn (zk8 (r2.1.length+(Int.ofNat r2.1.length).toNat +Int.toNat 0+r1.length+1) r2.1 (Int.ofNat r2.1.length) 0 r1) λr0=>.k r0
def zdF (slices:yA):=(zlP slices).fin default
def zwI:AL base (yA×Unit):=zg (zh (vSl 51)) zC
def zkz:=zi zwI λx=>((zdF x.1).1,zZH (zdF x.1).2)
theorem zud:SdP 126 zkz:=
 sT (cx':=zgt) (zm ⟨zvf,trivial⟩) call126 func126 (lOK (aC zvh (aC zuP aN))) (sg:=⟨[.own 107],[]⟩)
def zVt:=zbN zbp 22 [(52,zcr),(124,ze0),(125,zsd),(126,zkz)]
def zJs (a:yB) (b:yB):Wy0 (yB×Int):=.bn (zb9 a) λr4=>.i (!r4) (.k ([],1)) (.bn (zb9 b) λr3=>.i (!r3) (.k ([],1)) (.bn (zdF [a,b]) λr2=>.bn (ziK r2) λr1=>.bn (zeA r1) λr0=>.k (r0.1,r0.2)))
def zqx (a:yB) (b:yB):=(zJs a b).fin default
def zXJ:AL zbp (yB×yB×Unit):=zg (zh (vSl 107)) (zg (zh (vSl 107)) zC)
def zxn:=zi zXJ λx=>((zqx x.1 x.2.1).1,zNs (zqx x.1 x.2.1).2)
theorem zDD:Sound Tryz.prog zbp 72 zxn:=
 sU (cx':=zVt) (zm ⟨zcz.nodr,zf4.nodr,zyE,zud.nodr,trivial⟩) call72 func72 (lOK aN) (sg:=⟨[.own 107,.pure],[]⟩)
def zI8:=zbN base 7 []
def zLk (x_:Row):Wy0 (Bool):=.k (Int.ofNat x_.Ann.length==0)
def zh2 (x_:Row):=(zLk x_).fin default
def zK6:AL base (Row×Unit):=zg (zh (zda 54)) zC
def zkj:=zi zK6 λx=>((zh2 x.1).1,zSj (zh2 x.1).2)
theorem znM:SdP 69 zkj:=
 sT (cx':=zI8) (zm trivial) call69 func69 (lOK aN)
def zQE:AL zbp (yB×((yE×Unit)×Unit)×Unit):=zg (zh (vSl 107)) (zg (zh (vFn 138 (zzF (zZY (zzF (vSl 65) zcX)) zcX))) zC)
def zlf (F:yB->yE->Bool×(yB×Int)):Ab.Spec ty:=zi zQE λx=>((F x.1 x.2.1.1.1).1,zNs (F x.1 x.2.1.1.1).2)
def zIW:AL zbp (At×((yE×Unit)×Unit)×Unit):=zg (zh (zda 143)) (zg (zh (vFn 138 (zzF (zZY (zzF (vSl 65) zcX)) zcX))) zC)
def zlb (F:At->yE->Bool×(yB×Int)):Ab.Spec ty:=zi zIW λx=>((F x.1 x.2.1.1.1).1,zNs (F x.1 x.2.1.1.1).2)
end Go.Proofs.YtoknknbmfmddbaaGreatDoor
end
