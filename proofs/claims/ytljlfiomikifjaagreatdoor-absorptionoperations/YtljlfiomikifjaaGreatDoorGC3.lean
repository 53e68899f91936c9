/- Texts of this claim, joined (the program, its functions in plain words, and what they compute). -/
import Derived.WalkKit
import Derived.WalkSpells
import Derived.Test.YtljlfiomikifjaaGreatDoorGC2
set_option autoImplicit false
set_option linter.unusedVariables false
set_option linter.unusedSectionVars false
set_option linter.unusedSimpArgs false
set_option maxRecDepth 1000000
set_option maxHeartbeats 0
noncomputable section
namespace Go.Proofs.YtljlfiomikifjaaGreatDoor
open Go Go.Ab
open Go.Proofs.Tryz
def strings_ReplaceAll (s p q:ByteArray):Bool×ByteArray:=zqu s p q
def zC0:Ab.Spec ty:=zh (cx:=zbH) (zc (ze zAl) (zc (ze zAl) (zc (ze zAl) zo))) λx=>((strings_ReplaceAll x.1 x.2.1 x.2.2.1).1,⟨[.pure (.lit (.string (strings_ReplaceAll x.1 x.2.1 x.2.2.1).2))],[]⟩)
theorem zPD:Sound Tryz.prog zbH 228 zC0:=z7n zQi rfl Go.Proofs.Tryz.lays155 Go.Proofs.Tryz.Builder_Extra_155 call228 (λ_ h=>h.2)
def z7G:=zbl zbH 27 [(164,zx7),(227,zvy),(228,zC0)]
def zUw (v:Value):Wy0 (ByteArray):=.bn (zvs v) λr2=>.i (!r2) (.k (ByteArray.mk #[])) (.i (v.Kind==0) (.bn (zjs v.Int 10) λr0=>.k r0) (.i (v.Kind==1) (.bn (strings_ReplaceAll v.Text (ByteArray.mk #[(39:UInt8)]) (ByteArray.mk #[(39:UInt8),(39:UInt8)])) λr1=>.i (decide ((ByteArray.mk #[(39:UInt8)]).size+r1.size<=9223372036854775807)) (.i (decide ((ByteArray.mk #[(39:UInt8)]++r1).size+(ByteArray.mk #[(39:UInt8)]).size<=9223372036854775807)) (.k (ByteArray.mk #[(39:UInt8)]++r1++ByteArray.mk #[(39:UInt8)])) .d) .d) (.i (v.Int==1) (.k (ByteArray.mk #[(84:UInt8),(82:UInt8),(85:UInt8),(69:UInt8)])) (.k (ByteArray.mk #[(70:UInt8),(65:UInt8),(76:UInt8),(83:UInt8),(69:UInt8)])))))
def zxb (v:Value):=(zUw v).fin default
def z9Z:AL zbH (Value×Unit):=zc (ze (zcl 65)) zo
def zML:=zh z9Z λx=>((zxb x.1).1,zZx (zxb x.1).2)
theorem z1z:Sound Tryz.prog zbH 197 zML:=
 sU (cx':=z7G) (zi ⟨zDf.nodr,zCR.nodr,zPD,trivial⟩) call197 func197 (lOK aN)
abbrev zlB:=Unit×Unit×yE×Int×Int×Unit
abbrev zlj:=At×List ByteArray×Unit
abbrev zBJ:=At×List ByteArray
def zgb (zbC:yC->Bool×ByteArray) (t48:yE) (t49:Int) (t50:Int) (x_:At) (items:List ByteArray):Wy zlB zlj zBJ:=.i (decide (t50<t49)) (.i (decide (0<=t50)&&decide (t50<Int.ofNat t48.length)) (.bn (zxb (t48.getD t50.toNat default).Value) λr1=>.i (decide (r1.size+(ByteArray.mk #[(58:UInt8),(32:UInt8)]).size<=9223372036854775807)) (.bn (zbC (t48.getD t50.toNat default).Ann) λr0=>.i (decide ((r1++ByteArray.mk #[(58:UInt8),(32:UInt8)]).size+r0.size<=9223372036854775807)) (.i (decide ((items.length+[r1++ByteArray.mk #[(58:UInt8),(32:UInt8)]++r0].length)*16<=zG)) (.h ((),(),t48,t49,(IntKind.i64.wrap (t50+1)),()) (x_,(items++[r1++ByteArray.mk #[(58:UInt8),(32:UInt8)]++r0]),())) .d) .d) .d) .d) (.k (x_,items))
def zn0 (zbC:yC->Bool×ByteArray) (x:zlB) (y:zlj):=zgb zbC x.2.2.1 x.2.2.2.1 x.2.2.2.2.1 y.1 y.2.1
def zxQ (zbC:yC->Bool×ByteArray) (n:Nat) (t48:yE) (t49:Int) (t50:Int) (x_:At) (items:List ByteArray):=zy (zn0 zbC) default n ((),(),t48,t49,t50,()) (x_,items,())
def zJC (r:zBJ):LTree ty:=.done (.exit 1) [.ptr 360 0,.own 361] [.box (base.enc 67 r.1) false,.arr 9 r.2 false]
def zKV:LL ty zlB:=za (zdR 360 0) (za (zdh 361) (za (lSl 100) (za zj (za zj zk))))
def zKU:BL ty zlj:=zff (zeK (λx=>(⟨x.1,⟨x.2.1,x.2.2.1⟩,x.2.2.2.1,x.2.2.2.2.1,x.2.2.2.2.2.1,x.2.2.2.2.2.2.1,⟨x.2.2.2.2.2.2.2.1,x.2.2.2.2.2.2.2.2.1,x.2.2.2.2.2.2.2.2.2.1⟩⟩:At)) (λx=>(x.Kind,x.Row.Table,x.Row.Seq,x.Ag,x.Func,x.Items,x.Op,x.Bd.Kind,x.Bd.Int,x.Bd.Text,())) (λ_=>rfl) (za (zI .i64) (za (zI .i64) (za (zI .i64) (za (lSl 23) (za (zI .i64) (za (lSl 100) (za (zI .i64) (za (zI .i64) (za (zI .i64) (za znV zk))))))))))) false (zdj 9 false (z6))
def zIG (x:zlB) (y:zlj):Nat:=(x.2.2.1.length+Int.toNat x.2.2.2.1+Int.toNat x.2.2.2.2.1+y.1.Ag.length+y.1.Items.length+y.2.1.length+1)
def zzf (zbC:yC->Bool×ByteArray):=zbY zbH 90 [(169,zv0),(195,zJS),(196,(zv5 zbC)),(197,zML),(198,zAH),(199,zAP)] [] [(12,[(1,.keep),(3,.own 9),(48,.keep),(49,.keep),(50,.keep)])] [(12,2,(kpL [1,3]))] [(12,spW zKV zKU (zn0 zbC) default zJC zIG)] []
theorem zJw (zbC:yC->Bool×ByteArray):zA (zzf zbC) (lp (body f167) 0):=zp (id:=12) (hl:=rfl)
def zAN (zbC:yC->Bool×ByteArray) (x_:At):Wy0 (ByteArray):=.i (x_.Kind==0) (.bn (zzP x_.Row) λr4=>.k r4) (.i (x_.Kind==1) (.i (decide ((0:Int)<=(0:Int))&&decide (0<Int.ofNat x_.Ag.length)) (.bn (zbC (x_.Ag.getD (Int.toNat 0) default)) λr6=>.i (decide ((ByteArray.mk #[(109:UInt8),(111:UInt8),(110:UInt8),(117:UInt8),(115:UInt8),(91:UInt8)]).size+r6.size<=9223372036854775807)) (.i (decide ((ByteArray.mk #[(109:UInt8),(111:UInt8),(110:UInt8),(117:UInt8),(115:UInt8),(91:UInt8)]++r6).size+(ByteArray.mk #[(44:UInt8),(32:UInt8)]).size<=9223372036854775807)) (.i (decide ((0:Int)<=(1:Int))&&decide (1<Int.ofNat x_.Ag.length)) (.bn (zbC (x_.Ag.getD (Int.toNat 1) default)) λr5=>.i (decide ((ByteArray.mk #[(109:UInt8),(111:UInt8),(110:UInt8),(117:UInt8),(115:UInt8),(91:UInt8)]++r6++ByteArray.mk #[(44:UInt8),(32:UInt8)]).size+r5.size<=9223372036854775807)) (.i (decide ((ByteArray.mk #[(109:UInt8),(111:UInt8),(110:UInt8),(117:UInt8),(115:UInt8),(91:UInt8)]++r6++ByteArray.mk #[(44:UInt8),(32:UInt8)]++r5).size+(ByteArray.mk #[(93:UInt8)]).size<=9223372036854775807)) (.k (ByteArray.mk #[(109:UInt8),(111:UInt8),(110:UInt8),(117:UInt8),(115:UInt8),(91:UInt8)]++r6++ByteArray.mk #[(44:UInt8),(32:UInt8)]++r5++ByteArray.mk #[(93:UInt8)])) .d) .d) .d) .d) .d) .d) (.i (x_.Kind==2) (.i (decide ((0:Int)<=(0:Int))&&decide (0<Int.ofNat x_.Ag.length)) (.bn (zbC (x_.Ag.getD (Int.toNat 0) default)) λr7=>.i (decide ((ByteArray.mk #[(100:UInt8),(101:UInt8),(108:UInt8),(116:UInt8),(97:UInt8),(91:UInt8)]).size+r7.size<=9223372036854775807)) (.i (decide ((ByteArray.mk #[(100:UInt8),(101:UInt8),(108:UInt8),(116:UInt8),(97:UInt8),(91:UInt8)]++r7).size+(ByteArray.mk #[(93:UInt8)]).size<=9223372036854775807)) (.k (ByteArray.mk #[(100:UInt8),(101:UInt8),(108:UInt8),(116:UInt8),(97:UInt8),(91:UInt8)]++r7++ByteArray.mk #[(93:UInt8)])) .d) .d) .d) (.i (x_.Kind==3) (.i (decide ((0:Int)<=(0:Int))&&decide (0<Int.ofNat x_.Ag.length)) (.bn (zbC (x_.Ag.getD (Int.toNat 0) default)) λr8=>.i (decide ((ByteArray.mk #[(97:UInt8),(98:UInt8),(115:UInt8),(101:UInt8),(110:UInt8),(116:UInt8),(91:UInt8)]).size+r8.size<=9223372036854775807)) (.i (decide ((ByteArray.mk #[(97:UInt8),(98:UInt8),(115:UInt8),(101:UInt8),(110:UInt8),(116:UInt8),(91:UInt8)]++r8).size+(ByteArray.mk #[(93:UInt8)]).size<=9223372036854775807)) (.k (ByteArray.mk #[(97:UInt8),(98:UInt8),(115:UInt8),(101:UInt8),(110:UInt8),(116:UInt8),(91:UInt8)]++r8++ByteArray.mk #[(93:UInt8)])) .d) .d) .d) (.bn (zxQ zbC (x_.Items.length+(Int.ofNat x_.Items.length).toNat +Int.toNat 0+x_.Ag.length+x_.Items.length+0+1) x_.Items (Int.ofNat x_.Items.length) 0 (At.mk x_.Kind x_.Row x_.Ag x_.Func x_.Items x_.Op x_.Bd) []) λr11=>.i (decide (0<=r11.1.Func)&&decide (r11.1.Func<Int.ofNat zce.2.length)) (.i (decide ((ByteArray.mk #[(116:UInt8),(101:UInt8),(115:UInt8),(116:UInt8),(91:UInt8)]).size+ByteArray.size (zce.2.getD r11.1.Func.toNat default)<=9223372036854775807)) (.i (decide ((ByteArray.mk #[(116:UInt8),(101:UInt8),(115:UInt8),(116:UInt8),(91:UInt8)]++zce.2.getD r11.1.Func.toNat default).size+(ByteArray.mk #[(123:UInt8)]).size<=9223372036854775807)) (.bn (strings_Join r11.2 (ByteArray.mk #[(59:UInt8),(32:UInt8)])) λr10=>.i (decide ((ByteArray.mk #[(116:UInt8),(101:UInt8),(115:UInt8),(116:UInt8),(91:UInt8)]++zce.2.getD r11.1.Func.toNat default++ByteArray.mk #[(123:UInt8)]).size+r10.size<=9223372036854775807)) (.i (decide ((ByteArray.mk #[(116:UInt8),(101:UInt8),(115:UInt8),(116:UInt8),(91:UInt8)]++zce.2.getD r11.1.Func.toNat default++ByteArray.mk #[(123:UInt8)]++r10).size+(ByteArray.mk #[(125:UInt8),(32:UInt8)]).size<=9223372036854775807)) (.i (decide (0<=IntKind.i64.wrap (r11.1.Op - 5))&&decide (IntKind.i64.wrap (r11.1.Op - 5)<Int.ofNat zdQ.2.length)) (.i (decide ((ByteArray.mk #[(116:UInt8),(101:UInt8),(115:UInt8),(116:UInt8),(91:UInt8)]++zce.2.getD r11.1.Func.toNat default++ByteArray.mk #[(123:UInt8)]++r10++ByteArray.mk #[(125:UInt8),(32:UInt8)]).size+ByteArray.size (zdQ.2.getD (IntKind.i64.wrap (r11.1.Op - 5)).toNat default)<=9223372036854775807)) (.i (decide ((ByteArray.mk #[(116:UInt8),(101:UInt8),(115:UInt8),(116:UInt8),(91:UInt8)]++zce.2.getD r11.1.Func.toNat default++ByteArray.mk #[(123:UInt8)]++r10++ByteArray.mk #[(125:UInt8),(32:UInt8)]++zdQ.2.getD (IntKind.i64.wrap (r11.1.Op - 5)).toNat default).size+(ByteArray.mk #[(32:UInt8)]).size<=9223372036854775807)) (.bn (zxb r11.1.Bd) λr9=>.i (decide ((ByteArray.mk #[(116:UInt8),(101:UInt8),(115:UInt8),(116:UInt8),(91:UInt8)]++zce.2.getD r11.1.Func.toNat default++ByteArray.mk #[(123:UInt8)]++r10++ByteArray.mk #[(125:UInt8),(32:UInt8)]++zdQ.2.getD (IntKind.i64.wrap (r11.1.Op - 5)).toNat default++ByteArray.mk #[(32:UInt8)]).size+r9.size<=9223372036854775807)) (.i (decide ((ByteArray.mk #[(116:UInt8),(101:UInt8),(115:UInt8),(116:UInt8),(91:UInt8)]++zce.2.getD r11.1.Func.toNat default++ByteArray.mk #[(123:UInt8)]++r10++ByteArray.mk #[(125:UInt8),(32:UInt8)]++zdQ.2.getD (IntKind.i64.wrap (r11.1.Op - 5)).toNat default++ByteArray.mk #[(32:UInt8)]++r9).size+(ByteArray.mk #[(93:UInt8)]).size<=9223372036854775807)) (.k (ByteArray.mk #[(116:UInt8),(101:UInt8),(115:UInt8),(116:UInt8),(91:UInt8)]++zce.2.getD r11.1.Func.toNat default++ByteArray.mk #[(123:UInt8)]++r10++ByteArray.mk #[(125:UInt8),(32:UInt8)]++zdQ.2.getD (IntKind.i64.wrap (r11.1.Op - 5)).toNat default++ByteArray.mk #[(32:UInt8)]++r9++ByteArray.mk #[(93:UInt8)])) .d) .d) .d) .d) .d) .d) .d) .d) .d) .d))))
def zi7 (zbC:yC->Bool×ByteArray) (x_:At):=(zAN zbC x_).fin default
theorem zHG (zbC:yC->Bool×ByteArray) (zZo:Sound Tryz.prog zbH 196 (zv5 zbC)):Sound Tryz.prog zbH 167 (zmA (zi7 zbC)):=
 sU (cx':=(zzf zbC)) (zi ⟨zBv,zZk.nodr,zZo,z1z,zL6.nodr,zLV.nodr,trivial⟩) call167 func167 (lOK (aC (zJw zbC) aN))
abbrev zjJ:=Unit×yD×Int×Int×Unit
abbrev zjy:=List ByteArray×Unit
def zfs (zbn:At->Bool×ByteArray) (t7:yD) (t8:Int) (t9:Int) (out_:List ByteArray):Wy zjJ zjy (List ByteArray):=.i (decide (t9<t8)) (.i (decide (0<=t9)&&decide (t9<Int.ofNat t7.length)) (.bn (zbn (At.mk (t7.getD t9.toNat default).At.Kind (t7.getD t9.toNat default).At.Row (t7.getD t9.toNat default).At.Ag (t7.getD t9.toNat default).At.Func (t7.getD t9.toNat default).At.Items (t7.getD t9.toNat default).At.Op (t7.getD t9.toNat default).At.Bd)) λr1=>.i ((t7.getD t9.toNat default).Exp != 1) (.bn (strconv_Itoa (t7.getD t9.toNat default).Exp) λr0=>.i (decide ((ByteArray.mk #[(94:UInt8)]).size+r0.size<=9223372036854775807)) (.i (decide (r1.size+(ByteArray.mk #[(94:UInt8)]++r0).size<=9223372036854775807)) (.i (decide ((out_.length+[r1++(ByteArray.mk #[(94:UInt8)]++r0)].length)*16<=zG)) (.h ((),t7,t8,(IntKind.i64.wrap (t9+1)),()) ((out_++[r1++(ByteArray.mk #[(94:UInt8)]++r0)]),())) .d) .d) .d) (.i (decide ((out_.length+[r1].length)*16<=zG)) (.h ((),t7,t8,(IntKind.i64.wrap (t9+1)),()) ((out_++[r1]),())) .d)) .d) (.k out_)
def zme (zbn:At->Bool×ByteArray) (x:zjJ) (y:zjy):=zfs zbn x.2.1 x.2.2.1 x.2.2.2.1 y.1
def zvI (zbn:At->Bool×ByteArray) (n:Nat) (t7:yD) (t8:Int) (t9:Int) (out_:List ByteArray):=zy (zme zbn) default n ((),t7,t8,t9,()) (out_,())
def zHq (r:List ByteArray):LTree ty:=.done (.exit 0) [.own 128] [.arr 9 r false]
def zHS:LL ty zjJ:=za (zdh 128) (za (lSl 69) (za zj (za zj zk)))
def zHR:BL ty zjy:=zdj 9 false (z6)
def zHp (x:zjJ) (y:zjy):Nat:=(x.2.1.length+Int.toNat x.2.2.1+Int.toNat x.2.2.2.1+y.1.length+1)
def zvM (zbn:At->Bool×ByteArray):=zbY zbH 32 [(167,(zmA zbn)),(168,zDy),(169,zv0)] [] [(3,[(3,.own 9),(7,.keep),(8,.keep),(9,.keep)])] [(3,1,(kpL [3]))] [(3,spW zHS zHR (zme zbn) default zHq zHp)] []
theorem zGd (zbn:At->Bool×ByteArray):zA (zvM zbn) (lp (body f139) 0):=zp (id:=3) (hl:=rfl)
def zxc (zbn:At->Bool×ByteArray) (l:yD):Wy0 (ByteArray):=.bn (zvI zbn (l.length+(Int.ofNat l.length).toNat +Int.toNat 0+0+1) l (Int.ofNat l.length) 0 []) λr5=>.bn (strings_Join r5 (ByteArray.mk #[(42:UInt8)])) λr4=>.k r4
def zgI (zbn:At->Bool×ByteArray) (l:yD):=(zxc zbn l).fin default
theorem zEI (zbn:At->Bool×ByteArray) (zNS:Sound Tryz.prog zbH 167 (zmA zbn)):Sound Tryz.prog zbH 139 (zgD (zgI zbn)):=
 sU (cx':=(zvM zbn)) (zi ⟨zNS,zKC.nodr,zBv,trivial⟩) call139 func139 (lOK (aC (zGd zbn) aN))
abbrev zt0:=Unit×yC×Int×Int×Unit
abbrev ztV:=List ByteArray×Unit
def zlN (zY:yD->Bool×ByteArray) (t9:yC) (t10:Int) (t11:Int) (out_:List ByteArray):Wy zt0 ztV (List ByteArray):=.i (decide (t11<t10)) (.i (decide (0<=t11)&&decide (t11<Int.ofNat t9.length)) (.i (Int.ofNat (t9.getD t11.toNat default).Fs.length==0) (.bn (zjs (t9.getD t11.toNat default).Cf 10) λr0=>.i (decide ((out_.length+[r0].length)*16<=zG)) (.h ((),t9,t10,(IntKind.i64.wrap (t11+1)),()) ((out_++[r0]),())) .d) (.i ((t9.getD t11.toNat default).Cf==1) (.bn (zY (t9.getD t11.toNat default).Fs) λr1=>.i (decide ((out_.length+[r1].length)*16<=zG)) (.h ((),t9,t10,(IntKind.i64.wrap (t11+1)),()) ((out_++[r1]),())) .d) (.bn (zjs (t9.getD t11.toNat default).Cf 10) λr3=>.i (decide (r3.size+(ByteArray.mk #[(42:UInt8)]).size<=9223372036854775807)) (.bn (zY (t9.getD t11.toNat default).Fs) λr2=>.i (decide ((r3++ByteArray.mk #[(42:UInt8)]).size+r2.size<=9223372036854775807)) (.i (decide ((out_.length+[r3++ByteArray.mk #[(42:UInt8)]++r2].length)*16<=zG)) (.h ((),t9,t10,(IntKind.i64.wrap (t11+1)),()) ((out_++[r3++ByteArray.mk #[(42:UInt8)]++r2]),())) .d) .d) .d))) .d) (.k out_)
def zyO (zY:yD->Bool×ByteArray) (x:zt0) (y:ztV):=zlN zY x.2.1 x.2.2.1 x.2.2.2.1 y.1
def zGE (zY:yD->Bool×ByteArray) (n:Nat) (t9:yC) (t10:Int) (t11:Int) (out_:List ByteArray):=zy (zyO zY) default n ((),t9,t10,t11,()) (out_,())
def zVe (r:List ByteArray):LTree ty:=.done (.exit 0) [.own 200] [.arr 9 r false]
def zVH:LL ty zt0:=za (zdh 200) (za (lSl 28) (za zj (za zj zk)))
def zXe:BL ty ztV:=zdj 9 false (z6)
def zVz (x:zt0) (y:ztV):Nat:=(x.2.1.length+Int.toNat x.2.2.1+Int.toNat x.2.2.2.1+y.1.length+1)
def zGZ (zY:yD->Bool×ByteArray):=zbY zbH 50 [(139,(zgD zY)),(169,zv0),(227,zvy)] [] [(5,[(3,.own 9),(9,.keep),(10,.keep),(11,.keep)])] [(5,1,(kpL [3]))] [(5,spW zVH zXe (zyO zY) default zVe zVz)] []
theorem zU7 (zY:yD->Bool×ByteArray):zA (zGZ zY) (lp (body f196) 0):=zp (id:=5) (hl:=rfl)
def zHW (zY:yD->Bool×ByteArray) (a:yC):Wy0 (ByteArray):=.i (Int.ofNat a.length==0) (.k (ByteArray.mk #[(48:UInt8)])) (.bn (zGE zY (a.length+(Int.ofNat a.length).toNat +Int.toNat 0+0+1) a (Int.ofNat a.length) 0 []) λr9=>.bn (strings_Join r9 (ByteArray.mk #[(32:UInt8),(43:UInt8),(32:UInt8)])) λr8=>.k r8)
def zpx (zY:yD->Bool×ByteArray) (a:yC):=(zHW zY a).fin default
theorem zRd (zY:yD->Bool×ByteArray) (zJq:Sound Tryz.prog zbH 139 (zgD zY)):Sound Tryz.prog zbH 196 (zv5 (zpx zY)):=
 sU (cx':=(zGZ zY)) (zi ⟨zJq,zBv,zCR.nodr,trivial⟩) call196 func196 (lOK (aC (zU7 zY) aN))
def zIY:Nat->(yC->Bool×ByteArray)×(At->Bool×ByteArray)×(yD->Bool×ByteArray)
 | 0=>(λ_=>(false,default),λ_=>(false,default),λ_=>(false,default))
 | n+1=>(zpx ((zIY n).2.2),zi7 ((zIY n).1),zgI ((zIY n).2.1))
def zv7 (n:Nat):yC->Bool×ByteArray:=(zIY n).1
def zmx (n:Nat):At->Bool×ByteArray:=(zIY n).2.1
def zgH (n:Nat):yD->Bool×ByteArray:=(zIY n).2.2
theorem zXx (n:Nat):zv7 (n+1)=zpx (zgH n):=rfl
theorem zLu (n:Nat):zmx (n+1)=zi7 (zv7 n):=rfl
theorem zHK (n:Nat):zgH (n+1)=zgI (zmx n):=rfl
theorem z9f:∀ n,Sound Tryz.prog zbH 196 (zv5 (zv7 n))/\Sound Tryz.prog zbH 167 (zmA (zmx n))/\Sound Tryz.prog zbH 139 (zgD (zgH n))
 | 0=>⟨z8 call196 (λ_=>rfl),z8 call167 (λ_=>rfl),z8 call139 (λ_=>rfl)⟩
 | n+1=>by
  have ih:=z9f n;exact ⟨zRd _ (ih.2.2),zHG _ (ih.1),zEI _ (ih.2.1)⟩
def zrs:yD->Bool×ByteArray:=zgH 1000
def zvN:Ab.Spec ty:=zgD zrs
theorem zF6:Sound Tryz.prog zbH 139 zvN:=(z9f 1000).2.2
def zlw (x:yC) (a b lim:Int):Bool×yC:=z2L zb8 x a b lim
def zCw:Ab.Spec ty:=zh (cx:=base) (zc (zka 28) (zc (ze (zgG .i64)) (zc (ze (zgG .i64)) (zc (ze (zgG .i64)) (zc (ze (vFn 63 zbT)) zo))))) λx=>((zlw x.1 x.2.1 x.2.2.1 x.2.2.2.1).1,⟨[],[some ⟨28,(zlw x.1 x.2.1 x.2.2.1 x.2.2.2.1).2⟩]⟩)
theorem zDE (c:Unit) (x y:Term) (h:(zb8 x y).1=true):ziS ((AV.agg (base.enc 28 x)::AV.agg (base.enc 28 y)::(zbT:VL base Unit).enc c).map Arg.pure)=some (true,⟨[.pure (.lit (.int .i64 (zb8 x y).2))],[]⟩):=by
 rw [<- h]; kernel_rfl
theorem zBC:SdP 155 zCw:=by
 letI:DecidableEq (ty 28):=inferInstanceAs (DecidableEq Term)
 exact z8d (T:=28) zfi rfl Go.Proofs.Tryz.pdqTerm Tryz.isAgg28 (by unfold zu; exact Tryz.sizeOf28) call155 zmn zbT (λc=>zb8) zDE
open Go.Proofs Go.RowKit
def zbZ (x:yC):Bool×yC:=zu7 zb8 x
def zfh:Ab.Spec ty:=zh (cx:=base) (zc (zka 28) (zc (ze (vFn 63 zbT)) zo)) λx=>((zbZ x.1).1,⟨[],[some ⟨28,(zbZ x.1).2⟩]⟩)
set_option maxHeartbeats 1000000 in
theorem zuP:SdP 96 zfh where
 enters:=call96
 calls:=λavs r hsp w F vs hF ha hsep=>by
  unfold zfh zh at hsp;split at hsp
  ·rename_i x hx;simp only [qa,qb] at hsp;obtain ⟨hpre,rfl⟩:=hsp;have hk:=(zc (zka 28) (zc (ze (vFn 63 zbT)) zo):AL base _).kind vs avs x hx;have ha':=(zc (zka 28) (zc (ze (vFn 63 zbT)) zo):AL base _).ok Tryz.prog zfi F w vs avs x hx ha;rw [hk] at hsep ⊢;clear hk hx ha;obtain ⟨l0,c,u0⟩:=x;obtain ⟨l,rfl⟩:∃ l:yC,l=l0:=⟨l0,rfl⟩;obtain ⟨v,vs',rfl,hv,hv'⟩:=ha'.inv;obtain ⟨fv,vs'',rfl,hfv,h0⟩:=hv'.inv;obtain rfl:=h0.nil_left.1
   have hsl:∃ p cap,v=.slice p l.length cap:=by
    obtain ⟨⟨xs,hown,_⟩,_⟩:=(show zcT base F w v 28 l/\∀ b,zbk v=some b->¬ F b from hv)
    rcases hown.2 with ⟨h1,h2⟩ | ⟨g0,cap,cur,h1,_⟩
    ·exact ⟨none,0,by rw [h1,show l.length=0 from h2]⟩
    ·exact ⟨_,cap,h1⟩
   have hok:SortOK (α:=Term) zb8 l:=of_decide_eq_true (p:=SortOK (α:=Term) zb8 l) hpre;have hlen:l.length<4611686018427387904:=hok.size;have hbl:Lib.bitLen l.length<4611686018427387904:=Nat.lt_of_le_of_lt (Lib.bitLen_le l.length 62 (by omega) (by omega)) (by omega)
   have hpp:(zlw l 0 (l.length:Int) ((Lib.bitLen l.length:Nat):Int)).1=true:=by
    show (decide (SortOK (α:=Term) zb8 l)&&(decide ((0:Int)=0)&&(decide ((l.length:Int)=l.length)&&(decide ((0:Int)<=((Lib.bitLen l.length:Nat):Int))&&decide (((Lib.bitLen l.length:Nat):Int)<4611686018427387904)))))=true;simp only [qc,qe];exact ⟨hok,trivial,trivial,by omega,by omega⟩
   have hp:=(zBC).calls [.own 28 l,.pure (.lit (.int .i64 0)),.pure (.lit (.int .i64 (l.length:Int))),.pure (.lit (.int .i64 ((Lib.bitLen l.length:Nat):Int))),.pure (.fn 63 [])] ⟨[],[some ⟨28,(zbZ l).2⟩]⟩
    (by rw [<- hpp]; kernel_rfl) w F [v,.int .i64 0,.int .i64 (l.length:Int),.int .i64 ((Lib.bitLen l.length:Nat):Int),fv] hF (.cons hv (.cons (Rep.lit _) (.cons (Rep.lit _) (.cons (Rep.lit _) (.cons hfv .nil))))) hsep
   replace hp:Calls Tryz.prog 155 #[v,.int .i64 0,.int .i64 (l.length:Int),.int .i64 ((Lib.bitLen l.length:Nat):Int),fv] w λe w'=>∃ u,e=.returned u/\Post base F w [v] ⟨[],[some ⟨28,(zbZ l).2⟩]⟩ u w':=hp
   show Calls Tryz.prog 96 #[v,fv] w λe w'=>∃ u,e=.returned u/\Post base F w [v] ⟨[],[some ⟨28,(zbZ l).2⟩]⟩ u w'
   have hb:Calls Tryz.prog 156 #[.int .u64 (l.length:Int)] w λe w'=>e=.returned (.int .i64 ((Lib.bitLen l.length:Nat):Int))/\w'=w:=by
    have h:=Any.bits_Len Go.Proofs.Tryz.lays125 (l.length:Int) w (by omega) (by omega)
    rwa [Int.toNat_natCast] at h
   have wr:IntKind.u64.wrap (l.length:Int)=l.length:=by simp [IntKind.wrap,IntKind.bits,IntKind.signed]; omega
   generalize (zbZ l).2=res at hp ⊢;generalize hn:l.length=m at *;generalize Lib.bitLen m=bl at *;clear hpp hv hfv hsep hok hpre hF;obtain ⟨p,cap,rfl⟩:=hsl;clear hn
   go_enter func96,ntmps96
   go_wp2_with (first | (go_at_call 156; refine hb.mono ?_; rintro e w' ⟨rfl,rfl⟩) | (go_at_call 155; refine hp.mono ?_; rintro e w' ⟨u,rfl,hpost⟩; obtain rfl:=hpost.unit))
   go_end0
   exact ⟨_,rfl,hpost⟩
  ·cases hsp
end Go.Proofs.YtljlfiomikifjaaGreatDoor
namespace Go.Proofs.YtljlfiomikifjaaGreatDoor
open Go Go.Ab
open Go.Proofs.Tryz
abbrev zoq:=Unit×Unit×yC×Int×Int×Unit
abbrev zor:=(List (_root_.Go.Value×Int))×yC×Unit
def zkH (t11:yC) (t12:Int) (t13:Int) (at_:List (_root_.Go.Value×Int)) (out_:yC):Wy zoq zor (yC):=.i (decide (t13<t12)) (.i (decide (0<=t13)&&decide (t13<Int.ofNat t11.length)) (.bn (zrs (t11.getD t13.toNat default).Fs) λr0=>.i (zbh0 (Value.string r0) at_) (.i (decide (0<=(zGo (Value.string r0) at_).getD 0)&&decide ((zGo (Value.string r0) at_).getD 0<Int.ofNat out_.length)) (.i (decide (0<=(zGo (Value.string r0) at_).getD 0)&&decide ((zGo (Value.string r0) at_).getD 0<Int.ofNat out_.length)) (.i (decide (Int.toNat ((zGo (Value.string r0) at_).getD 0)<out_.length)) (.h ((),(),t11,t12,(IntKind.i64.wrap (t13+1)),()) (at_,(out_.set (Int.toNat ((zGo (Value.string r0) at_).getD 0)) (TO.mk (if 1152921504606846976<IntKind.i64.wrap ((out_.getD (Int.toNat ((zGo (Value.string r0) at_).getD 0)) default).Cf+(t11.getD t13.toNat default).Cf) then 1152921504606846976 else IntKind.i64.wrap ((out_.getD (Int.toNat ((zGo (Value.string r0) at_).getD 0)) default).Cf+(t11.getD t13.toNat default).Cf)) (out_.getD (Int.toNat ((zGo (Value.string r0) at_).getD 0)) default).Fs)),())) .d) .d) .d) (.i (decide ((out_.length+[t11.getD t13.toNat default].length)*32<=zG)) (.h ((),(),t11,t12,(IntKind.i64.wrap (t13+1)),()) ((zbhO (Value.string r0) (Int.ofNat out_.length) at_),(out_++[t11.getD t13.toNat default]),())) .d)) .d) (.k out_)
def zwK (x:zoq) (y:zor):=zkH x.2.2.1 x.2.2.2.1 x.2.2.2.2.1 y.1 y.2.1
def zwi (n:Nat) (t11:yC) (t12:Int) (t13:Int) (at_:List (_root_.Go.Value×Int)) (out_:yC):=zy (zwK) default n ((),(),t11,t12,t13,()) (at_,out_,())
def zSu (r:yC):LTree ty:=.done (.exit 0) [.own 208] [.arr 28 r false]
def zVu:LL ty zoq:=za (lMp 208) (za (zdh 209) (za (lSl 28) (za zj (za zj zk))))
def zUP:BL ty zor:=bMp 9 3 false (zdj 28 false (z6))
def zSS (x:zoq) (y:zor):Nat:=(x.2.2.1.length+Int.toNat x.2.2.2.1+Int.toNat x.2.2.2.2.1+y.1.length+y.2.1.length+1)
def zFB:=zbY zbH 52 [(63,ziS),(96,zfh),(139,zvN)] [(96,[true,false])] [(4,[(3,.keep),(4,.own 28),(11,.keep),(12,.keep),(13,.keep)])] [(4,1,(kpL [4]))] [(4,spW zVu zUP (zwK) default zSu zSS)] []
theorem zSr:zA zFB (lp (body f71) 0):=zp (id:=4) (hl:=rfl)
def zGB (terms:yC):Wy0 (yC):=.bn (zwi (terms.length+(Int.ofNat terms.length).toNat +Int.toNat 0+0+0+1) terms (Int.ofNat terms.length) 0 [] []) λr3=>.bn (zbZ r3) λr2=>.k r2
def zim (terms:yC):=(zGB terms).fin default
def zSt (r:yC):ARes ty:=⟨[.own 28 r],[]⟩
def ztD:=zh z3K λx=>((zim x.1).1,zSt (zim x.1).2)
theorem zBV:Sound Tryz.prog zbH 71 ztD:=
 sU (cx':=zFB) (zi ⟨zmn.nodr,zuP.nodr,zF6,trivial⟩) call71 func71 (lOK (aC zSr aN)) (sg:=⟨[.own 28],[]⟩)
def zmX (F:yC->Bool×yC):Ab.Spec ty:=zh z2g λx=>((F x.1).1,zSt (F x.1).2)
def zNv (r:At):ARes ty:=⟨[.pure (.agg (base.enc 67 r))],[]⟩
def zmv (F:At->Bool×At):Ab.Spec ty:=zh zDM λx=>((F x.1).1,zNv (F x.1).2)
def zeL:Cx ty:={ base with nt:=8 }
def zc7 (s:yD):Bool×yD:=(decide (s.length*128<=zG),s)
def zgt:Ab.Spec ty:=zh (cx:=base) (zc (ze (vSl 69)) zo) λx=>((zc7 x.1).1,⟨[.own 69 (zc7 x.1).2],[]⟩)
theorem zy6:zgv zeL f95 (body f95) ⟨[.own 69],[]⟩ [.pure (.lit (.slice none 0 0))]=some ⟨[.own 69 []],[]⟩:=by kernel_rfl
theorem zxz (p:Addr) (c:Nat):zgv zeL f95 (body f95) ⟨[.own 69],[]⟩ [.pure (.lit (.slice (some p) 0 c))]=some ⟨[.own 69 []],[]⟩:=by kernel_rfl
theorem zyK (l:yD):zgv zeL f95 (body f95) ⟨[.own 69],[]⟩ [.pure (.sl 69 l)]=bif !l.isEmpty then bif decide ((([]:List (ty 69)).length+l.length)*128<=zG) then some ⟨[.own 69 l],[]⟩ else none else none:=by kernel_rfl
theorem zld:SdP 95 zgt:=
 zJK (cx':=zeL) (bytes:=128) zGn zfi ⟨⟨rfl,rfl,rfl,rfl,rfl,rfl⟩,rfl⟩ (λg s h=>by cases h) call95 func95 (c:=body f95) (by kernel_rfl) (zCB (l:=[]) (by kernel_rfl) trivial) zy6 zxz zyK (by kernel_rfl)
abbrev zp4:=Unit×Unit×Unit×yC×Int×Int×Int×Int×Unit
abbrev zp7:=yC×Term×yD×Unit
abbrev zGJ:=yC×Int×Int×yC×Term×yD
abbrev zp6:=Unit×yC×Int×Int×Unit
abbrev zpV:=yC×Unit
def zjS (zO:At->Bool×At) (t8:yC) (t9:Int) (t10:Int) (t18:Int) (t19:Int) (out_:yC) (t:Term) (factors:yD):Wy zp4 zp7 zGJ:=.i (decide (t19<t18)) (.i (decide (0<=t19)&&decide (t19<Int.ofNat factors.length)) (.bn (zO (At.mk (factors.getD t19.toNat default).At.Kind (factors.getD t19.toNat default).At.Row (factors.getD t19.toNat default).At.Ag (factors.getD t19.toNat default).At.Func (factors.getD t19.toNat default).At.Items (factors.getD t19.toNat default).At.Op (factors.getD t19.toNat default).At.Bd)) λr2=>.i (decide (0<=t19)&&decide (t19<Int.ofNat factors.length)) (.i (decide (t19.toNat<factors.length)) (.h ((),(),(),t8,t9,t10,t18,(IntKind.i64.wrap (t19+1)),()) (out_,t,(factors.set t19.toNat (FO.mk (At.mk r2.Kind r2.Row r2.Ag r2.Func r2.Items r2.Op r2.Bd) (factors.getD t19.toNat default).Exp)),())) .d) .d) .d) (.k (t8,t9,t10,out_,t,factors))
def zu6 (zO:At->Bool×At) (x:zp4) (y:zp7):=zjS zO x.2.2.2.1 x.2.2.2.2.1 x.2.2.2.2.2.1 x.2.2.2.2.2.2.1 x.2.2.2.2.2.2.2.1 y.1 y.2.1 y.2.2.1
def zDG (zO:At->Bool×At) (n:Nat) (t8:yC) (t9:Int) (t10:Int) (t18:Int) (t19:Int) (out_:yC) (t:Term) (factors:yD):=zy (zu6 zO) default n ((),(),(),t8,t9,t10,t18,t19,()) (out_,t,factors,())
def zQE (r:zGJ):LTree ty:=.done (.exit 2) [.own 168,.ptr 169 0,.own 170,.sl 28 r.1,.lit (.int .i64 r.2.1),.lit (.int .i64 r.2.2.1)] [.arr 28 r.2.2.2.1 false,.box (base.enc 28 r.2.2.2.2.1) false,.arr 69 r.2.2.2.2.2 false]
def zTw:LL ty zp4:=za (zdh 168) (za (zdR 169 0) (za (zdh 170) (za (lSl 28) (za zj (za zj (za zj (za zj zk)))))))
def zS3:BL ty zp7:=zdj 28 false (zff (zeK (λx=>(⟨x.1,x.2.1⟩:Term)) (λx=>(x.Cf,x.Fs,())) (λ_=>rfl) (za (zI .i64) (za (lSl 69) zk))) false (zdj 69 false (z6)))
def zj3 (zO:At->Bool×At) (t8:yC) (t9:Int) (t10:Int) (out_:yC):Wy zp6 zpV (yC):=.i (decide (t10<t9)) (.i (decide (0<=t10)&&decide (t10<Int.ofNat t8.length)) (.bn (zc7 (t8.getD t10.toNat default).Fs) λr5=>.bn (zDG zO (t8.length+t9.toNat +t10.toNat +(Int.ofNat r5.length).toNat +Int.toNat 0+out_.length+(t8.getD t10.toNat default).Fs.length+r5.length+1) t8 t9 t10 (Int.ofNat r5.length) 0 out_ (t8.getD t10.toNat default) r5) λr4=>.i (decide ((r4.2.2.2.1.length+[TO.mk r4.2.2.2.2.1.Cf r4.2.2.2.2.2].length)*32<=zG)) (.h ((),(r4.1),(r4.2.1),(IntKind.i64.wrap (r4.2.2.1+1)),()) ((r4.2.2.2.1++[TO.mk r4.2.2.2.2.1.Cf r4.2.2.2.2.2]),())) .d) .d) (.k out_)
def zvw (zO:At->Bool×At) (x:zp6) (y:zpV):=zj3 zO x.2.1 x.2.2.1 x.2.2.2.1 y.1
def zDH (zO:At->Bool×At) (n:Nat) (t8:yC) (t9:Int) (t10:Int) (out_:yC):=zy (zvw zO) default n ((),t8,t9,t10,()) (out_,())
def zQF (r:yC):LTree ty:=.done (.exit 0) [.own 168] [.arr 28 r false]
def zSZ:LL ty zp6:=za (zdh 168) (za (lSl 28) (za zj (za zj zk)))
def zSW:BL ty zpV:=zdj 28 false (z6)
def zQL (x:zp4) (y:zp7):Nat:=(x.2.2.2.1.length+Int.toNat x.2.2.2.2.1+Int.toNat x.2.2.2.2.2.1+Int.toNat x.2.2.2.2.2.2.1+Int.toNat x.2.2.2.2.2.2.2.1+y.1.length+y.2.1.Fs.length+y.2.2.1.length+1)
def zQx (x:zp6) (y:zpV):Nat:=(x.2.1.length+Int.toNat x.2.2.1+Int.toNat x.2.2.2.1+y.1.length+1)
def zuY (zO:At->Bool×At):=zbY base 42 [(95,zgt),(151,(zmv zO))] [] [(3,[(3,.own 28),(8,.keep),(9,.keep),(10,.keep)]),(7,(kpL [3,5,6,8,9,10,18,19]))] [(3,1,(kpL [3])),(7,3,(kpL [3,5,6,8,9,10]))] [(7,spW zTw zS3 (zu6 zO) default zQE zQL),(3,spW zSZ zSW (zvw zO) default zQF zQx)] []
theorem zRe (zO:At->Bool×At):zA (zuY zO) (lp (body f87) 1):=zp (id:=7) (hl:=rfl)
theorem zQB (zO:At->Bool×At):zA (zuY zO) (lp (body f87) 0):=zp (id:=3) (hl:=rfl)
def zE3 (zO:At->Bool×At) (a:yC):Wy0 (yC):=.bn (zDH zO (a.length+(Int.ofNat a.length).toNat +Int.toNat 0+0+1) a (Int.ofNat a.length) 0 []) λr8=>.k r8
def zmO (zO:At->Bool×At) (a:yC):=(zE3 zO a).fin default
theorem zNC (zO:At->Bool×At) (zNu:SdP 151 (zmv zO)):SdP 87 (zmX (zmO zO)):=
 sT (cx':=(zuY zO)) (zi ⟨zld,zNu,trivial⟩) call87 func87 (lOK (aC (zQB zO) (aC (zRe zO) aN))) (sg:=⟨[.own 28],[]⟩)
def zdt:Cx ty:={ base with nt:=8 }
def zdY (s:yA):Bool×yA:=(decide (s.length*24<=zG),s)
def zib:Ab.Spec ty:=zh (cx:=base) (zc (ze (vSl 23)) zo) λx=>((zdY x.1).1,⟨[.own 23 (zdY x.1).2],[]⟩)
theorem zsD:zgv zdt f181 (body f181) ⟨[.own 23],[]⟩ [.pure (.lit (.slice none 0 0))]=some ⟨[.own 23 []],[]⟩:=by kernel_rfl
theorem zqB (p:Addr) (c:Nat):zgv zdt f181 (body f181) ⟨[.own 23],[]⟩ [.pure (.lit (.slice (some p) 0 c))]=some ⟨[.own 23 []],[]⟩:=by kernel_rfl
theorem zru (l:yA):zgv zdt f181 (body f181) ⟨[.own 23],[]⟩ [.pure (.sl 23 l)]=bif !l.isEmpty then bif decide ((([]:List (ty 23)).length+l.length)*24<=zG) then some ⟨[.own 23 l],[]⟩ else none else none:=by kernel_rfl
theorem zqC:SdP 181 zib:=
 zJK (cx':=zdt) (bytes:=24) zGn zfi ⟨⟨rfl,rfl,rfl,rfl,rfl,rfl⟩,rfl⟩ (λg s h=>by cases h) call181 func181 (c:=body f181) (by kernel_rfl) (zCB (l:=[]) (by kernel_rfl) trivial) zsD zqB zru (by kernel_rfl)
def zd6:Cx ty:={ base with nt:=8 }
def zeE (s:yE):Bool×yE:=(decide (s.length*56<=zG),s)
def zkc:Ab.Spec ty:=zh (cx:=base) (zc (ze (vSl 100)) zo) λx=>((zeE x.1).1,⟨[.own 100 (zeE x.1).2],[]⟩)
theorem zvP:zgv zd6 f182 (body f182) ⟨[.own 100],[]⟩ [.pure (.lit (.slice none 0 0))]=some ⟨[.own 100 []],[]⟩:=by kernel_rfl
theorem zuL (p:Addr) (c:Nat):zgv zd6 f182 (body f182) ⟨[.own 100],[]⟩ [.pure (.lit (.slice (some p) 0 c))]=some ⟨[.own 100 []],[]⟩:=by kernel_rfl
theorem zvl (l:yE):zgv zd6 f182 (body f182) ⟨[.own 100],[]⟩ [.pure (.sl 100 l)]=bif !l.isEmpty then bif decide ((([]:List (ty 100)).length+l.length)*56<=zG) then some ⟨[.own 100 l],[]⟩ else none else none:=by kernel_rfl
theorem zuD:SdP 182 zkc:=
 zJK (cx':=zd6) (bytes:=56) zGn zfi ⟨⟨rfl,rfl,rfl,rfl,rfl,rfl⟩,rfl⟩ (λg s h=>by cases h) call182 func182 (c:=body f182) (by kernel_rfl) (zCB (l:=[]) (by kernel_rfl) trivial) zvP zuL zvl (by kernel_rfl)
abbrev zdU:=Unit×Unit×Int×Int×Unit
abbrev zlo:=(Int×Int×Int×Unit×Int×yE×Int×Int×Int×ByteArray×Unit)×(Int×Int×Int×Unit×Int×Unit×Int×Int×Int×ByteArray×Unit)×yA×Unit
abbrev zB5:=Int×Int×Int×Int×yE×Int×Int×Int×ByteArray×Int×Int×Int×Int×Int×Int×Int×ByteArray×yA
abbrev zlK:=(Int×Int×Int×Unit×Int×Unit×Int×Int×Int×ByteArray×Unit)×(Int×Int×Int×Unit×Int×Unit×Int×Int×Int×ByteArray×Unit)×yA×yE×Unit
abbrev zB6:=Int×Int×Int×Int×Int×Int×Int×ByteArray×Int×Int×Int×Int×Int×Int×Int×ByteArray×yA×yE
def zgK (zX:yC->Bool×yC) (t11:Int) (t12:Int) (x_0:Int) (x_1:Int) (x_2:Int) (x_3:Int) (x_4:yE) (x_5:Int) (x_6:Int) (x_7:Int) (x_8:ByteArray) (t2_0:Int) (t2_1:Int) (t2_2:Int) (t2_3:Int) (t2_4:Int) (t2_5:Int) (t2_6:Int) (t2_7:ByteArray) (b2:yA):Wy zdU zlo zB5:=.i (decide (t12<t11)) (.i (decide (0<=t12)&&decide (t12<Int.ofNat b2.length)) (.bn (zX (b2.getD t12.toNat default)) λr0=>.i (decide (0<=t12)&&decide (t12<Int.ofNat b2.length)) (.i (decide (t12.toNat<b2.length)) (.h ((),(),t11,(IntKind.i64.wrap (t12+1)),()) ((x_0,x_1,x_2,(),x_3,x_4,x_5,x_6,x_7,x_8,()),(t2_0,t2_1,t2_2,(),t2_3,(),t2_4,t2_5,t2_6,t2_7,()),(b2.set t12.toNat r0),())) .d) .d) .d) (.k (x_0,x_1,x_2,x_3,x_4,x_5,x_6,x_7,x_8,t2_0,t2_1,t2_2,t2_3,t2_4,t2_5,t2_6,t2_7,b2))
def zoZ (zX:yC->Bool×yC) (x:zdU) (y:zlo):=zgK zX x.2.2.1 x.2.2.2.1 y.1.1 y.1.2.1 y.1.2.2.1 y.1.2.2.2.2.1 y.1.2.2.2.2.2.1 y.1.2.2.2.2.2.2.1 y.1.2.2.2.2.2.2.2.1 y.1.2.2.2.2.2.2.2.2.1 y.1.2.2.2.2.2.2.2.2.2.1 y.2.1.1 y.2.1.2.1 y.2.1.2.2.1 y.2.1.2.2.2.2.1 y.2.1.2.2.2.2.2.2.1 y.2.1.2.2.2.2.2.2.2.1 y.2.1.2.2.2.2.2.2.2.2.1 y.2.1.2.2.2.2.2.2.2.2.2.1 y.2.2.1
def zzC (zX:yC->Bool×yC) (n:Nat) (t11:Int) (t12:Int) (x_0:Int) (x_1:Int) (x_2:Int) (x_3:Int) (x_4:yE) (x_5:Int) (x_6:Int) (x_7:Int) (x_8:ByteArray) (t2_0:Int) (t2_1:Int) (t2_2:Int) (t2_3:Int) (t2_4:Int) (t2_5:Int) (t2_6:Int) (t2_7:ByteArray) (b2:yA):=zy (zoZ zX) default n ((),(),t11,t12,()) ((x_0,x_1,x_2,(),x_3,x_4,x_5,x_6,x_7,x_8,()),(t2_0,t2_1,t2_2,(),t2_3,(),t2_4,t2_5,t2_6,t2_7,()),b2,())
def zKT (r:zB5):LTree ty:=.done (.exit 0) [.ptr 200 0,.ptr 201 0] [.box ([.lit (.int .i64 r.1),.lit (.int .i64 r.2.1),.lit (.int .i64 r.2.2.1),.own 202,.lit (.int .i64 r.2.2.2.1),.sl 100 r.2.2.2.2.1,.lit (.int .i64 r.2.2.2.2.2.1),.lit (.int .i64 r.2.2.2.2.2.2.1),.lit (.int .i64 r.2.2.2.2.2.2.2.1),.lit (.string r.2.2.2.2.2.2.2.2.1)]) false,.box ([.lit (.int .i64 r.2.2.2.2.2.2.2.2.2.1),.lit (.int .i64 r.2.2.2.2.2.2.2.2.2.2.1),.lit (.int .i64 r.2.2.2.2.2.2.2.2.2.2.2.1),.lit (.slice none 0 0),.lit (.int .i64 r.2.2.2.2.2.2.2.2.2.2.2.2.1),.lit (.slice none 0 0),.lit (.int .i64 r.2.2.2.2.2.2.2.2.2.2.2.2.2.1),.lit (.int .i64 r.2.2.2.2.2.2.2.2.2.2.2.2.2.2.1),.lit (.int .i64 r.2.2.2.2.2.2.2.2.2.2.2.2.2.2.2.1),.lit (.string r.2.2.2.2.2.2.2.2.2.2.2.2.2.2.2.2.1)]) false,.arr 23 r.2.2.2.2.2.2.2.2.2.2.2.2.2.2.2.2.2 false]
def zL7:LL ty zdU:=za (zdR 200 0) (za (zdR 201 0) (za zj (za zj zk)))
def zLU:BL ty zlo:=zff (za (zI .i64) (za (zI .i64) (za (zI .i64) (za (zdh 202) (za (zI .i64) (za (lSl 100) (za (zI .i64) (za (zI .i64) (za (zI .i64) (za znV zk)))))))))) false (zff (za (zI .i64) (za (zI .i64) (za (zI .i64) (za zbho (za (zI .i64) (za zbho (za (zI .i64) (za (zI .i64) (za (zI .i64) (za znV zk)))))))))) false (zdj 23 false (z6)))
def zgE (zX:yC->Bool×yC) (t32:Int) (t33:Int) (x_0:Int) (x_1:Int) (x_2:Int) (x_3:Int) (x_4:Int) (x_5:Int) (x_6:Int) (x_7:ByteArray) (t2_0:Int) (t2_1:Int) (t2_2:Int) (t2_3:Int) (t2_4:Int) (t2_5:Int) (t2_6:Int) (t2_7:ByteArray) (b2:yA) (b3:yE):Wy zdU zlK zB6:=.i (decide (t33<t32)) (.i (decide (0<=t33)&&decide (t33<Int.ofNat b3.length)) (.bn (zX (b3.getD t33.toNat default).Ann) λr2=>.i (decide (0<=t33)&&decide (t33<Int.ofNat b3.length)) (.i (decide (t33.toNat<b3.length)) (.h ((),(),t32,(IntKind.i64.wrap (t33+1)),()) ((x_0,x_1,x_2,(),x_3,(),x_4,x_5,x_6,x_7,()),(t2_0,t2_1,t2_2,(),t2_3,(),t2_4,t2_5,t2_6,t2_7,()),b2,(b3.set t33.toNat (WO.mk (b3.getD t33.toNat default).Value r2)),())) .d) .d) .d) (.k (x_0,x_1,x_2,x_3,x_4,x_5,x_6,x_7,t2_0,t2_1,t2_2,t2_3,t2_4,t2_5,t2_6,t2_7,b2,b3))
def zo3 (zX:yC->Bool×yC) (x:zdU) (y:zlK):=zgE zX x.2.2.1 x.2.2.2.1 y.1.1 y.1.2.1 y.1.2.2.1 y.1.2.2.2.2.1 y.1.2.2.2.2.2.2.1 y.1.2.2.2.2.2.2.2.1 y.1.2.2.2.2.2.2.2.2.1 y.1.2.2.2.2.2.2.2.2.2.1 y.2.1.1 y.2.1.2.1 y.2.1.2.2.1 y.2.1.2.2.2.2.1 y.2.1.2.2.2.2.2.2.1 y.2.1.2.2.2.2.2.2.2.1 y.2.1.2.2.2.2.2.2.2.2.1 y.2.1.2.2.2.2.2.2.2.2.2.1 y.2.2.1 y.2.2.2.1
def zzJ (zX:yC->Bool×yC) (n:Nat) (t32:Int) (t33:Int) (x_0:Int) (x_1:Int) (x_2:Int) (x_3:Int) (x_4:Int) (x_5:Int) (x_6:Int) (x_7:ByteArray) (t2_0:Int) (t2_1:Int) (t2_2:Int) (t2_3:Int) (t2_4:Int) (t2_5:Int) (t2_6:Int) (t2_7:ByteArray) (b2:yA) (b3:yE):=zy (zo3 zX) default n ((),(),t32,t33,()) ((x_0,x_1,x_2,(),x_3,(),x_4,x_5,x_6,x_7,()),(t2_0,t2_1,t2_2,(),t2_3,(),t2_4,t2_5,t2_6,t2_7,()),b2,b3,())
def zKS (r:zB6):LTree ty:=.done (.exit 2) [.ptr 200 0,.ptr 201 0] [.box ([.lit (.int .i64 r.1),.lit (.int .i64 r.2.1),.lit (.int .i64 r.2.2.1),.own 202,.lit (.int .i64 r.2.2.2.1),.own 203,.lit (.int .i64 r.2.2.2.2.1),.lit (.int .i64 r.2.2.2.2.2.1),.lit (.int .i64 r.2.2.2.2.2.2.1),.lit (.string r.2.2.2.2.2.2.2.1)]) false,.box ([.lit (.int .i64 r.2.2.2.2.2.2.2.2.1),.lit (.int .i64 r.2.2.2.2.2.2.2.2.2.1),.lit (.int .i64 r.2.2.2.2.2.2.2.2.2.2.1),.lit (.slice none 0 0),.lit (.int .i64 r.2.2.2.2.2.2.2.2.2.2.2.1),.lit (.slice none 0 0),.lit (.int .i64 r.2.2.2.2.2.2.2.2.2.2.2.2.1),.lit (.int .i64 r.2.2.2.2.2.2.2.2.2.2.2.2.2.1),.lit (.int .i64 r.2.2.2.2.2.2.2.2.2.2.2.2.2.2.1),.lit (.string r.2.2.2.2.2.2.2.2.2.2.2.2.2.2.2.1)]) false,.arr 23 r.2.2.2.2.2.2.2.2.2.2.2.2.2.2.2.2.1 false,.arr 100 r.2.2.2.2.2.2.2.2.2.2.2.2.2.2.2.2.2 false]
def zLZ:BL ty zlK:=zff (za (zI .i64) (za (zI .i64) (za (zI .i64) (za (zdh 202) (za (zI .i64) (za (zdh 203) (za (zI .i64) (za (zI .i64) (za (zI .i64) (za znV zk)))))))))) false (zff (za (zI .i64) (za (zI .i64) (za (zI .i64) (za zbho (za (zI .i64) (za zbho (za (zI .i64) (za (zI .i64) (za (zI .i64) (za znV zk)))))))))) false (zdj 23 false (zdj 100 false (z6))))
def zKM (x:zdU) (y:zlo):Nat:=(Int.toNat x.2.2.1+Int.toNat x.2.2.2.1+Int.toNat y.1.1+Int.toNat y.1.2.1+Int.toNat y.1.2.2.1+Int.toNat y.1.2.2.2.2.1+y.1.2.2.2.2.2.1.length+Int.toNat y.1.2.2.2.2.2.2.1+Int.toNat y.1.2.2.2.2.2.2.2.1+Int.toNat y.1.2.2.2.2.2.2.2.2.1+y.1.2.2.2.2.2.2.2.2.2.1.size+Int.toNat y.2.1.1+Int.toNat y.2.1.2.1+Int.toNat y.2.1.2.2.1+Int.toNat y.2.1.2.2.2.2.1+Int.toNat y.2.1.2.2.2.2.2.2.1+Int.toNat y.2.1.2.2.2.2.2.2.2.1+Int.toNat y.2.1.2.2.2.2.2.2.2.2.1+y.2.1.2.2.2.2.2.2.2.2.2.1.size+y.2.2.1.length+1)
def zLh (x:zdU) (y:zlK):Nat:=(Int.toNat x.2.2.1+Int.toNat x.2.2.2.1+Int.toNat y.1.1+Int.toNat y.1.2.1+Int.toNat y.1.2.2.1+Int.toNat y.1.2.2.2.2.1+Int.toNat y.1.2.2.2.2.2.2.1+Int.toNat y.1.2.2.2.2.2.2.2.1+Int.toNat y.1.2.2.2.2.2.2.2.2.1+y.1.2.2.2.2.2.2.2.2.2.1.size+Int.toNat y.2.1.1+Int.toNat y.2.1.2.1+Int.toNat y.2.1.2.2.1+Int.toNat y.2.1.2.2.2.2.1+Int.toNat y.2.1.2.2.2.2.2.2.1+Int.toNat y.2.1.2.2.2.2.2.2.2.1+Int.toNat y.2.1.2.2.2.2.2.2.2.2.1+y.2.1.2.2.2.2.2.2.2.2.2.1.size+y.2.2.1.length+y.2.2.2.1.length+1)
def zoX (zX:yC->Bool×yC):=zbY base 50 [(87,(zmX zX)),(181,zib),(182,zkc)] [] [(3,(kpL [1,2,11,12])),(9,(kpL [1,2,32,33]))] [(3,1,(kpL [1,2])),(9,3,(kpL [1,2]))] [(3,spW zL7 zLU (zoZ zX) default zKT zKM),(9,spW zL7 zLZ (zo3 zX) default zKS zLh)] []
theorem zLb (zX:yC->Bool×yC):zA (zoX zX) (lp (body f151) 0):=zp (id:=3) (hl:=rfl)
theorem zKG (zX:yC->Bool×yC):zA (zoX zX) (lp (body f151) 1):=zp (id:=9) (hl:=rfl)
def zAK (zX:yC->Bool×yC) (x_:At):Wy0 (At):=.bn (zdY x_.Ag) λr7=>.bn (zzC zX ((Int.ofNat r7.length).toNat +Int.toNat 0+x_.Kind.toNat +x_.Row.Table.toNat +x_.Row.Seq.toNat +x_.Func.toNat +x_.Items.length+x_.Op.toNat +x_.Bd.Kind.toNat +x_.Bd.Int.toNat +x_.Bd.Text.size+Int.toNat 0+Int.toNat 0+Int.toNat 0+Int.toNat 0+Int.toNat 0+Int.toNat 0+Int.toNat 0+(ByteArray.mk #[]).size+r7.length+1) (Int.ofNat r7.length) 0 x_.Kind x_.Row.Table x_.Row.Seq x_.Func x_.Items x_.Op x_.Bd.Kind x_.Bd.Int x_.Bd.Text 0 0 0 0 0 0 0 (ByteArray.mk #[]) r7) λr6=>.bn (zeE r6.2.2.2.2.1) λr5=>.bn (zzJ zX ((Int.ofNat r5.length).toNat +Int.toNat 0+r6.1.toNat +r6.2.1.toNat +r6.2.2.1.toNat +r6.2.2.2.1.toNat +r6.2.2.2.2.2.1.toNat +r6.2.2.2.2.2.2.1.toNat +r6.2.2.2.2.2.2.2.1.toNat +r6.2.2.2.2.2.2.2.2.1.size+r6.2.2.2.2.2.2.2.2.2.1.toNat +r6.2.2.2.2.2.2.2.2.2.2.1.toNat +r6.2.2.2.2.2.2.2.2.2.2.2.1.toNat +r6.2.2.2.2.2.2.2.2.2.2.2.2.1.toNat +r6.2.2.2.2.2.2.2.2.2.2.2.2.2.1.toNat +r6.2.2.2.2.2.2.2.2.2.2.2.2.2.2.1.toNat +r6.2.2.2.2.2.2.2.2.2.2.2.2.2.2.2.1.toNat +r6.2.2.2.2.2.2.2.2.2.2.2.2.2.2.2.2.1.size+r6.2.2.2.2.2.2.2.2.2.2.2.2.2.2.2.2.2.length+r5.length+1) (Int.ofNat r5.length) 0 r6.1 r6.2.1 r6.2.2.1 r6.2.2.2.1 r6.2.2.2.2.2.1 r6.2.2.2.2.2.2.1 r6.2.2.2.2.2.2.2.1 r6.2.2.2.2.2.2.2.2.1 r6.2.2.2.2.2.2.2.2.2.1 r6.2.2.2.2.2.2.2.2.2.2.1 r6.2.2.2.2.2.2.2.2.2.2.2.1 r6.2.2.2.2.2.2.2.2.2.2.2.2.1 r6.2.2.2.2.2.2.2.2.2.2.2.2.2.1 r6.2.2.2.2.2.2.2.2.2.2.2.2.2.2.1 r6.2.2.2.2.2.2.2.2.2.2.2.2.2.2.2.1 r6.2.2.2.2.2.2.2.2.2.2.2.2.2.2.2.2.1 r6.2.2.2.2.2.2.2.2.2.2.2.2.2.2.2.2.2 r5) λr4=>.k (⟨r4.1,(⟨r4.2.1,r4.2.2.1⟩:RowID),r4.2.2.2.2.2.2.2.2.2.2.2.2.2.2.2.2.1,r4.2.2.2.1,r4.2.2.2.2.2.2.2.2.2.2.2.2.2.2.2.2.2,r4.2.2.2.2.1,(⟨r4.2.2.2.2.2.1,r4.2.2.2.2.2.2.1,r4.2.2.2.2.2.2.2.1⟩:Value)⟩:At)
def zja (zX:yC->Bool×yC) (x_:At):=(zAK zX x_).fin default
theorem zHI (zX:yC->Bool×yC) (zUK:SdP 87 (zmX zX)):SdP 151 (zmv (zja zX)):=
 sT (cx':=(zoX zX)) (zi ⟨zUK,zqC,zuD,trivial⟩) call151 func151 (lOK (aC (zLb zX) (aC (zKG zX) aN)))
def zM8:Nat->(yC->Bool×yC)×(At->Bool×At)
 | 0=>(λ_=>(false,default),λ_=>(false,default))
 | n+1=>(zmO ((zM8 n).2),zja ((zM8 n).1))
def zmR (n:Nat):yC->Bool×yC:=(zM8 n).1
def zmC (n:Nat):At->Bool×At:=(zM8 n).2
theorem zSx (n:Nat):zmR (n+1)=zmO (zmC n):=rfl
theorem zL0 (n:Nat):zmC (n+1)=zja (zmR n):=rfl
theorem z1p:∀ n,SdP 87 (zmX (zmR n))/\SdP 151 (zmv (zmC n))
 | 0=>⟨z8 call87 (λ_=>rfl),z8 call151 (λ_=>rfl)⟩
 | n+1=>by
  have ih:=z1p n;exact ⟨zNC _ (ih.2),zHI _ (ih.1)⟩
def zg2:yC->Bool×yC:=zmR 1000
def zgN:Ab.Spec ty:=zmX zg2
theorem zje:SdP 87 zgN:=(z1p 1000).1
def zVp:=zbl base 9 [(62,zu8),(87,zgN)]
def zGR (a:yC):Wy0 (yC×Int):=.bn (zl0 a) λr1=>.i (!r1) (.k ([],6)) (.bn (zg2 a) λr0=>.k (r0,0))
def zeB (a:yC):=(zGR a).fin default
def zeV:=zh z2g λx=>((zeB x.1).1,zSs (zeB x.1).2)
theorem zfL:SdP 70 zeV:=
 sT (cx':=zVp) (zi ⟨zC7,zje,trivial⟩) call70 func70 (lOK aN) (sg:=⟨[.own 28,.pure],[]⟩)
def zAs:=zbl base 27 []
def zng (n_:Int):Wy0 (yC):=.i (decide (n_<0)) .d (.i (decide (IntKind.i64.wrap (n_ - IntKind.i64.wrap (0 - 0))>0)) (.i (decide (0<IntKind.i64.wrap (n_ - IntKind.i64.wrap (0 - 0)))&&(decide (IntKind.i64.wrap (n_ - IntKind.i64.wrap (0 - 0))*Int.ofNat 32<=Int.ofNat zG)&&(decide (IntKind.i64.wrap (n_ - IntKind.i64.wrap (0 - 0))<=Int.ofNat zG)&& !Nat.beq 2 0))) (.k (List.take (Int.toNat 0 - Int.toNat 0) (List.replicate (IntKind.i64.wrap (n_ - IntKind.i64.wrap (0 - 0))).toNat (TO.mk 0 [])))) .d) (.k []))
def zd4 (n_:Int):=(zng n_).fin default
def zA7:AL base (Unit×Int×Unit):=zc (ze zblm) (zc (ze zf3) zo)
def zlA:=zh zA7 λx=>((zd4 x.2.1).1,zSt (zd4 x.2.1).2)
theorem zxt:SdP 140 zlA:=
 sT (cx':=zAs) (zi trivial) call140 func140 (lOK aN) (sg:=⟨[.own 28],[]⟩)
abbrev ze0:=yA×Int×yA×Int×Int×Unit
abbrev zn6:=yA×Int
abbrev ze9:=Unit×yA×Int×Int×Unit
abbrev ze8:=yC×Unit
def zdg (slices:yA) (size:Int) (t9:yA) (t10:Int) (t11:Int):Wy ze0 Unit zn6:=.i (decide (t11<t10)) (.i (decide (0<=t11)&&decide (t11<Int.ofNat t9.length)) (.i (decide (IntKind.i64.wrap (size+Int.ofNat (List.length (t9.getD t11.toNat default)))<0)) .d (.h (slices,(IntKind.i64.wrap (size+Int.ofNat (List.length (t9.getD t11.toNat default)))),t9,t10,(IntKind.i64.wrap (t11+1)),()) ())) .d) (.k (slices,size))
def zgq (x:ze0) (y:Unit):=zdg x.1 x.2.1 x.2.2.1 x.2.2.2.1 x.2.2.2.2.1
def zlI (n:Nat) (slices:yA) (size:Int) (t9:yA) (t10:Int) (t11:Int):=zy (zgq) default n (slices,size,t9,t10,t11,()) ()
def zxB (r:zn6):LTree ty:=.done (.exit 0) [.sl 23 r.1,.lit (.int .i64 r.2)] []
def zyx:LL ty ze0:=za (lSl 23) (za zj (za (lSl 23) (za zj (za zj zk))))
def zc5 (t25:yA) (t26:Int) (t27:Int) (newslice:yC):Wy ze9 ze8 (yC):=.i (decide (t27<t26)) (.i (decide (0<=t27)&&decide (t27<Int.ofNat t25.length)) (.i (decide ((newslice.length+List.length (t25.getD t27.toNat default))*32<=zG)) (.h ((),t25,t26,(IntKind.i64.wrap (t27+1)),()) ((newslice++t25.getD t27.toNat default),())) .d) .d) (.k newslice)
def zf4 (x:ze9) (y:ze8):=zc5 x.2.1 x.2.2.1 x.2.2.2.1 y.1
def zle (n:Nat) (t25:yA) (t26:Int) (t27:Int) (newslice:yC):=zy (zf4) default n ((),t25,t26,t27,()) (newslice,())
def zwl (r:yC):LTree ty:=.done (.exit 2) [.own 144] [.arr 28 r false]
def zxF:LL ty ze9:=za (zdh 144) (za (lSl 23) (za zj (za zj zk)))
def zxD:BL ty ze8:=zdj 28 false (z6)
def zxu (x:ze0) (y:Unit):Nat:=(x.1.length+Int.toNat x.2.1+x.2.2.1.length+Int.toNat x.2.2.2.1+Int.toNat x.2.2.2.2.1+1)
def zwD (x:ze9) (y:ze8):Nat:=(x.2.1.length+Int.toNat x.2.2.1+Int.toNat x.2.2.2.1+y.1.length+1)
def zgm:=zbY base 36 [(140,zlA)] [] [(3,(kpL [0,3,9,10,11])),(11,(kpL [6,25,26,27]))] [(3,1,(kpL [0,3])),(11,3,(kpL [6]))] [(3,spW zyx zbcZ (zgq) default zxB zxu),(11,spW zxF zxD (zf4) default zwl zwD)] [140]
theorem zxx:zA zgm (lp (body f72) 0):=zp (id:=3) (hl:=rfl)
theorem zwY:zA zgm (lp (body f72) 1):=zp (id:=11) (hl:=rfl)
def zl8 (slices:yA):Wy0 (yC):=.bn (zlI (slices.length+Int.toNat 0+slices.length+(Int.ofNat slices.length).toNat +Int.toNat 0+1) slices 0 slices (Int.ofNat slices.length) 0) λr2=>.bn (zd4 r2.2) λr1=>.bn (zle (r2.1.length+(Int.ofNat r2.1.length).toNat +Int.toNat 0+r1.length+1) r2.1 (Int.ofNat r2.1.length) 0 r1) λr0=>.k r0
def zdI (slices:yA):=(zl8 slices).fin default
def zzI:AL base (yA×Unit):=zc (ze (vSl 23)) zo
def zkx:=zh zzI λx=>((zdI x.1).1,zSt (zdI x.1).2)
theorem zvS:SdP 72 zkx:=
 sT (cx':=zgm) (zi ⟨zxt,trivial⟩) call72 func72 (lOK (aC zxx (aC zwY aN))) (sg:=⟨[.own 28],[]⟩)
def z4M:=zbl zbH 22 [(20,zch),(70,zeV),(71,ztD),(72,zkx)]
def zPR (a:yC) (b:yC):Wy0 (yC×Int):=.bn (zca a) λr4=>.i (!r4) (.k ([],1)) (.bn (zca b) λr3=>.i (!r3) (.k ([],1)) (.bn (zdI [a,b]) λr2=>.bn (zim r2) λr1=>.bn (zeB r1) λr0=>.k (r0.1,r0.2)))
def zqM (a:yC) (b:yC):=(zPR a b).fin default
def z58:AL zbH (yC×yC×Unit):=zc (ze (vSl 28)) (zc (ze (vSl 28)) zo)
def zAe:=zh z58 λx=>((zqM x.1 x.2.1).1,zSs (zqM x.1 x.2.1).2)
theorem zHu:Sound Tryz.prog zbH 23 zAe:=
 sU (cx':=z4M) (zi ⟨zco.nodr,zfL.nodr,zBV,zvS.nodr,trivial⟩) call23 func23 (lOK aN) (sg:=⟨[.own 28,.pure],[]⟩)
def zZl:=zbl base 9 []
def zKa (n_:Int):Wy0 (yC):=.i (decide (n_<1)) (.k []) (.k [TO.mk (if 1152921504606846976<n_ then 1152921504606846976 else n_) []])
def zr0 (n_:Int):=(zKa n_).fin default
def zFo:=zh z4G λx=>((zr0 x.1).1,zSt (zr0 x.1).2)
theorem zSC:SdP 149 zFo:=
 sT (cx':=zZl) (zi trivial) call149 func149 (lOK aN) (sg:=⟨[.own 28],[]⟩)
def zA4:=zbl base 27 []
def znJ (n_:Int):Wy0 (yD):=.i (decide (n_<0)) .d (.i (decide (IntKind.i64.wrap (n_ - IntKind.i64.wrap (0 - 0))>0)) (.i (decide (0<IntKind.i64.wrap (n_ - IntKind.i64.wrap (0 - 0)))&&(decide (IntKind.i64.wrap (n_ - IntKind.i64.wrap (0 - 0))*Int.ofNat 128<=Int.ofNat zG)&&(decide (IntKind.i64.wrap (n_ - IntKind.i64.wrap (0 - 0))<=Int.ofNat zG)&& !Nat.beq 11 0))) (.k (List.take (Int.toNat 0 - Int.toNat 0) (List.replicate (IntKind.i64.wrap (n_ - IntKind.i64.wrap (0 - 0))).toNat (FO.mk (At.mk 0 (RowID.mk 0 0) [] 0 [] 0 (Value.mk 0 0 (ByteArray.mk #[]))) 0)))) .d) (.k []))
def zej (n_:Int):=(znJ n_).fin default
def zz0 (r:yD):ARes ty:=⟨[.own 69 r],[]⟩
def zl4:=zh zA7 λx=>((zej x.2.1).1,zz0 (zej x.2.1).2)
theorem zyP:SdP 220 zl4:=
 sT (cx':=zA4) (zi trivial) call220 func220 (lOK aN) (sg:=⟨[.own 69],[]⟩)
abbrev zfl:=List (yD)×Int×List (yD)×Int×Int×Unit
abbrev zot:=List (yD)×Int
abbrev zfj:=Unit×List (yD)×Int×Int×Unit
abbrev zfp:=yD×Unit
def zdl (slices:List (yD)) (size:Int) (t9:List (yD)) (t10:Int) (t11:Int):Wy zfl Unit zot:=.i (decide (t11<t10)) (.i (decide (0<=t11)&&decide (t11<Int.ofNat t9.length)) (.i (decide (IntKind.i64.wrap (size+Int.ofNat (List.length (t9.getD t11.toNat default)))<0)) .d (.h (slices,(IntKind.i64.wrap (size+Int.ofNat (List.length (t9.getD t11.toNat default)))),t9,t10,(IntKind.i64.wrap (t11+1)),()) ())) .d) (.k (slices,size))
def zgF (x:zfl) (y:Unit):=zdl x.1 x.2.1 x.2.2.1 x.2.2.2.1 x.2.2.2.2.1
def zl3 (n:Nat) (slices:List (yD)) (size:Int) (t9:List (yD)) (t10:Int) (t11:Int):=zy (zgF) default n (slices,size,t9,t10,t11,()) ()
def zyy (r:zot):LTree ty:=.done (.exit 0) [.sl 26 r.1,.lit (.int .i64 r.2)] []
def zzz:LL ty zfl:=za (lSl 26) (za zj (za (lSl 26) (za zj (za zj zk))))
def zdd (t25:List (yD)) (t26:Int) (t27:Int) (newslice:yD):Wy zfj zfp (yD):=.i (decide (t27<t26)) (.i (decide (0<=t27)&&decide (t27<Int.ofNat t25.length)) (.i (decide ((newslice.length+List.length (t25.getD t27.toNat default))*128<=zG)) (.h ((),t25,t26,(IntKind.i64.wrap (t27+1)),()) ((newslice++t25.getD t27.toNat default),())) .d) .d) (.k newslice)
def zgu (x:zfj) (y:zfp):=zdd x.2.1 x.2.2.1 x.2.2.2.1 y.1
def zlE (n:Nat) (t25:List (yD)) (t26:Int) (t27:Int) (newslice:yD):=zy (zgu) default n ((),t25,t26,t27,()) (newslice,())
def zxC (r:yD):LTree ty:=.done (.exit 2) [.own 144] [.arr 69 r false]
def zyQ:LL ty zfj:=za (zdh 144) (za (lSl 26) (za zj (za zj zk)))
def zyg:BL ty zfp:=zdj 69 false (z6)
def zyk (x:zfl) (y:Unit):Nat:=(x.1.length+Int.toNat x.2.1+x.2.2.1.length+Int.toNat x.2.2.2.1+Int.toNat x.2.2.2.2.1+1)
def zxv (x:zfj) (y:zfp):Nat:=(x.2.1.length+Int.toNat x.2.2.1+Int.toNat x.2.2.2.1+y.1.length+1)
def zgC:=zbY base 36 [(220,zl4)] [] [(3,(kpL [0,3,9,10,11])),(11,(kpL [6,25,26,27]))] [(3,1,(kpL [0,3])),(11,3,(kpL [6]))] [(3,spW zzz zbcZ (zgF) default zyy zyk),(11,spW zyQ zyg (zgu) default zxC zxv)] [220]
theorem zy4:zA zgC (lp (body f183) 0):=zp (id:=3) (hl:=rfl)
theorem zxH:zA zgC (lp (body f183) 1):=zp (id:=11) (hl:=rfl)
def zmV (slices:List (yD)):Wy0 (yD):=.bn (zl3 (slices.length+Int.toNat 0+slices.length+(Int.ofNat slices.length).toNat +Int.toNat 0+1) slices 0 slices (Int.ofNat slices.length) 0) λr2=>.bn (zej r2.2) λr1=>.bn (zlE (r2.1.length+(Int.ofNat r2.1.length).toNat +Int.toNat 0+r1.length+1) r2.1 (Int.ofNat r2.1.length) 0 r1) λr0=>.k r0
def zdT (slices:List (yD)):=(zmV slices).fin default
def zAa:AL base (List (yD)×Unit):=zc (ze (vSl 26)) zo
def zlb:=zh zAa λx=>((zdT x.1).1,zz0 (zdT x.1).2)
theorem zwh:SdP 183 zlb:=
 sT (cx':=zgC) (zi ⟨zyP,trivial⟩) call183 func183 (lOK (aC zy4 (aC zxH aN))) (sg:=⟨[.own 69],[]⟩)
abbrev zuK:=yD×yD×Unit×Unit
abbrev zuz:=yD×Unit
abbrev zKZ:=yD×yD×yD
def zBG (a:yD) (b:yD) (out_:yD):Wy zuK zuz zKZ:=.i (decide (Int.ofNat a.length>0)) (.i (decide (Int.ofNat b.length>0)) (.i (decide ((0:Int)<=(0:Int))&&decide (0<Int.ofNat a.length)) (.i (decide ((0:Int)<=(0:Int))&&decide (0<Int.ofNat b.length)) (.bn (zi9 (At.mk (a.getD (Int.toNat 0) default).At.Kind (a.getD (Int.toNat 0) default).At.Row (a.getD (Int.toNat 0) default).At.Ag (a.getD (Int.toNat 0) default).At.Func (a.getD (Int.toNat 0) default).At.Items (a.getD (Int.toNat 0) default).At.Op (a.getD (Int.toNat 0) default).At.Bd) (At.mk (b.getD (Int.toNat 0) default).At.Kind (b.getD (Int.toNat 0) default).At.Row (b.getD (Int.toNat 0) default).At.Ag (b.getD (Int.toNat 0) default).At.Func (b.getD (Int.toNat 0) default).At.Items (b.getD (Int.toNat 0) default).At.Op (b.getD (Int.toNat 0) default).At.Bd)) λr1=>.i (decide (r1<0)) (.i (decide ((0:Int)<=(0:Int))&&decide (0<Int.ofNat a.length)) (.i (decide ((out_.length+[FO.mk (At.mk (a.getD (Int.toNat 0) default).At.Kind (a.getD (Int.toNat 0) default).At.Row (a.getD (Int.toNat 0) default).At.Ag (a.getD (Int.toNat 0) default).At.Func (a.getD (Int.toNat 0) default).At.Items (a.getD (Int.toNat 0) default).At.Op (a.getD (Int.toNat 0) default).At.Bd) (a.getD (Int.toNat 0) default).Exp].length)*128<=zG)) (.i (decide ((0:Int)<=(1:Int))&&decide (1<=Int.ofNat a.length)&&decide (Int.ofNat a.length<=Int.ofNat a.length)) (.h ((List.take ((Int.ofNat a.length).toNat - Int.toNat 1) (List.drop (Int.toNat 1) a)),b,(),()) ((out_++[FO.mk (At.mk (a.getD (Int.toNat 0) default).At.Kind (a.getD (Int.toNat 0) default).At.Row (a.getD (Int.toNat 0) default).At.Ag (a.getD (Int.toNat 0) default).At.Func (a.getD (Int.toNat 0) default).At.Items (a.getD (Int.toNat 0) default).At.Op (a.getD (Int.toNat 0) default).At.Bd) (a.getD (Int.toNat 0) default).Exp]),())) .d) .d) .d) (.i (decide (r1>0)) (.i (decide ((0:Int)<=(0:Int))&&decide (0<Int.ofNat b.length)) (.i (decide ((out_.length+[FO.mk (At.mk (b.getD (Int.toNat 0) default).At.Kind (b.getD (Int.toNat 0) default).At.Row (b.getD (Int.toNat 0) default).At.Ag (b.getD (Int.toNat 0) default).At.Func (b.getD (Int.toNat 0) default).At.Items (b.getD (Int.toNat 0) default).At.Op (b.getD (Int.toNat 0) default).At.Bd) (b.getD (Int.toNat 0) default).Exp].length)*128<=zG)) (.i (decide ((0:Int)<=(1:Int))&&decide (1<=Int.ofNat b.length)&&decide (Int.ofNat b.length<=Int.ofNat b.length)) (.h (a,(List.take ((Int.ofNat b.length).toNat - Int.toNat 1) (List.drop (Int.toNat 1) b)),(),()) ((out_++[FO.mk (At.mk (b.getD (Int.toNat 0) default).At.Kind (b.getD (Int.toNat 0) default).At.Row (b.getD (Int.toNat 0) default).At.Ag (b.getD (Int.toNat 0) default).At.Func (b.getD (Int.toNat 0) default).At.Items (b.getD (Int.toNat 0) default).At.Op (b.getD (Int.toNat 0) default).At.Bd) (b.getD (Int.toNat 0) default).Exp]),())) .d) .d) .d) (.i (decide ((0:Int)<=(0:Int))&&decide (0<Int.ofNat a.length)) (.bn (zfT (At.mk (a.getD (Int.toNat 0) default).At.Kind (a.getD (Int.toNat 0) default).At.Row (a.getD (Int.toNat 0) default).At.Ag (a.getD (Int.toNat 0) default).At.Func (a.getD (Int.toNat 0) default).At.Items (a.getD (Int.toNat 0) default).At.Op (a.getD (Int.toNat 0) default).At.Bd)) λr0=>.i (!r0) (.i (decide ((0:Int)<=(0:Int))&&decide (0<Int.ofNat b.length)) (.i (decide ((out_.length+[FO.mk (At.mk (a.getD (Int.toNat 0) default).At.Kind (a.getD (Int.toNat 0) default).At.Row (a.getD (Int.toNat 0) default).At.Ag (a.getD (Int.toNat 0) default).At.Func (a.getD (Int.toNat 0) default).At.Items (a.getD (Int.toNat 0) default).At.Op (a.getD (Int.toNat 0) default).At.Bd) (IntKind.i64.wrap ((a.getD (Int.toNat 0) default).Exp+(b.getD (Int.toNat 0) default).Exp))].length)*128<=zG)) (.i (decide ((0:Int)<=(1:Int))&&decide (1<=Int.ofNat a.length)&&decide (Int.ofNat a.length<=Int.ofNat a.length)) (.i (decide ((0:Int)<=(1:Int))&&decide (1<=Int.ofNat b.length)&&decide (Int.ofNat b.length<=Int.ofNat b.length)) (.h ((List.take ((Int.ofNat a.length).toNat - Int.toNat 1) (List.drop (Int.toNat 1) a)),(List.take ((Int.ofNat b.length).toNat - Int.toNat 1) (List.drop (Int.toNat 1) b)),(),()) ((out_++[FO.mk (At.mk (a.getD (Int.toNat 0) default).At.Kind (a.getD (Int.toNat 0) default).At.Row (a.getD (Int.toNat 0) default).At.Ag (a.getD (Int.toNat 0) default).At.Func (a.getD (Int.toNat 0) default).At.Items (a.getD (Int.toNat 0) default).At.Op (a.getD (Int.toNat 0) default).At.Bd) (IntKind.i64.wrap ((a.getD (Int.toNat 0) default).Exp+(b.getD (Int.toNat 0) default).Exp))]),())) .d) .d) .d) .d) (.i (decide ((out_.length+[FO.mk (At.mk (a.getD (Int.toNat 0) default).At.Kind (a.getD (Int.toNat 0) default).At.Row (a.getD (Int.toNat 0) default).At.Ag (a.getD (Int.toNat 0) default).At.Func (a.getD (Int.toNat 0) default).At.Items (a.getD (Int.toNat 0) default).At.Op (a.getD (Int.toNat 0) default).At.Bd) (a.getD (Int.toNat 0) default).Exp].length)*128<=zG)) (.i (decide ((0:Int)<=(1:Int))&&decide (1<=Int.ofNat a.length)&&decide (Int.ofNat a.length<=Int.ofNat a.length)) (.i (decide ((0:Int)<=(1:Int))&&decide (1<=Int.ofNat b.length)&&decide (Int.ofNat b.length<=Int.ofNat b.length)) (.h ((List.take ((Int.ofNat a.length).toNat - Int.toNat 1) (List.drop (Int.toNat 1) a)),(List.take ((Int.ofNat b.length).toNat - Int.toNat 1) (List.drop (Int.toNat 1) b)),(),()) ((out_++[FO.mk (At.mk (a.getD (Int.toNat 0) default).At.Kind (a.getD (Int.toNat 0) default).At.Row (a.getD (Int.toNat 0) default).At.Ag (a.getD (Int.toNat 0) default).At.Func (a.getD (Int.toNat 0) default).At.Items (a.getD (Int.toNat 0) default).At.Op (a.getD (Int.toNat 0) default).At.Bd) (a.getD (Int.toNat 0) default).Exp]),())) .d) .d) .d)) .d))) .d) .d) (.k (a,b,out_))) (.k (a,b,out_))
def zKW (x:zuK) (y:zuz):=zBG x.1 x.2.1 y.1
def zBp (n:Nat) (a:yD) (b:yD) (out_:yD):=zy (zKW) default n (a,b,(),()) (out_,())
def zYW (r:zKZ):LTree ty:=.done (.exit 0) [.sl 69 r.1,.sl 69 r.2.1,.own 300] [.arr 69 r.2.2 false]
def z0M:LL ty zuK:=za (lSl 69) (za (lSl 69) (za (zdh 300) zk))
def z2d:BL ty zuz:=zdj 69 false (z6)
def zYu (x:zuK) (y:zuz):Nat:=(x.1.length+x.2.1.length+y.1.length+1)
def zK6:=zbY base 75 [(64,zkd),(65,zna),(183,zlb)] [] [(2,[(0,.keep),(1,.keep),(5,.own 69)])] [(2,1,(kpL [0,1,5]))] [(2,spW z0M z2d (zKW) default zYW zYu)] []
theorem zYy:zA zK6 (lp (body f154) 0):=zp (id:=2) (hl:=rfl)
def zMJ (a:yD) (b:yD):Wy0 (yD):=.bn (zBp (a.length+b.length+0+1) a b []) λr5=>.bn (zdT [r5.2.2,r5.1,r5.2.1]) λr4=>.k r4
def zoo (a:yD) (b:yD):=(zMJ a b).fin default
def z3C:AL base (yD×yD×Unit):=zc (ze (vSl 69)) (zc (ze (vSl 69)) zo)
def zGY:=zh z3C λx=>((zoo x.1 x.2.1).1,zz0 (zoo x.1 x.2.1).2)
theorem zT7:SdP 154 zGY:=
 sT (cx':=zK6) (zi ⟨zob,zvK,zwh,trivial⟩) call154 func154 (lOK (aC zYy aN)) (sg:=⟨[.own 69],[]⟩)
def zYY:=zbl base 12 []
def zKu (a:Int) (b:Int):Wy0 (Int):=.i (!decide (b=0)) (.i (decide (a>IntKind.i64.wrap (Int.tdiv 1152921504606846976 b))) (.k 1152921504606846976) (.k (IntKind.i64.wrap (a*b)))) .d
def zra (a:Int) (b:Int):=(zKu a b).fin default
def zFJ:=zh zYx λx=>((zra x.1 x.2.1).1,zTh (zra x.1 x.2.1).2)
theorem zTH:SdP 153 zFJ:=
 sT (cx':=zYY) (zi trivial) call153 func153 (lOK aN)
abbrev zvY:=yC×Unit×Unit×yC×Int×Int×yC×Int×Int×Unit
abbrev zwd:=yC×Term×Unit
abbrev zMZ:=yC×yC×Int×Int×yC
abbrev zwa:=yC×Unit×yC×Int×Int×Unit
abbrev zwb:=yC×Unit
def zpf (b:yC) (t19:yC) (t20:Int) (t21:Int) (t25:yC) (t26:Int) (t27:Int) (terms:yC) (x_:Term):Wy zvY zwd zMZ:=.i (decide (t27<t26)) (.i (decide (0<=t27)&&decide (t27<Int.ofNat t25.length)) (.bn (zra x_.Cf (t25.getD t27.toNat default).Cf) λr5=>.bn (zoo x_.Fs (t25.getD t27.toNat default).Fs) λr4=>.i (decide ((terms.length+[TO.mk r5 r4].length)*32<=zG)) (.h (b,(),(),t19,t20,t21,t25,t26,(IntKind.i64.wrap (t27+1)),()) ((terms++[TO.mk r5 r4]),x_,())) .d) .d) (.k (b,t19,t20,t21,terms))
def zDm (x:zvY) (y:zwd):=zpf x.1 x.2.2.2.1 x.2.2.2.2.1 x.2.2.2.2.2.1 x.2.2.2.2.2.2.1 x.2.2.2.2.2.2.2.1 x.2.2.2.2.2.2.2.2.1 y.1 y.2.1
def zMF (n:Nat) (b:yC) (t19:yC) (t20:Int) (t21:Int) (t25:yC) (t26:Int) (t27:Int) (terms:yC) (x_:Term):=zy (zDm) default n (b,(),(),t19,t20,t21,t25,t26,t27,()) (terms,x_,())
def z1X (r:zMZ):LTree ty:=.done (.exit 2) [.sl 28 r.1,.own 208,.sl 28 r.2.1,.lit (.int .i64 r.2.2.1),.lit (.int .i64 r.2.2.2.1)] [.arr 28 r.2.2.2.2 false]
def z33:LL ty zvY:=za (lSl 28) (za (zdh 208) (za (zdR 209 0) (za (lSl 28) (za zj (za zj (za (lSl 28) (za zj (za zj zk))))))))
def z4q:BL ty zwd:=zdj 28 false (zff (zeK (λx=>(⟨x.1,x.2.1⟩:Term)) (λx=>(x.Cf,x.Fs,())) (λ_=>rfl) (za (zI .i64) (za (lSl 69) zk))) false (z6))
def zpm (b:yC) (t19:yC) (t20:Int) (t21:Int) (terms:yC):Wy zwa zwb (yC):=.i (decide (t21<t20)) (.i (decide (0<=t21)&&decide (t21<Int.ofNat t19.length)) (.bn (zMF (b.length+t19.length+t20.toNat +t21.toNat +b.length+(Int.ofNat b.length).toNat +Int.toNat 0+terms.length+(t19.getD t21.toNat default).Fs.length+1) b t19 t20 t21 b (Int.ofNat b.length) 0 terms (t19.getD t21.toNat default)) λr8=>.h ((r8.1),(),(r8.2.1),(r8.2.2.1),(IntKind.i64.wrap (r8.2.2.2.1+1)),()) ((r8.2.2.2.2),())) .d) (.k terms)
def zDc (x:zwa) (y:zwb):=zpm x.1 x.2.2.1 x.2.2.2.1 x.2.2.2.2.1 y.1
def zDi (n:Nat) (b:yC) (t19:yC) (t20:Int) (t21:Int) (terms:yC):=zy (zDc) default n (b,(),t19,t20,t21,()) (terms,())
def z4o:LL ty zwa:=za (lSl 28) (za (zdh 208) (za (lSl 28) (za zj (za zj zk))))
def z3d:BL ty zwb:=zdj 28 false (z6)
def z0d (x:zvY) (y:zwd):Nat:=(x.1.length+x.2.2.2.1.length+Int.toNat x.2.2.2.2.1+Int.toNat x.2.2.2.2.2.1+x.2.2.2.2.2.2.1.length+Int.toNat x.2.2.2.2.2.2.2.1+Int.toNat x.2.2.2.2.2.2.2.2.1+y.1.length+y.2.1.Fs.length+1)
def z1n (x:zwa) (y:zwb):Nat:=(x.1.length+x.2.2.1.length+Int.toNat x.2.2.2.1+Int.toNat x.2.2.2.2.1+y.1.length+1)
def zDC:=zbY zbH 52 [(20,zch),(70,zeV),(71,ztD),(153,zFJ),(154,zGY)] [] [(5,[(1,.keep),(6,.own 28),(19,.keep),(20,.keep),(21,.keep)]),(8,[(1,.keep),(6,.own 28),(8,.keep),(19,.keep),(20,.keep),(21,.keep),(25,.keep),(26,.keep),(27,.keep)])] [(5,1,(kpL [6])),(8,3,(kpL [1,6,19,20,21]))] [(8,spW z33 z4q (zDm) default z1X z0d),(5,spW z4o z3d (zDc) default zSu z1n)] []
theorem z0k:zA zDC (lp (body f92) 1):=zp (id:=8) (hl:=rfl)
theorem z0Z:zA zDC (lp (body f92) 0):=zp (id:=5) (hl:=rfl)
def zOW (a:yC) (b:yC):Wy0 (yC×Int):=.bn (zca a) λr14=>.i (!r14) (.k ([],1)) (.bn (zca b) λr13=>.i (!r13) (.k ([],1)) (.bn (zDi (b.length+a.length+(Int.ofNat a.length).toNat +Int.toNat 0+0+1) b a (Int.ofNat a.length) 0 []) λr12=>.bn (zim r12) λr11=>.bn (zeB r11) λr10=>.k (r10.1,r10.2)))
def zqU (a:yC) (b:yC):=(zOW a b).fin default
def zz4:=zh z58 λx=>((zqU x.1 x.2.1).1,zSs (zqU x.1 x.2.1).2)
theorem zG8:Sound Tryz.prog zbH 92 zz4:=
 sU (cx':=zDC) (zi ⟨zco.nodr,zfL.nodr,zBV,zTH.nodr,zT7.nodr,trivial⟩) call92 func92 (lOK (aC z0Z (aC z0k aN))) (sg:=⟨[.own 28,.pure],[]⟩)
def zHt:=zbl base 8 []
def zvF (b:Bg) (p1:RowID):Wy0 (Bool):=.k (b.Row.Table==p1.Table&&(b.Row.Seq==p1.Seq&&true))
def zf7 (b:Bg) (p1:RowID):=(zvF b p1).fin default
def zHJ:AL base (Bg×RowID×Unit):=zc (ze (zcl 51)) (zc (ze (zAz 49)) zo)
def zku:=zh zHJ λx=>((zf7 x.1 x.2.1).1,zYA (zf7 x.1 x.2.1).2)
theorem zqt:SdP 86 zku:=
 sT (cx':=zHt) (zi trivial) call86 func86 (lOK aN)
def zWb:=zbl base 8 []
def zIh (x_:At):Wy0 (yC):=.k [TO.mk 1 [FO.mk (At.mk x_.Kind x_.Row x_.Ag x_.Func x_.Items x_.Op x_.Bd) 1]]
def zfF (x_:At):=(zIh x_).fin default
def zgR:=zh zDM λx=>((zfF x.1).1,zSt (zfF x.1).2)
theorem zi1:SdP 152 zgR:=
 sT (cx':=zWb) (zi trivial) call152 func152 (lOK aN) (sg:=⟨[.own 28],[]⟩)
def z4T:=zbl base 9 [(128,zv4),(152,zgR)]
def zOi (id:RowID):Wy0 (yC):=.bn (zrC id) λr0=>.i (!r0) (.k []) (.k ((zfF (At.mk 0 id [] 0 [] 0 (Value.mk 0 0 (ByteArray.mk #[])))).2))
def zwH (id:RowID):=(zOi id).fin default
def zHZ:=zh zbai λx=>((zwH x.1).1,zSt (zwH x.1).2)
theorem zVG:SdP 88 zHZ:=
 sT (cx':=z4T) (zi ⟨zBs,zi1,trivial⟩) call88 func88 (lOK aN) (sg:=⟨[.own 28],[]⟩)
abbrev zd9:=yG×(RowID×Unit)×Int×Int×Unit
def zsx (s:yG) (f:RowID) (t7:Int) (t8:Int):Wy zd9 Unit (Int⊕Unit):=.i (decide (t8<t7)) (.i (decide (0<=t8)&&decide (t8<Int.ofNat s.length)) (.i ((zf7 (s.getD t8.toNat default) f).2) (.k (.inl t8)) (.h (s,(f,()),t7,(IntKind.i64.wrap (t8+1)),()) ())) .d) (.k (.inr ()))
def ziu (x:zd9) (y:Unit):=zsx x.1 x.2.1.1 x.2.2.1 x.2.2.2.1
def zsF (n:Nat) (s:yG) (f:RowID) (t7:Int) (t8:Int):=zy (ziu) (.inl default) n (s,(f,()),t7,t8,()) ()
def zst:LL ty zd9:=za (lSl 51) (za (lFn 86 (za (znH (zeK (λx=>(⟨x.1,x.2.1⟩:RowID)) (λx=>(x.Table,x.Seq,())) (λ_=>rfl) (za zj (za zj zk))) 0) zk)) (za zj (za zj zk)))
def zr9 (x:zd9) (y:Unit):Nat:=(x.1.length+Int.toNat x.2.2.1+Int.toNat x.2.2.2.1+1)
def zix:=zbY base 19 [(86,zku)] [] [(2,(kpL [0,1,7,8]))] [(2,1,[]),(2,0,(kpL [4]))] [(2,spW zst zbcZ (ziu) (.inl default) zs0 zr9)] []
theorem zr6:zA zix (lp (body f85) 0):=zp (id:=2) (hl:=rfl)
def ztp (s:yG) (f:RowID):Wy0 (Int):=.bn (zsF (s.length+(Int.ofNat s.length).toNat +Int.toNat 0+1) s f (Int.ofNat s.length) 0) λr0=>.i (isL r0) (.k (getL r0)) (.k (-1:Int))
def zcG (s:yG) (f:RowID):=(ztp s f).fin default
def ztw:AL base (yG×(RowID×Unit)×Unit):=zc (ze (vSl 51)) (zc (ze (vFn 86 (zdA (zAz 49) zbT))) zo)
def zhK:=zh ztw λx=>((zcG x.1 x.2.1.1).1,zTh (zcG x.1 x.2.1.1).2)
theorem zqf:SdP 85 zhK:=
 sT (cx':=zix) (zi ⟨zqt,trivial⟩) call85 func85 (lOK (aC zr6 aN))
def zK2:=zbl base 18 [(85,zhK),(86,zku),(87,zgN),(88,zHZ)]
def zzu (id:RowID) (p1:yG):Wy0 (yC):=.bn (zcG p1 id) λr2=>.i (decide (r2≥0)) (.i (decide (0<=r2)&&decide (r2<Int.ofNat p1.length)) (.bn (zg2 (p1.getD r2.toNat default).To) λr0=>.k r0) .d) (.bn (zwH id) λr1=>.k r1)
def zii (id:RowID) (p1:yG):=(zzu id p1).fin default
def zMl:AL base (RowID×(yG×Unit)×Unit):=zc (ze (zcl 49)) (zc (ze (zvh (zdA (vSl 51) zbT))) zo)
def zhR:=zh zMl λx=>((zii x.1 x.2.1.1).1,zSt (zii x.1 x.2.1.1).2)
theorem zlx:SdP 84 zhR:=
 sT (cx':=zK2) (zi ⟨zqf,zqt,zje,zVG,trivial⟩) call84 func84 (lOK aN) (sg:=⟨[.own 28],[]⟩)
abbrev zoC:=((yG×Unit)×Unit)×Unit×Unit×yC×Int×yC×Int×Int×yD×Int×Int×Int×Int×Unit
abbrev zeM:=yC×yC×Unit
abbrev zFF:=yG×Int×yC×Int×Int×yD×Int×Int×yC×yC
abbrev zoH:=((yG×Unit)×Unit)×Unit×Unit×yC×Int×Int×yD×Int×Int×Unit
abbrev zFx:=Int⊕(yG×yC×Int×Int×yC×yC)
abbrev zon:=((yG×Unit)×Unit)×Unit×yC×Int×Int×Unit
abbrev zoN:=yC×Unit
abbrev zFt:=Int⊕yC
def zsd (zq:At->yG->Bool×(yC×Int)) (to:yG) (b:yC) (e:Int) (t16:yC) (t17:Int) (t18:Int) (t26:yD) (t27:Int) (t28:Int) (t40:Int) (t41:Int) (sum:yC) (product:yC):Wy zoC zeM zFF:=.i (decide (t41<t40)) (.i (e==0) (.bn (zqU product b) λr6=>.h (((to,()),()),(),(),b,(r6.2),t16,t17,t18,t26,t27,t28,t40,(IntKind.i64.wrap (t41+1)),()) (sum,(r6.1),())) (.h (((to,()),()),(),(),b,e,t16,t17,t18,t26,t27,t28,t40,(IntKind.i64.wrap (t41+1)),()) (sum,product,()))) (.k (to,e,t16,t17,t18,t26,t27,t28,sum,product))
def zBB (zq:At->yG->Bool×(yC×Int)) (x:zoC) (y:zeM):=zsd zq x.1.1.1 x.2.2.2.1 x.2.2.2.2.1 x.2.2.2.2.2.1 x.2.2.2.2.2.2.1 x.2.2.2.2.2.2.2.1 x.2.2.2.2.2.2.2.2.1 x.2.2.2.2.2.2.2.2.2.1 x.2.2.2.2.2.2.2.2.2.2.1 x.2.2.2.2.2.2.2.2.2.2.2.1 x.2.2.2.2.2.2.2.2.2.2.2.2.1 y.1 y.2.1
def zrB (zq:At->yG->Bool×(yC×Int)) (n:Nat) (to:yG) (b:yC) (e:Int) (t16:yC) (t17:Int) (t18:Int) (t26:yD) (t27:Int) (t28:Int) (t40:Int) (t41:Int) (sum:yC) (product:yC):=zy (zBB zq) default n (((to,()),()),(),(),b,e,t16,t17,t18,t26,t27,t28,t40,t41,()) (sum,product,())
def zM7 (r:zFF):LTree ty:=.done (.exit 4) [.fn 84 ([.bptr ([.sl 51 r.1]) 0]),.own 272,.own 273,.lit (.int .i64 r.2.1),.sl 28 r.2.2.1,.lit (.int .i64 r.2.2.2.1),.lit (.int .i64 r.2.2.2.2.1),.sl 69 r.2.2.2.2.2.1,.lit (.int .i64 r.2.2.2.2.2.2.1),.lit (.int .i64 r.2.2.2.2.2.2.2.1)] [.arr 28 r.2.2.2.2.2.2.2.2.1 false,.arr 28 r.2.2.2.2.2.2.2.2.2 false]
def zPz:LL ty zoC:=za (lFn 84 (za (znH (za (lSl 51) zk) 0) zk)) (za (zdh 272) (za (zdh 273) (za (lSl 28) (za zj (za (lSl 28) (za zj (za zj (za (lSl 69) (za zj (za zj (za zj (za zj zk))))))))))))
def zPO:BL ty zeM:=zdj 28 false (zdj 28 false (z6))
def ztc (zq:At->yG->Bool×(yC×Int)) (to:yG) (t16:yC) (t17:Int) (t18:Int) (t26:yD) (t27:Int) (t28:Int) (sum:yC) (product:yC):Wy zoH zeM zFx:=.i (decide (t28<t27)) (.i (decide (0<=t28)&&decide (t28<Int.ofNat t26.length)) (.bn (zq (At.mk (t26.getD t28.toNat default).At.Kind (t26.getD t28.toNat default).At.Row (t26.getD t28.toNat default).At.Ag (t26.getD t28.toNat default).At.Func (t26.getD t28.toNat default).At.Items (t26.getD t28.toNat default).At.Op (t26.getD t28.toNat default).At.Bd) to) λr9=>.bn (zrB zq (to.length+r9.1.length+r9.2.toNat +t16.length+t17.toNat +t18.toNat +t26.length+t27.toNat +t28.toNat +(t26.getD t28.toNat default).Exp.toNat +Int.toNat 0+sum.length+product.length+1) to r9.1 r9.2 t16 t17 t18 t26 t27 t28 (t26.getD t28.toNat default).Exp 0 sum product) λr8=>.i (r8.2.1 != 0) (.k (.inl (r8.2.1))) (.h ((((r8.1),()),()),(),(),(r8.2.2.1),(r8.2.2.2.1),(r8.2.2.2.2.1),(r8.2.2.2.2.2.1),(r8.2.2.2.2.2.2.1),(IntKind.i64.wrap (r8.2.2.2.2.2.2.2.1+1)),()) ((r8.2.2.2.2.2.2.2.2.1),(r8.2.2.2.2.2.2.2.2.2),()))) .d) (.k (.inr (to,t16,t17,t18,sum,product)))
def zCW (zq:At->yG->Bool×(yC×Int)) (x:zoH) (y:zeM):=ztc zq x.1.1.1 x.2.2.2.1 x.2.2.2.2.1 x.2.2.2.2.2.1 x.2.2.2.2.2.2.1 x.2.2.2.2.2.2.2.1 x.2.2.2.2.2.2.2.2.1 y.1 y.2.1
def ztr (zq:At->yG->Bool×(yC×Int)) (n:Nat) (to:yG) (t16:yC) (t17:Int) (t18:Int) (t26:yD) (t27:Int) (t28:Int) (sum:yC) (product:yC):=zy (zCW zq) (.inl default) n (((to,()),()),(),(),t16,t17,t18,t26,t27,t28,()) (sum,product,())
def zOA (r:zFx):LTree ty:=.ite (isL r) (.done .ret [.lit (.slice none 0 0),.lit (.int .i64 (getL r))] []) (.done (.exit 2) [.fn 84 ([.bptr ([.sl 51 (getR r).1]) 0]),.own 272,.own 273,.sl 28 (getR r).2.1,.lit (.int .i64 (getR r).2.2.1),.lit (.int .i64 (getR r).2.2.2.1)] [.arr 28 (getR r).2.2.2.2.1 false,.arr 28 (getR r).2.2.2.2.2 false])
def zRa:LL ty zoH:=za (lFn 84 (za (znH (za (lSl 51) zk) 0) zk)) (za (zdh 272) (za (zdh 273) (za (lSl 28) (za zj (za zj (za (lSl 69) (za zj (za zj zk))))))))
def zs4 (zq:At->yG->Bool×(yC×Int)) (to:yG) (t16:yC) (t17:Int) (t18:Int) (sum:yC):Wy zon zoN zFt:=.i (decide (t18<t17)) (.i (decide (0<=t18)&&decide (t18<Int.ofNat t16.length)) (.bn (zr0 (t16.getD t18.toNat default).Cf) λr14=>.bn (ztr zq (to.length+t16.length+t17.toNat +t18.toNat +(t16.getD t18.toNat default).Fs.length+(Int.ofNat (t16.getD t18.toNat default).Fs.length).toNat +Int.toNat 0+sum.length+r14.length+1) to t16 t17 t18 (t16.getD t18.toNat default).Fs (Int.ofNat (t16.getD t18.toNat default).Fs.length) 0 sum r14) λr13=>.i (isL r13) (.k (.inl (getL r13))) (.bn (zqM (getR r13).2.2.2.2.1 (getR r13).2.2.2.2.2) λr12=>.i (r12.2 != 0) (.k (.inl (r12.2))) (.h ((((getR r13).1,()),()),(),(getR r13).2.1,(getR r13).2.2.1,(IntKind.i64.wrap ((getR r13).2.2.2.1+1)),()) ((r12.1),())))) .d) (.k (.inr sum))
def zCX (zq:At->yG->Bool×(yC×Int)) (x:zon) (y:zoN):=zs4 zq x.1.1.1 x.2.2.1 x.2.2.2.1 x.2.2.2.2.1 y.1
def ztv (zq:At->yG->Bool×(yC×Int)) (n:Nat) (to:yG) (t16:yC) (t17:Int) (t18:Int) (sum:yC):=zy (zCX zq) (.inl default) n (((to,()),()),(),t16,t17,t18,()) (sum,())
def zPF (r:zFt):LTree ty:=.ite (isL r) (.done .ret [.lit (.slice none 0 0),.lit (.int .i64 (getL r))] []) (.done (.exit 0) [.own 272] [.arr 28 (getR r) false])
def zQy:LL ty zon:=za (lFn 84 (za (znH (za (lSl 51) zk) 0) zk)) (za (zdh 272) (za (lSl 28) (za zj (za zj zk))))
def zRb:BL ty zoN:=zdj 28 false (z6)
def zNI (x:zoC) (y:zeM):Nat:=(x.1.1.1.length+x.2.2.2.1.length+Int.toNat x.2.2.2.2.1+x.2.2.2.2.2.1.length+Int.toNat x.2.2.2.2.2.2.1+Int.toNat x.2.2.2.2.2.2.2.1+x.2.2.2.2.2.2.2.2.1.length+Int.toNat x.2.2.2.2.2.2.2.2.2.1+Int.toNat x.2.2.2.2.2.2.2.2.2.2.1+Int.toNat x.2.2.2.2.2.2.2.2.2.2.2.1+Int.toNat x.2.2.2.2.2.2.2.2.2.2.2.2.1+y.1.length+y.2.1.length+1)
def zOv (x:zoH) (y:zeM):Nat:=(x.1.1.1.length+x.2.2.2.1.length+Int.toNat x.2.2.2.2.1+Int.toNat x.2.2.2.2.2.1+x.2.2.2.2.2.2.1.length+Int.toNat x.2.2.2.2.2.2.2.1+Int.toNat x.2.2.2.2.2.2.2.2.1+y.1.length+y.2.1.length+1)
def zOS (x:zon) (y:zoN):Nat:=(x.1.1.1.length+x.2.2.1.length+Int.toNat x.2.2.2.1+Int.toNat x.2.2.2.2.1+y.1.length+1)
def zmD (zq:At->yG->Bool×(yC×Int)):=zbY zbH 68 [(23,zAe),(84,zhR),(92,zz4),(149,zFo),(150,(zlJ zq))] [] [(3,[(1,.keep),(6,.own 28),(16,.keep),(17,.keep),(18,.keep)]),(7,(kpL [1,6,9,16,17,18,26,27,28])),(11,[(1,.keep),(6,.keep),(9,.keep),(12,.sl 28),(13,.keep),(16,.keep),(17,.keep),(18,.keep),(26,.keep),(27,.keep),(28,.keep),(40,.keep),(41,.keep)])] [(3,1,(kpL [6])),(3,0,(kpL [4,5])),(7,3,(kpL [1,6,9,16,17,18])),(7,0,(kpL [4,5])),(11,5,(kpL [1,6,9,13,16,17,18,26,27,28]))] [(11,spW zPz zPO (zBB zq) default zM7 zNI),(7,spW zRa zPO (zCW zq) (.inl default) zOA zOv),(3,spW zQy zRb (zCX zq) (.inl default) zPF zOS)] []
theorem zNt (zq:At->yG->Bool×(yC×Int)):zA (zmD zq) (lp (body f83) 2):=zp (id:=11) (hl:=rfl)
theorem zOL (zq:At->yG->Bool×(yC×Int)):zA (zmD zq) (lp (body f83) 1):=zp (id:=7) (hl:=rfl)
theorem zPi (zq:At->yG->Bool×(yC×Int)):zA (zmD zq) (lp (body f83) 0):=zp (id:=3) (hl:=rfl)
def zD5 (zq:At->yG->Bool×(yC×Int)) (a:yC) (to:yG):Wy0 (yC×Int):=.bn (ztv zq (to.length+a.length+(Int.ofNat a.length).toNat +Int.toNat 0+0+1) to a (Int.ofNat a.length) 0 []) λr18=>.i (isL r18) (.k ([],getL r18)) (.k (getR r18,0))
def zlm (zq:At->yG->Bool×(yC×Int)) (a:yC) (to:yG):=(zD5 zq a to).fin default
theorem zLP (zq:At->yG->Bool×(yC×Int)) (zL8:Sound Tryz.prog zbH 150 (zlJ zq)):Sound Tryz.prog zbH 83 (zlz (zlm zq)):=
 sU (cx':=(zmD zq)) (zi ⟨zHu,zlx.nodr,zG8,zSC.nodr,zL8,trivial⟩) call83 func83 (lOK (aC (zPi zq) (aC (zOL zq) (aC (zNt zq) aN)))) (sg:=⟨[.own 28,.pure],[]⟩)
def z4a:=zbl base 3 []
def z7h:Wy0 (yC):=.k [TO.mk 1 []]
def zkQ:Bool×yC:=(z7h).fin default
def zmT:=zh zSv λx=>((zkQ ).1,zSt (zkQ ).2)
theorem zpP:SdP 36 zmT:=
 sT (cx':=z4a) (zi trivial) call36 func36 (lOK aN) (sg:=⟨[.own 28],[]⟩)
def zXN:=zbl base 23 [(20,zch),(36,zmT),(70,zeV),(131,znP),(152,zgR)]
def zHX (a:yC):Wy0 (yC×Int):=.bn (zca a) λr2=>.i (!r2) (.k ([],1)) (.i (Int.ofNat a.length==0) (.k (zkQ.2,0)) (.bn (zfe a) λr1=>.i (r1) (.k ([],0)) (.bn (zeB (zfF (At.mk 3 (RowID.mk 0 0) [a] 0 [] 0 (Value.mk 0 0 (ByteArray.mk #[])))).2) λr0=>.k (r0.1,r0.2))))
def zpd (a:yC):=(zHX a).fin default
def zD9:=zh z2g λx=>((zpd x.1).1,zSs (zpd x.1).2)
theorem zQR:SdP 179 zD9:=
 sT (cx':=zXN) (zi ⟨zco,zpP,zfL,zwt,zi1,trivial⟩) call179 func179 (lOK aN) (sg:=⟨[.own 28,.pure],[]⟩)
def zY7:=zbl base 29 [(20,zch),(36,zmT),(70,zeV),(87,zgN),(129,zoU),(130,zvu),(152,zgR)]
def zKi (a:yC):Wy0 (yC×Int):=.bn (zca a) λr5=>.i (!r5) (.k ([],1)) (.i (Int.ofNat a.length==0) (.bn (zg2 a) λr0=>.k (r0,0)) (.bn (zlZ a) λr4=>.i (r4) (.bn (zg2 a) λr1=>.k (r1,0)) (.bn (zhM a) λr3=>.i (r3) (.k (zkQ.2,0)) (.bn (zeB (zfF (At.mk 2 (RowID.mk 0 0) [a] 0 [] 0 (Value.mk 0 0 (ByteArray.mk #[])))).2) λr2=>.k (r2.1,r2.2)))))
def zrj (a:yC):=(zKi a).fin default
def zFi:=zh z2g λx=>((zrj x.1).1,zSs (zrj x.1).2)
theorem zSm:SdP 178 zFi:=
 sT (cx':=zY7) (zi ⟨zco,zpP,zfL,zje,zx2,zC9,zi1,trivial⟩) call178 func178 (lOK aN) (sg:=⟨[.own 28,.pure],[]⟩)
def zYJ:=zbl base 38 [(20,zch),(21,zoB),(70,zeV),(87,zgN),(152,zgR)]
def zKL (a:yC) (b:yC):Wy0 (yC×Int):=.bn (zca a) λr4=>.i (!r4) (.k ([],1)) (.bn (zca b) λr3=>.i (!r3) (.k ([],1)) (.i (Int.ofNat b.length==0) (.bn (zg2 a) λr0=>.k (r0,0)) (.i (Int.ofNat a.length==0) (.k ([],0)) (.bn (zie a b) λr2=>.i (r2) (.k ([],0)) (.bn (zeB (zfF (At.mk 1 (RowID.mk 0 0) [a,b] 0 [] 0 (Value.mk 0 0 (ByteArray.mk #[])))).2) λr1=>.k (r1.1,r1.2))))))
def zr4 (a:yC) (b:yC):=(zKL a b).fin default
def zFp:=zh zWv λx=>((zr4 x.1 x.2.1).1,zSs (zr4 x.1 x.2.1).2)
theorem zSA:SdP 177 zFp:=
 sT (cx':=zYJ) (zi ⟨zco,zvC,zfL,zje,zi1,trivial⟩) call177 func177 (lOK aN) (sg:=⟨[.own 28,.pure],[]⟩)
def zgx (x:yE) (a b:Int):Bool×yE:=zbau zbm x a b
def zuj:Ab.Spec ty:=zh (cx:=base) (zc (zka 100) (zc (ze (zgG .i64)) (zc (ze (zgG .i64)) (zc (ze (vFn 124 zbT)) zo)))) λx=>((zgx x.1 x.2.1 x.2.2.1).1,⟨[],[some ⟨100,(zgx x.1 x.2.1 x.2.2.1).2⟩]⟩)
theorem zvn (c:Unit) (x y:Wd) (h:(zbm x y).1=true):zfW ((AV.agg (base.enc 100 x)::AV.agg (base.enc 100 y)::(zbT:VL base Unit).enc c).map Arg.pure)=some (true,⟨[.pure (.lit (.int .i64 (zbm x y).2))],[]⟩):=by
 rw [<- h]; kernel_rfl
theorem zs9:SdP 281 zuj:=by
 letI:DecidableEq (ty 100):=inferInstanceAs (DecidableEq Wd)
 exact zbh6 (T:=100) zfi rfl Go.Proofs.Tryz.insW Tryz.isAgg100 (by unfold zu; exact Tryz.sizeOf100) call281 zhP zbT (λc=>zbm) zvn
open Go.Proofs Go.RowKit
def zcJ (x:yE) (m:Int):Bool×yE:=(decide (SortOK zbm x)&&(decide (m=x.length)&&decide (m<20)),zhp zbm x)
def zmM:Ab.Spec ty:=zh (cx:=base) (zc (zka 100) (zc (ze (zgG .i64)) (zc (ze (vFn 124 zbT)) zo))) λx=>((zcJ x.1 x.2.1).1,⟨[],[some ⟨100,(zcJ x.1 x.2.1).2⟩]⟩)
set_option maxHeartbeats 1000000 in
theorem zzy:SdP 262 zmM where
 enters:=call262
 calls:=λavs r hsp w F vs hF ha hsep=>by
  unfold zmM zh at hsp;split at hsp
  ·rename_i x hx;simp only [qa,qb] at hsp;obtain ⟨hpre,rfl⟩:=hsp;have hk:=(zc (zka 100) (zc (ze (zgG .i64)) (zc (ze (vFn 124 zbT)) zo)):AL base _).kind vs avs x hx;have ha':=(zc (zka 100) (zc (ze (zgG .i64)) (zc (ze (vFn 124 zbT)) zo)):AL base _).ok Tryz.prog zfi F w vs avs x hx ha;rw [hk] at hsep ⊢;clear hk hx ha;obtain ⟨l0,m,c,u0⟩:=x;obtain ⟨l,rfl⟩:∃ l:yE,l=l0:=⟨l0,rfl⟩;obtain ⟨v,vs',rfl,hv,hv'⟩:=ha'.inv;obtain ⟨mv,vs1,rfl,hm,hv1⟩:=hv'.inv;obtain ⟨fv,vs'',rfl,hfv,h0⟩:=hv1.inv;obtain rfl:=h0.nil_left.1;have hm:Rep base F w mv (.lit (.int .i64 m)):=hm;obtain rfl:mv=.int .i64 m:=by cases hm; rfl
   have hsl:∃ p cap,v=.slice p l.length cap:=by
    obtain ⟨⟨xs,hown,_⟩,_⟩:=(show zcT base F w v 100 l/\∀ b,zbk v=some b->¬ F b from hv)
    rcases hown.2 with ⟨h1,h2⟩ | ⟨g0,cap,cur,h1,_⟩
    ·exact ⟨none,0,by rw [h1,show l.length=0 from h2]⟩
    ·exact ⟨_,cap,h1⟩
   have hpre:(decide (SortOK (α:=Wd) zbm l)&&(decide (m=l.length)&&decide (m<20)))=true:=hpre;simp only [qc,qe] at hpre;obtain ⟨hok,rfl,h20⟩:=hpre
   have hpp:(zgx l 0 (l.length:Int)).1=true:=by
    show (decide (SortOK (α:=Wd) zbm l)&&(decide ((0:Int)=0)&&decide ((l.length:Int)=l.length)))=true;simp only [qc,qe];exact ⟨hok,trivial,trivial⟩
   have hp:=(zs9).calls [.own 100 l,.pure (.lit (.int .i64 0)),.pure (.lit (.int .i64 (l.length:Int))),.pure (.fn 124 [])] ⟨[],[some ⟨100,(zcJ l (l.length:Int)).2⟩]⟩
    (by rw [<- hpp]; kernel_rfl) w F [v,.int .i64 0,.int .i64 (l.length:Int),fv] hF (.cons hv (.cons (Rep.lit _) (.cons (Rep.lit _) (.cons hfv .nil)))) hsep
   replace hp:Calls Tryz.prog 281 #[v,.int .i64 0,.int .i64 (l.length:Int),fv] w λe w'=>∃ u,e=.returned u/\Post base F w [v] ⟨[],[some ⟨100,(zcJ l (l.length:Int)).2⟩]⟩ u w':=hp
   show Calls Tryz.prog 262 #[v,.int .i64 (l.length:Int),fv] w λe w'=>∃ u,e=.returned u/\Post base F w [v] ⟨[],[some ⟨100,(zcJ l (l.length:Int)).2⟩]⟩ u w'
   generalize (zcJ l (l.length:Int)).2=res at hp ⊢;generalize hn:l.length=m at *;clear hpp hv hfv hsep hok hF hm;obtain ⟨p,cap,rfl⟩:=hsl;clear hn
   go_enter func262,ntmps262
   go_wp2
   refine wp_loop_rounds 1 ?_;rw [rounds_succ]
   go_wp2_with (go_at_call 281; refine hp.mono ?_; rintro e w' ⟨u,rfl,hpost⟩; obtain rfl:=hpost.unit)
   refine wp_loop_rounds 1 ?_;rw [rounds_succ]
   go_wp2
   all_goals first | (exfalso; omega) | (go_end0; exact ⟨_,rfl,hpost⟩)
  ·cases hsp
end Go.Proofs.YtljlfiomikifjaaGreatDoor
end
