/- Texts of this claim, joined (the program, its functions in plain words, and what they compute). -/
import Derived.WalkKit
import Derived.WalkSpells
import Derived.Test.YtljlfiomikifjaaGreatDoorGC2
set_option autoImplicit false
set_option linter.unusedVariables false
set_option linter.unusedSectionVars false
set_option linter.unusedSimpArgs false
set_option maxRecDepth 1000000
set_option maxHeartbeats 0
noncomputable section
namespace Go.Proofs.YtljlfiomikifjaaGreatDoor
open Go Go.Ab
open Go.Proofs.Tryz
def strings_ReplaceAll (s p q:ByteArray):Bool×ByteArray:=zq9 s p q
def zDO:Ab.Spec ty:=zi (cx:=zb1) (ze (zf zAU) (ze (zf zAU) (ze (zf zAU) zu))) λx=>((strings_ReplaceAll x.1 x.2.1 x.2.2.1).1,⟨[.pure (.lit (.string (strings_ReplaceAll x.1 x.2.1 x.2.2.1).2))],[]⟩)
theorem zOx:Sound Tryz.prog zb1 228 zDO:=z43 zO5 rfl Go.Proofs.Tryz.lays155 Go.Proofs.Tryz.Builder_Extra_155 call228 (λ_ h=>h.2)
def z7g:=zbr zb1 27 [(164,zyH),(227,zvw),(228,zDO)]
def zT1 (v:Value):Wy0 (ByteArray):=.bn (zvB v) λr2=>.i (!r2) (.k (ByteArray.mk #[])) (.i (v.Kind==0) (.bn (zjW v.Int 10) λr0=>.k r0) (.i (v.Kind==1) (.bn (strings_ReplaceAll v.Text (ByteArray.mk #[(39:UInt8)]) (ByteArray.mk #[(39:UInt8),(39:UInt8)])) λr1=>.i (decide ((ByteArray.mk #[(39:UInt8)]).size+r1.size<=9223372036854775807)) (.i (decide ((ByteArray.mk #[(39:UInt8)]++r1).size+(ByteArray.mk #[(39:UInt8)]).size<=9223372036854775807)) (.k (ByteArray.mk #[(39:UInt8)]++r1++ByteArray.mk #[(39:UInt8)])) .d) .d) (.i (v.Int==1) (.k (ByteArray.mk #[(84:UInt8),(82:UInt8),(85:UInt8),(69:UInt8)])) (.k (ByteArray.mk #[(70:UInt8),(65:UInt8),(76:UInt8),(83:UInt8),(69:UInt8)])))))
def zwN (v:Value):=(zT1 v).fin default
def z8k:AL zb1 (Value×Unit):=ze (zf (zcK 65)) zu
def zMK:=zi z8k λx=>((zwN x.1).1,zXU (zwN x.1).2)
theorem z0c:Sound Tryz.prog zb1 197 zMK:=
 sU (cx':=z7g) (zk ⟨zEp.nodr,zDM.nodr,zOx,trivial⟩) call197 func197 (lOK aN)
abbrev zmp:=Unit×Unit×yE×Int×Int×Unit
abbrev zlW:=At×List ByteArray×Unit
abbrev zCD:=At×List ByteArray
def zgE (zbx:yC->Bool×ByteArray) (t48:yE) (t49:Int) (t50:Int) (x_:At) (items:List ByteArray):Wy zmp zlW zCD:=.i (decide (t50<t49)) (.i (decide (0<=t50)&&decide (t50<Int.ofNat t48.length)) (.bn (zwN (t48.getD t50.toNat default).Value) λr1=>.i (decide (r1.size+(ByteArray.mk #[(58:UInt8),(32:UInt8)]).size<=9223372036854775807)) (.bn (zbx (t48.getD t50.toNat default).Ann) λr0=>.i (decide ((r1++ByteArray.mk #[(58:UInt8),(32:UInt8)]).size+r0.size<=9223372036854775807)) (.i (decide ((items.length+[r1++ByteArray.mk #[(58:UInt8),(32:UInt8)]++r0].length)*16<=zN)) (.h ((),(),t48,t49,(IntKind.i64.wrap (t50+1)),()) (x_,(items++[r1++ByteArray.mk #[(58:UInt8),(32:UInt8)]++r0]),())) .d) .d) .d) .d) (.k (x_,items))
def zoH (zbx:yC->Bool×ByteArray) (x:zmp) (y:zlW):=zgE zbx x.2.2.1 x.2.2.2.1 x.2.2.2.2.1 y.1 y.2.1
def zyy (zbx:yC->Bool×ByteArray) (n:Nat) (t48:yE) (t49:Int) (t50:Int) (x_:At) (items:List ByteArray):=zC (zoH zbx) default n ((),(),t48,t49,t50,()) (x_,items,())
def zI1 (r:zCD):LTree ty:=.done (.exit 1) [.ptr 360 0,.own 361] [.box (base.enc 67 r.1) false,.arr 9 r.2 false]
def zJ6:LL ty zmp:=za (ze3 360 0) (za (zds 361) (za (lSl 100) (za zj (za zj zl))))
def zLg:BL ty zlW:=zhS (zf1 (λx=>(⟨x.1,⟨x.2.1,x.2.2.1⟩,x.2.2.2.1,x.2.2.2.2.1,x.2.2.2.2.2.1,x.2.2.2.2.2.2.1,⟨x.2.2.2.2.2.2.2.1,x.2.2.2.2.2.2.2.2.1,x.2.2.2.2.2.2.2.2.2.1⟩⟩:At)) (λx=>(x.Kind,x.Row.Table,x.Row.Seq,x.Ag,x.Func,x.Items,x.Op,x.Bd.Kind,x.Bd.Int,x.Bd.Text,())) (λ_=>rfl) (za (zR .i64) (za (zR .i64) (za (zR .i64) (za (lSl 23) (za (zR .i64) (za (lSl 100) (za (zR .i64) (za (zR .i64) (za (zR .i64) (za zrP zl))))))))))) false (zdA 9 false (zbd))
def zJj (x:zmp) (y:zlW):Nat:=(x.2.2.1.length+Int.toNat x.2.2.2.1+Int.toNat x.2.2.2.2.1+y.1.Ag.length+y.1.Items.length+y.2.1.length+1)
def zAf (zbx:yC->Bool×ByteArray):=zbV zb1 90 [(169,zwo),(195,zKG),(196,(zwA zbx)),(197,zMK),(198,zBa),(199,zA5)] [] [(12,[(1,.keep),(3,.own 9),(48,.keep),(49,.keep),(50,.keep)])] [(12,2,(kpL [1,3]))] [(12,spW zJ6 zLg (zoH zbx) default zI1 zJj)] []
theorem zJA (zbx:yC->Bool×ByteArray):zF (zAf zbx) (lp (body f167) 0):=zq (id:=12) (hl:=rfl)
def zA2 (zbx:yC->Bool×ByteArray) (x_:At):Wy0 (ByteArray):=.i (x_.Kind==0) (.bn (zzF x_.Row) λr4=>.k r4) (.i (x_.Kind==1) (.i (decide ((0:Int)<=(0:Int))&&decide (0<Int.ofNat x_.Ag.length)) (.bn (zbx (x_.Ag.getD (Int.toNat 0) default)) λr6=>.i (decide ((ByteArray.mk #[(109:UInt8),(111:UInt8),(110:UInt8),(117:UInt8),(115:UInt8),(91:UInt8)]).size+r6.size<=9223372036854775807)) (.i (decide ((ByteArray.mk #[(109:UInt8),(111:UInt8),(110:UInt8),(117:UInt8),(115:UInt8),(91:UInt8)]++r6).size+(ByteArray.mk #[(44:UInt8),(32:UInt8)]).size<=9223372036854775807)) (.i (decide ((0:Int)<=(1:Int))&&decide (1<Int.ofNat x_.Ag.length)) (.bn (zbx (x_.Ag.getD (Int.toNat 1) default)) λr5=>.i (decide ((ByteArray.mk #[(109:UInt8),(111:UInt8),(110:UInt8),(117:UInt8),(115:UInt8),(91:UInt8)]++r6++ByteArray.mk #[(44:UInt8),(32:UInt8)]).size+r5.size<=9223372036854775807)) (.i (decide ((ByteArray.mk #[(109:UInt8),(111:UInt8),(110:UInt8),(117:UInt8),(115:UInt8),(91:UInt8)]++r6++ByteArray.mk #[(44:UInt8),(32:UInt8)]++r5).size+(ByteArray.mk #[(93:UInt8)]).size<=9223372036854775807)) (.k (ByteArray.mk #[(109:UInt8),(111:UInt8),(110:UInt8),(117:UInt8),(115:UInt8),(91:UInt8)]++r6++ByteArray.mk #[(44:UInt8),(32:UInt8)]++r5++ByteArray.mk #[(93:UInt8)])) .d) .d) .d) .d) .d) .d) (.i (x_.Kind==2) (.i (decide ((0:Int)<=(0:Int))&&decide (0<Int.ofNat x_.Ag.length)) (.bn (zbx (x_.Ag.getD (Int.toNat 0) default)) λr7=>.i (decide ((ByteArray.mk #[(100:UInt8),(101:UInt8),(108:UInt8),(116:UInt8),(97:UInt8),(91:UInt8)]).size+r7.size<=9223372036854775807)) (.i (decide ((ByteArray.mk #[(100:UInt8),(101:UInt8),(108:UInt8),(116:UInt8),(97:UInt8),(91:UInt8)]++r7).size+(ByteArray.mk #[(93:UInt8)]).size<=9223372036854775807)) (.k (ByteArray.mk #[(100:UInt8),(101:UInt8),(108:UInt8),(116:UInt8),(97:UInt8),(91:UInt8)]++r7++ByteArray.mk #[(93:UInt8)])) .d) .d) .d) (.i (x_.Kind==3) (.i (decide ((0:Int)<=(0:Int))&&decide (0<Int.ofNat x_.Ag.length)) (.bn (zbx (x_.Ag.getD (Int.toNat 0) default)) λr8=>.i (decide ((ByteArray.mk #[(97:UInt8),(98:UInt8),(115:UInt8),(101:UInt8),(110:UInt8),(116:UInt8),(91:UInt8)]).size+r8.size<=9223372036854775807)) (.i (decide ((ByteArray.mk #[(97:UInt8),(98:UInt8),(115:UInt8),(101:UInt8),(110:UInt8),(116:UInt8),(91:UInt8)]++r8).size+(ByteArray.mk #[(93:UInt8)]).size<=9223372036854775807)) (.k (ByteArray.mk #[(97:UInt8),(98:UInt8),(115:UInt8),(101:UInt8),(110:UInt8),(116:UInt8),(91:UInt8)]++r8++ByteArray.mk #[(93:UInt8)])) .d) .d) .d) (.bn (zyy zbx (x_.Items.length+(Int.ofNat x_.Items.length).toNat +Int.toNat 0+x_.Ag.length+x_.Items.length+0+1) x_.Items (Int.ofNat x_.Items.length) 0 (At.mk x_.Kind x_.Row x_.Ag x_.Func x_.Items x_.Op x_.Bd) []) λr11=>.i (decide (0<=r11.1.Func)&&decide (r11.1.Func<Int.ofNat zci.2.length)) (.i (decide ((ByteArray.mk #[(116:UInt8),(101:UInt8),(115:UInt8),(116:UInt8),(91:UInt8)]).size+ByteArray.size (zci.2.getD r11.1.Func.toNat default)<=9223372036854775807)) (.i (decide ((ByteArray.mk #[(116:UInt8),(101:UInt8),(115:UInt8),(116:UInt8),(91:UInt8)]++zci.2.getD r11.1.Func.toNat default).size+(ByteArray.mk #[(123:UInt8)]).size<=9223372036854775807)) (.bn (strings_Join r11.2 (ByteArray.mk #[(59:UInt8),(32:UInt8)])) λr10=>.i (decide ((ByteArray.mk #[(116:UInt8),(101:UInt8),(115:UInt8),(116:UInt8),(91:UInt8)]++zci.2.getD r11.1.Func.toNat default++ByteArray.mk #[(123:UInt8)]).size+r10.size<=9223372036854775807)) (.i (decide ((ByteArray.mk #[(116:UInt8),(101:UInt8),(115:UInt8),(116:UInt8),(91:UInt8)]++zci.2.getD r11.1.Func.toNat default++ByteArray.mk #[(123:UInt8)]++r10).size+(ByteArray.mk #[(125:UInt8),(32:UInt8)]).size<=9223372036854775807)) (.i (decide (0<=IntKind.i64.wrap (r11.1.Op - 5))&&decide (IntKind.i64.wrap (r11.1.Op - 5)<Int.ofNat zd5.2.length)) (.i (decide ((ByteArray.mk #[(116:UInt8),(101:UInt8),(115:UInt8),(116:UInt8),(91:UInt8)]++zci.2.getD r11.1.Func.toNat default++ByteArray.mk #[(123:UInt8)]++r10++ByteArray.mk #[(125:UInt8),(32:UInt8)]).size+ByteArray.size (zd5.2.getD (IntKind.i64.wrap (r11.1.Op - 5)).toNat default)<=9223372036854775807)) (.i (decide ((ByteArray.mk #[(116:UInt8),(101:UInt8),(115:UInt8),(116:UInt8),(91:UInt8)]++zci.2.getD r11.1.Func.toNat default++ByteArray.mk #[(123:UInt8)]++r10++ByteArray.mk #[(125:UInt8),(32:UInt8)]++zd5.2.getD (IntKind.i64.wrap (r11.1.Op - 5)).toNat default).size+(ByteArray.mk #[(32:UInt8)]).size<=9223372036854775807)) (.bn (zwN r11.1.Bd) λr9=>.i (decide ((ByteArray.mk #[(116:UInt8),(101:UInt8),(115:UInt8),(116:UInt8),(91:UInt8)]++zci.2.getD r11.1.Func.toNat default++ByteArray.mk #[(123:UInt8)]++r10++ByteArray.mk #[(125:UInt8),(32:UInt8)]++zd5.2.getD (IntKind.i64.wrap (r11.1.Op - 5)).toNat default++ByteArray.mk #[(32:UInt8)]).size+r9.size<=9223372036854775807)) (.i (decide ((ByteArray.mk #[(116:UInt8),(101:UInt8),(115:UInt8),(116:UInt8),(91:UInt8)]++zci.2.getD r11.1.Func.toNat default++ByteArray.mk #[(123:UInt8)]++r10++ByteArray.mk #[(125:UInt8),(32:UInt8)]++zd5.2.getD (IntKind.i64.wrap (r11.1.Op - 5)).toNat default++ByteArray.mk #[(32:UInt8)]++r9).size+(ByteArray.mk #[(93:UInt8)]).size<=9223372036854775807)) (.k (ByteArray.mk #[(116:UInt8),(101:UInt8),(115:UInt8),(116:UInt8),(91:UInt8)]++zci.2.getD r11.1.Func.toNat default++ByteArray.mk #[(123:UInt8)]++r10++ByteArray.mk #[(125:UInt8),(32:UInt8)]++zd5.2.getD (IntKind.i64.wrap (r11.1.Op - 5)).toNat default++ByteArray.mk #[(32:UInt8)]++r9++ByteArray.mk #[(93:UInt8)])) .d) .d) .d) .d) .d) .d) .d) .d) .d) .d))))
def zjE (zbx:yC->Bool×ByteArray) (x_:At):=(zA2 zbx x_).fin default
theorem zIf (zbx:yC->Bool×ByteArray) (zXN:Sound Tryz.prog zb1 196 (zwA zbx)):Sound Tryz.prog zb1 167 (zm9 (zjE zbx)):=
 sU (cx':=(zAf zbx)) (zk ⟨zCz,zYi.nodr,zXN,z0c,zLE.nodr,zLr.nodr,trivial⟩) call167 func167 (lOK (aC (zJA zbx) aN))
abbrev zkm:=Unit×yD×Int×Int×Unit
abbrev zkf:=List ByteArray×Unit
def zfQ (zbj:At->Bool×ByteArray) (t7:yD) (t8:Int) (t9:Int) (out_:List ByteArray):Wy zkm zkf (List ByteArray):=.i (decide (t9<t8)) (.i (decide (0<=t9)&&decide (t9<Int.ofNat t7.length)) (.bn (zbj (At.mk (t7.getD t9.toNat default).At.Kind (t7.getD t9.toNat default).At.Row (t7.getD t9.toNat default).At.Ag (t7.getD t9.toNat default).At.Func (t7.getD t9.toNat default).At.Items (t7.getD t9.toNat default).At.Op (t7.getD t9.toNat default).At.Bd)) λr1=>.i ((t7.getD t9.toNat default).Exp != 1) (.bn (strconv_Itoa (t7.getD t9.toNat default).Exp) λr0=>.i (decide ((ByteArray.mk #[(94:UInt8)]).size+r0.size<=9223372036854775807)) (.i (decide (r1.size+(ByteArray.mk #[(94:UInt8)]++r0).size<=9223372036854775807)) (.i (decide ((out_.length+[r1++(ByteArray.mk #[(94:UInt8)]++r0)].length)*16<=zN)) (.h ((),t7,t8,(IntKind.i64.wrap (t9+1)),()) ((out_++[r1++(ByteArray.mk #[(94:UInt8)]++r0)]),())) .d) .d) .d) (.i (decide ((out_.length+[r1].length)*16<=zN)) (.h ((),t7,t8,(IntKind.i64.wrap (t9+1)),()) ((out_++[r1]),())) .d)) .d) (.k out_)
def zmY (zbj:At->Bool×ByteArray) (x:zkm) (y:zkf):=zfQ zbj x.2.1 x.2.2.1 x.2.2.2.1 y.1
def zv5 (zbj:At->Bool×ByteArray) (n:Nat) (t7:yD) (t8:Int) (t9:Int) (out_:List ByteArray):=zC (zmY zbj) default n ((),t7,t8,t9,()) (out_,())
def zG5 (r:List ByteArray):LTree ty:=.done (.exit 0) [.own 128] [.arr 9 r false]
def zH3:LL ty zkm:=za (zds 128) (za (lSl 69) (za zj (za zj zl)))
def zIg:BL ty zkf:=zdA 9 false (zbd)
def zHO (x:zkm) (y:zkf):Nat:=(x.2.1.length+Int.toNat x.2.2.1+Int.toNat x.2.2.2.1+y.1.length+1)
def zv6 (zbj:At->Bool×ByteArray):=zbV zb1 32 [(167,(zm9 zbj)),(168,zD5),(169,zwo)] [] [(3,[(3,.own 9),(7,.keep),(8,.keep),(9,.keep)])] [(3,1,(kpL [3]))] [(3,spW zH3 zIg (zmY zbj) default zG5 zHO)] []
theorem zG0 (zbj:At->Bool×ByteArray):zF (zv6 zbj) (lp (body f139) 0):=zq (id:=3) (hl:=rfl)
def zwL (zbj:At->Bool×ByteArray) (l:yD):Wy0 (ByteArray):=.bn (zv5 zbj (l.length+(Int.ofNat l.length).toNat +Int.toNat 0+0+1) l (Int.ofNat l.length) 0 []) λr5=>.bn (strings_Join r5 (ByteArray.mk #[(42:UInt8)])) λr4=>.k r4
def zhi (zbj:At->Bool×ByteArray) (l:yD):=(zwL zbj l).fin default
theorem zFB (zbj:At->Bool×ByteArray) (zNO:Sound Tryz.prog zb1 167 (zm9 zbj)):Sound Tryz.prog zb1 139 (zhc (zhi zbj)):=
 sU (cx':=(zv6 zbj)) (zk ⟨zNO,zKC.nodr,zCz,trivial⟩) call139 func139 (lOK (aC (zG0 zbj) aN))
abbrev zva:=Unit×yC×Int×Int×Unit
abbrev zum:=List ByteArray×Unit
def zms (z6:yD->Bool×ByteArray) (t9:yC) (t10:Int) (t11:Int) (out_:List ByteArray):Wy zva zum (List ByteArray):=.i (decide (t11<t10)) (.i (decide (0<=t11)&&decide (t11<Int.ofNat t9.length)) (.i (Int.ofNat (t9.getD t11.toNat default).Fs.length==0) (.bn (zjW (t9.getD t11.toNat default).Cf 10) λr0=>.i (decide ((out_.length+[r0].length)*16<=zN)) (.h ((),t9,t10,(IntKind.i64.wrap (t11+1)),()) ((out_++[r0]),())) .d) (.i ((t9.getD t11.toNat default).Cf==1) (.bn (z6 (t9.getD t11.toNat default).Fs) λr1=>.i (decide ((out_.length+[r1].length)*16<=zN)) (.h ((),t9,t10,(IntKind.i64.wrap (t11+1)),()) ((out_++[r1]),())) .d) (.bn (zjW (t9.getD t11.toNat default).Cf 10) λr3=>.i (decide (r3.size+(ByteArray.mk #[(42:UInt8)]).size<=9223372036854775807)) (.bn (z6 (t9.getD t11.toNat default).Fs) λr2=>.i (decide ((r3++ByteArray.mk #[(42:UInt8)]).size+r2.size<=9223372036854775807)) (.i (decide ((out_.length+[r3++ByteArray.mk #[(42:UInt8)]++r2].length)*16<=zN)) (.h ((),t9,t10,(IntKind.i64.wrap (t11+1)),()) ((out_++[r3++ByteArray.mk #[(42:UInt8)]++r2]),())) .d) .d) .d))) .d) (.k out_)
def zy3 (z6:yD->Bool×ByteArray) (x:zva) (y:zum):=zms z6 x.2.1 x.2.2.1 x.2.2.2.1 y.1
def zGX (z6:yD->Bool×ByteArray) (n:Nat) (t9:yC) (t10:Int) (t11:Int) (out_:List ByteArray):=zC (zy3 z6) default n ((),t9,t10,t11,()) (out_,())
def zUP (r:List ByteArray):LTree ty:=.done (.exit 0) [.own 200] [.arr 9 r false]
def zWD:LL ty zva:=za (zds 200) (za (lSl 28) (za zj (za zj zl)))
def zWF:BL ty zum:=zdA 9 false (zbd)
def zUy (x:zva) (y:zum):Nat:=(x.2.1.length+Int.toNat x.2.2.1+Int.toNat x.2.2.2.1+y.1.length+1)
def zGK (z6:yD->Bool×ByteArray):=zbV zb1 50 [(139,(zhc z6)),(169,zwo),(227,zvw)] [] [(5,[(3,.own 9),(9,.keep),(10,.keep),(11,.keep)])] [(5,1,(kpL [3]))] [(5,spW zWD zWF (zy3 z6) default zUP zUy)] []
theorem zUz (z6:yD->Bool×ByteArray):zF (zGK z6) (lp (body f196) 0):=zq (id:=5) (hl:=rfl)
def zIh (z6:yD->Bool×ByteArray) (a:yC):Wy0 (ByteArray):=.i (Int.ofNat a.length==0) (.k (ByteArray.mk #[(48:UInt8)])) (.bn (zGX z6 (a.length+(Int.ofNat a.length).toNat +Int.toNat 0+0+1) a (Int.ofNat a.length) 0 []) λr9=>.bn (strings_Join r9 (ByteArray.mk #[(32:UInt8),(43:UInt8),(32:UInt8)])) λr8=>.k r8)
def zpS (z6:yD->Bool×ByteArray) (a:yC):=(zIh z6 a).fin default
theorem zQr (z6:yD->Bool×ByteArray) (zIK:Sound Tryz.prog zb1 139 (zhc z6)):Sound Tryz.prog zb1 196 (zwA (zpS z6)):=
 sU (cx':=(zGK z6)) (zk ⟨zIK,zCz,zDM.nodr,trivial⟩) call196 func196 (lOK (aC (zUz z6) aN))
def zJv:Nat->(yC->Bool×ByteArray)×(At->Bool×ByteArray)×(yD->Bool×ByteArray)
 | 0=>(λ_=>(false,default),λ_=>(false,default),λ_=>(false,default))
 | n+1=>(zpS ((zJv n).2.2),zjE ((zJv n).1),zhi ((zJv n).2.1))
def zwl (n:Nat):yC->Bool×ByteArray:=(zJv n).1
def znd (n:Nat):At->Bool×ByteArray:=(zJv n).2.1
def zhl (n:Nat):yD->Bool×ByteArray:=(zJv n).2.2
theorem zUZ (n:Nat):zwl (n+1)=zpS (zhl n):=rfl
theorem zL5 (n:Nat):znd (n+1)=zjE (zwl n):=rfl
theorem zH7 (n:Nat):zhl (n+1)=zhi (znd n):=rfl
theorem z6k:∀ n,Sound Tryz.prog zb1 196 (zwA (zwl n))/\Sound Tryz.prog zb1 167 (zm9 (znd n))/\Sound Tryz.prog zb1 139 (zhc (zhl n))
 | 0=>⟨zbb call196 (λ_=>rfl),zbb call167 (λ_=>rfl),zbb call139 (λ_=>rfl)⟩
 | n+1=>by
  have ih:=z6k n;exact ⟨zQr _ (ih.2.2),zIf _ (ih.1),zFB _ (ih.2.1)⟩
def zst:yD->Bool×ByteArray:=zhl 1000
def zv2:Ab.Spec ty:=zhc zst
theorem zHB:Sound Tryz.prog zb1 139 zv2:=(z6k 1000).2.2
def zlV (x:yC) (a b lim:Int):Bool×yC:=z8V zb9 x a b lim
def zDi:Ab.Spec ty:=zi (cx:=base) (ze (zq1 28) (ze (zf (znK .i64)) (ze (zf (znK .i64)) (ze (zf (znK .i64)) (ze (zf (vFn 63 zb5)) zu))))) λx=>((zlV x.1 x.2.1 x.2.2.1 x.2.2.2.1).1,⟨[],[some ⟨28,(zlV x.1 x.2.1 x.2.2.1 x.2.2.2.1).2⟩]⟩)
theorem zEq (c:Unit) (x y:Term) (h:(zb9 x y).1=true):zjk ((AV.agg (base.enc 28 x)::AV.agg (base.enc 28 y)::(zb5:VL base Unit).enc c).map Arg.pure)=some (true,⟨[.pure (.lit (.int .i64 (zb9 x y).2))],[]⟩):=by
 rw [<- h]; kernel_rfl
theorem zDe:SdP 155 zDi:=by
 letI:DecidableEq (ty 28):=inferInstanceAs (DecidableEq Term)
 exact zbeH (T:=28) zkn rfl Go.Proofs.Tryz.pdqTerm Tryz.isAgg28 (by unfold zx; exact Tryz.sizeOf28) call155 zmN zb5 (λc=>zb9) zEq
open Go.Proofs Go.RowKit
def zbS (x:yC):Bool×yC:=zDc zb9 x
def zfC:Ab.Spec ty:=zi (cx:=base) (ze (zq1 28) (ze (zf (vFn 63 zb5)) zu)) λx=>((zbS x.1).1,⟨[],[some ⟨28,(zbS x.1).2⟩]⟩)
set_option maxHeartbeats 1000000 in
theorem zuQ:SdP 96 zfC where
 enters:=call96
 calls:=λavs r hsp w F vs hF ha hsep=>by
  unfold zfC zi at hsp;split at hsp
  ·rename_i x hx;simp only [qa,qb] at hsp;obtain ⟨hpre,rfl⟩:=hsp;have hk:=(ze (zq1 28) (ze (zf (vFn 63 zb5)) zu):AL base _).kind vs avs x hx;have ha':=(ze (zq1 28) (ze (zf (vFn 63 zb5)) zu):AL base _).ok Tryz.prog zkn F w vs avs x hx ha;rw [hk] at hsep ⊢;clear hk hx ha;obtain ⟨l0,c,u0⟩:=x;obtain ⟨l,rfl⟩:∃ l:yC,l=l0:=⟨l0,rfl⟩;obtain ⟨v,vs',rfl,hv,hv'⟩:=ha'.inv;obtain ⟨fv,vs'',rfl,hfv,h0⟩:=hv'.inv;obtain rfl:=h0.nil_left.1
   have hsl:∃ p cap,v=.slice p l.length cap:=by
    obtain ⟨⟨xs,hown,_⟩,_⟩:=(show zdJ base F w v 28 l/\∀ b,zbm v=some b->¬ F b from hv)
    rcases hown.2 with ⟨h1,h2⟩ | ⟨g0,cap,cur,h1,_⟩
    ·exact ⟨none,0,by rw [h1,show l.length=0 from h2]⟩
    ·exact ⟨_,cap,h1⟩
   have hok:SortOK (α:=Term) zb9 l:=of_decide_eq_true (p:=SortOK (α:=Term) zb9 l) hpre;have hlen:l.length<4611686018427387904:=hok.size;have hbl:Lib.bitLen l.length<4611686018427387904:=Nat.lt_of_le_of_lt (Lib.bitLen_le l.length 62 (by omega) (by omega)) (by omega)
   have hpp:(zlV l 0 (l.length:Int) ((Lib.bitLen l.length:Nat):Int)).1=true:=by
    show (decide (SortOK (α:=Term) zb9 l)&&(decide ((0:Int)=0)&&(decide ((l.length:Int)=l.length)&&(decide ((0:Int)<=((Lib.bitLen l.length:Nat):Int))&&decide (((Lib.bitLen l.length:Nat):Int)<4611686018427387904)))))=true;simp only [qc,qe];exact ⟨hok,trivial,trivial,by omega,by omega⟩
   have hp:=(zDe).calls [.own 28 l,.pure (.lit (.int .i64 0)),.pure (.lit (.int .i64 (l.length:Int))),.pure (.lit (.int .i64 ((Lib.bitLen l.length:Nat):Int))),.pure (.fn 63 [])] ⟨[],[some ⟨28,(zbS l).2⟩]⟩
    (by rw [<- hpp]; kernel_rfl) w F [v,.int .i64 0,.int .i64 (l.length:Int),.int .i64 ((Lib.bitLen l.length:Nat):Int),fv] hF (.cons hv (.cons (Rep.lit _) (.cons (Rep.lit _) (.cons (Rep.lit _) (.cons hfv .nil))))) hsep
   replace hp:Calls Tryz.prog 155 #[v,.int .i64 0,.int .i64 (l.length:Int),.int .i64 ((Lib.bitLen l.length:Nat):Int),fv] w λe w'=>∃ u,e=.returned u/\Post base F w [v] ⟨[],[some ⟨28,(zbS l).2⟩]⟩ u w':=hp
   show Calls Tryz.prog 96 #[v,fv] w λe w'=>∃ u,e=.returned u/\Post base F w [v] ⟨[],[some ⟨28,(zbS l).2⟩]⟩ u w'
   have hb:Calls Tryz.prog 156 #[.int .u64 (l.length:Int)] w λe w'=>e=.returned (.int .i64 ((Lib.bitLen l.length:Nat):Int))/\w'=w:=by
    have h:=Any.bits_Len Go.Proofs.Tryz.lays125 (l.length:Int) w (by omega) (by omega)
    rwa [Int.toNat_natCast] at h
   have wr:IntKind.u64.wrap (l.length:Int)=l.length:=by simp [IntKind.wrap,IntKind.bits,IntKind.signed]; omega
   generalize (zbS l).2=res at hp ⊢;generalize hn:l.length=m at *;generalize Lib.bitLen m=bl at *;clear hpp hv hfv hsep hok hpre hF;obtain ⟨p,cap,rfl⟩:=hsl;clear hn
   go_enter func96,ntmps96
   go_wp2_with (first | (go_at_call 156; refine hb.mono ?_; rintro e w' ⟨rfl,rfl⟩) | (go_at_call 155; refine hp.mono ?_; rintro e w' ⟨u,rfl,hpost⟩; obtain rfl:=hpost.unit))
   go_end0
   exact ⟨_,rfl,hpost⟩
  ·cases hsp
end Go.Proofs.YtljlfiomikifjaaGreatDoor
namespace Go.Proofs.YtljlfiomikifjaaGreatDoor
open Go Go.Ab
open Go.Proofs.Tryz
abbrev zpo:=Unit×Unit×yC×Int×Int×Unit
abbrev zpi:=(List (_root_.Go.Value×Int))×yC×Unit
def zla (t11:yC) (t12:Int) (t13:Int) (at_:List (_root_.Go.Value×Int)) (out_:yC):Wy zpo zpi (yC):=.i (decide (t13<t12)) (.i (decide (0<=t13)&&decide (t13<Int.ofNat t11.length)) (.bn (zst (t11.getD t13.toNat default).Fs) λr0=>.i (zbeM (Value.string r0) at_) (.i (decide (0<=(zG9 (Value.string r0) at_).getD 0)&&decide ((zG9 (Value.string r0) at_).getD 0<Int.ofNat out_.length)) (.i (decide (0<=(zG9 (Value.string r0) at_).getD 0)&&decide ((zG9 (Value.string r0) at_).getD 0<Int.ofNat out_.length)) (.i (decide (Int.toNat ((zG9 (Value.string r0) at_).getD 0)<out_.length)) (.h ((),(),t11,t12,(IntKind.i64.wrap (t13+1)),()) (at_,(out_.set (Int.toNat ((zG9 (Value.string r0) at_).getD 0)) (TO.mk (if 1152921504606846976<IntKind.i64.wrap ((out_.getD (Int.toNat ((zG9 (Value.string r0) at_).getD 0)) default).Cf+(t11.getD t13.toNat default).Cf) then 1152921504606846976 else IntKind.i64.wrap ((out_.getD (Int.toNat ((zG9 (Value.string r0) at_).getD 0)) default).Cf+(t11.getD t13.toNat default).Cf)) (out_.getD (Int.toNat ((zG9 (Value.string r0) at_).getD 0)) default).Fs)),())) .d) .d) .d) (.i (decide ((out_.length+[t11.getD t13.toNat default].length)*32<=zN)) (.h ((),(),t11,t12,(IntKind.i64.wrap (t13+1)),()) ((zbeL (Value.string r0) (Int.ofNat out_.length) at_),(out_++[t11.getD t13.toNat default]),())) .d)) .d) (.k out_)
def zw3 (x:zpo) (y:zpi):=zla x.2.2.1 x.2.2.2.1 x.2.2.2.2.1 y.1 y.2.1
def zwY (n:Nat) (t11:yC) (t12:Int) (t13:Int) (at_:List (_root_.Go.Value×Int)) (out_:yC):=zC (zw3) default n ((),(),t11,t12,t13,()) (at_,out_,())
def zSf (r:yC):LTree ty:=.done (.exit 0) [.own 208] [.arr 28 r false]
def zTK:LL ty zpo:=za (lMp 208) (za (zds 209) (za (lSl 28) (za zj (za zj zl))))
def zT5:BL ty zpi:=bMp 9 3 false (zdA 28 false (zbd))
def zSb (x:zpo) (y:zpi):Nat:=(x.2.2.1.length+Int.toNat x.2.2.2.1+Int.toNat x.2.2.2.2.1+y.1.length+y.2.1.length+1)
def zF0:=zbV zb1 52 [(63,zjk),(96,zfC),(139,zv2)] [(96,[true,false])] [(4,[(3,.keep),(4,.own 28),(11,.keep),(12,.keep),(13,.keep)])] [(4,1,(kpL [4]))] [(4,spW zTK zT5 (zw3) default zSf zSb)] []
theorem zSZ:zF zF0 (lp (body f71) 0):=zq (id:=4) (hl:=rfl)
def zHL (terms:yC):Wy0 (yC):=.bn (zwY (terms.length+(Int.ofNat terms.length).toNat +Int.toNat 0+0+0+1) terms (Int.ofNat terms.length) 0 [] []) λr3=>.bn (zbS r3) λr2=>.k r2
def ziW (terms:yC):=(zHL terms).fin default
def zS6 (r:yC):ARes ty:=⟨[.own 28 r],[]⟩
def ztZ:=zi z28 λx=>((ziW x.1).1,zS6 (ziW x.1).2)
theorem zCZ:Sound Tryz.prog zb1 71 ztZ:=
 sU (cx':=zF0) (zk ⟨zmN.nodr,zuQ.nodr,zHB,trivial⟩) call71 func71 (lOK (aC zSZ aN)) (sg:=⟨[.own 28],[]⟩)
def zni (F:yC->Bool×yC):Ab.Spec ty:=zi zZm λx=>((F x.1).1,zS6 (F x.1).2)
def zNB (r:At):ARes ty:=⟨[.pure (.agg (base.enc 67 r))],[]⟩
def zmZ (F:At->Bool×At):Ab.Spec ty:=zi zEP λx=>((F x.1).1,zNB (F x.1).2)
def ze4:Cx ty:={ base with nt:=8 }
def zfF (s:yD):Bool×yD:=(decide (s.length*128<=zN),s)
def zmh:Ab.Spec ty:=zi (cx:=base) (ze (zf (vSl 69)) zu) λx=>((zfF x.1).1,⟨[.own 69 (zfF x.1).2],[]⟩)
theorem zAe:zgU ze4 f95 (body f95) ⟨[.own 69],[]⟩ [.pure (.lit (.slice none 0 0))]=some ⟨[.own 69 []],[]⟩:=by kernel_rfl
theorem zyc (p:Addr) (c:Nat):zgU ze4 f95 (body f95) ⟨[.own 69],[]⟩ [.pure (.lit (.slice (some p) 0 c))]=some ⟨[.own 69 []],[]⟩:=by kernel_rfl
theorem zyD (l:yD):zgU ze4 f95 (body f95) ⟨[.own 69],[]⟩ [.pure (.sl 69 l)]=bif !l.isEmpty then bif decide ((([]:List (ty 69)).length+l.length)*128<=zN) then some ⟨[.own 69 l],[]⟩ else none else none:=by kernel_rfl
theorem zyk:SdP 95 zmh:=
 zJU (cx':=ze4) (bytes:=128) zGC zkn ⟨⟨rfl,rfl,rfl,rfl,rfl,rfl⟩,rfl⟩ (λg s h=>by cases h) call95 func95 (c:=body f95) (by kernel_rfl) (zDD (l:=[]) (by kernel_rfl) trivial) zAe zyc zyD (by kernel_rfl)
abbrev zqL:=Unit×Unit×Unit×yC×Int×Int×Int×Int×Unit
abbrev zqF:=yC×Term×yD×Unit
abbrev zHw:=yC×Int×Int×yC×Term×yD
abbrev zqR:=Unit×yC×Int×Int×Unit
abbrev zqu:=yC×Unit
def zkI (zM:At->Bool×At) (t8:yC) (t9:Int) (t10:Int) (t18:Int) (t19:Int) (out_:yC) (t:Term) (factors:yD):Wy zqL zqF zHw:=.i (decide (t19<t18)) (.i (decide (0<=t19)&&decide (t19<Int.ofNat factors.length)) (.bn (zM (At.mk (factors.getD t19.toNat default).At.Kind (factors.getD t19.toNat default).At.Row (factors.getD t19.toNat default).At.Ag (factors.getD t19.toNat default).At.Func (factors.getD t19.toNat default).At.Items (factors.getD t19.toNat default).At.Op (factors.getD t19.toNat default).At.Bd)) λr2=>.i (decide (0<=t19)&&decide (t19<Int.ofNat factors.length)) (.i (decide (t19.toNat<factors.length)) (.h ((),(),(),t8,t9,t10,t18,(IntKind.i64.wrap (t19+1)),()) (out_,t,(factors.set t19.toNat (FO.mk (At.mk r2.Kind r2.Row r2.Ag r2.Func r2.Items r2.Op r2.Bd) (factors.getD t19.toNat default).Exp)),())) .d) .d) .d) (.k (t8,t9,t10,out_,t,factors))
def zvj (zM:At->Bool×At) (x:zqL) (y:zqF):=zkI zM x.2.2.2.1 x.2.2.2.2.1 x.2.2.2.2.2.1 x.2.2.2.2.2.2.1 x.2.2.2.2.2.2.2.1 y.1 y.2.1 y.2.2.1
def zEN (zM:At->Bool×At) (n:Nat) (t8:yC) (t9:Int) (t10:Int) (t18:Int) (t19:Int) (out_:yC) (t:Term) (factors:yD):=zC (zvj zM) default n ((),(),(),t8,t9,t10,t18,t19,()) (out_,t,factors,())
def zQy (r:zHw):LTree ty:=.done (.exit 2) [.own 168,.ptr 169 0,.own 170,.sl 28 r.1,.lit (.int .i64 r.2.1),.lit (.int .i64 r.2.2.1)] [.arr 28 r.2.2.2.1 false,.box (base.enc 28 r.2.2.2.2.1) false,.arr 69 r.2.2.2.2.2 false]
def zSp:LL ty zqL:=za (zds 168) (za (ze3 169 0) (za (zds 170) (za (lSl 28) (za zj (za zj (za zj (za zj zl)))))))
def zRY:BL ty zqF:=zdA 28 false (zhS (zf1 (λx=>(⟨x.1,x.2.1⟩:Term)) (λx=>(x.Cf,x.Fs,())) (λ_=>rfl) (za (zR .i64) (za (lSl 69) zl))) false (zdA 69 false (zbd)))
def zkG (zM:At->Bool×At) (t8:yC) (t9:Int) (t10:Int) (out_:yC):Wy zqR zqu (yC):=.i (decide (t10<t9)) (.i (decide (0<=t10)&&decide (t10<Int.ofNat t8.length)) (.bn (zfF (t8.getD t10.toNat default).Fs) λr5=>.bn (zEN zM (t8.length+t9.toNat +t10.toNat +(Int.ofNat r5.length).toNat +Int.toNat 0+out_.length+(t8.getD t10.toNat default).Fs.length+r5.length+1) t8 t9 t10 (Int.ofNat r5.length) 0 out_ (t8.getD t10.toNat default) r5) λr4=>.i (decide ((r4.2.2.2.1.length+[TO.mk r4.2.2.2.2.1.Cf r4.2.2.2.2.2].length)*32<=zN)) (.h ((),(r4.1),(r4.2.1),(IntKind.i64.wrap (r4.2.2.1+1)),()) ((r4.2.2.2.1++[TO.mk r4.2.2.2.2.1.Cf r4.2.2.2.2.2]),())) .d) .d) (.k out_)
def zvt (zM:At->Bool×At) (x:zqR) (y:zqu):=zkG zM x.2.1 x.2.2.1 x.2.2.2.1 y.1
def zEW (zM:At->Bool×At) (n:Nat) (t8:yC) (t9:Int) (t10:Int) (out_:yC):=zC (zvt zM) default n ((),t8,t9,t10,()) (out_,())
def zQK (r:yC):LTree ty:=.done (.exit 0) [.own 168] [.arr 28 r false]
def zSW:LL ty zqR:=za (zds 168) (za (lSl 28) (za zj (za zj zl)))
def zSX:BL ty zqu:=zdA 28 false (zbd)
def zQJ (x:zqL) (y:zqF):Nat:=(x.2.2.2.1.length+Int.toNat x.2.2.2.2.1+Int.toNat x.2.2.2.2.2.1+Int.toNat x.2.2.2.2.2.2.1+Int.toNat x.2.2.2.2.2.2.2.1+y.1.length+y.2.1.Fs.length+y.2.2.1.length+1)
def zQw (x:zqR) (y:zqu):Nat:=(x.2.1.length+Int.toNat x.2.2.1+Int.toNat x.2.2.2.1+y.1.length+1)
def zvr (zM:At->Bool×At):=zbV base 42 [(95,zmh),(151,(zmZ zM))] [] [(3,[(3,.own 28),(8,.keep),(9,.keep),(10,.keep)]),(7,(kpL [3,5,6,8,9,10,18,19]))] [(3,1,(kpL [3])),(7,3,(kpL [3,5,6,8,9,10]))] [(7,spW zSp zRY (zvj zM) default zQy zQJ),(3,spW zSW zSX (zvt zM) default zQK zQw)] []
theorem zQC (zM:At->Bool×At):zF (zvr zM) (lp (body f87) 1):=zq (id:=7) (hl:=rfl)
theorem zQl (zM:At->Bool×At):zF (zvr zM) (lp (body f87) 0):=zq (id:=3) (hl:=rfl)
def zFU (zM:At->Bool×At) (a:yC):Wy0 (yC):=.bn (zEW zM (a.length+(Int.ofNat a.length).toNat +Int.toNat 0+0+1) a (Int.ofNat a.length) 0 []) λr8=>.k r8
def znx (zM:At->Bool×At) (a:yC):=(zFU zM a).fin default
theorem zNi (zM:At->Bool×At) (zNK:SdP 151 (zmZ zM)):SdP 87 (zni (znx zM)):=
 sT (cx':=(zvr zM)) (zk ⟨zyk,zNK,trivial⟩) call87 func87 (lOK (aC (zQl zM) (aC (zQC zM) aN))) (sg:=⟨[.own 28],[]⟩)
def zdE:Cx ty:={ base with nt:=8 }
def zeg (s:yA):Bool×yA:=(decide (s.length*24<=zN),s)
def ziB:Ab.Spec ty:=zi (cx:=base) (ze (zf (vSl 23)) zu) λx=>((zeg x.1).1,⟨[.own 23 (zeg x.1).2],[]⟩)
theorem zsP:zgU zdE f181 (body f181) ⟨[.own 23],[]⟩ [.pure (.lit (.slice none 0 0))]=some ⟨[.own 23 []],[]⟩:=by kernel_rfl
theorem zrC (p:Addr) (c:Nat):zgU zdE f181 (body f181) ⟨[.own 23],[]⟩ [.pure (.lit (.slice (some p) 0 c))]=some ⟨[.own 23 []],[]⟩:=by kernel_rfl
theorem zsA (l:yA):zgU zdE f181 (body f181) ⟨[.own 23],[]⟩ [.pure (.sl 23 l)]=bif !l.isEmpty then bif decide ((([]:List (ty 23)).length+l.length)*24<=zN) then some ⟨[.own 23 l],[]⟩ else none else none:=by kernel_rfl
theorem zry:SdP 181 ziB:=
 zJU (cx':=zdE) (bytes:=24) zGC zkn ⟨⟨rfl,rfl,rfl,rfl,rfl,rfl⟩,rfl⟩ (λg s h=>by cases h) call181 func181 (c:=body f181) (by kernel_rfl) (zDD (l:=[]) (by kernel_rfl) trivial) zsP zrC zsA (by kernel_rfl)
def zek:Cx ty:={ base with nt:=8 }
def zeY (s:yE):Bool×yE:=(decide (s.length*56<=zN),s)
def zkr:Ab.Spec ty:=zi (cx:=base) (ze (zf (vSl 100)) zu) λx=>((zeY x.1).1,⟨[.own 100 (zeY x.1).2],[]⟩)
theorem zwg:zgU zek f182 (body f182) ⟨[.own 100],[]⟩ [.pure (.lit (.slice none 0 0))]=some ⟨[.own 100 []],[]⟩:=by kernel_rfl
theorem zur (p:Addr) (c:Nat):zgU zek f182 (body f182) ⟨[.own 100],[]⟩ [.pure (.lit (.slice (some p) 0 c))]=some ⟨[.own 100 []],[]⟩:=by kernel_rfl
theorem zvy (l:yE):zgU zek f182 (body f182) ⟨[.own 100],[]⟩ [.pure (.sl 100 l)]=bif !l.isEmpty then bif decide ((([]:List (ty 100)).length+l.length)*56<=zN) then some ⟨[.own 100 l],[]⟩ else none else none:=by kernel_rfl
theorem zul:SdP 182 zkr:=
 zJU (cx':=zek) (bytes:=56) zGC zkn ⟨⟨rfl,rfl,rfl,rfl,rfl,rfl⟩,rfl⟩ (λg s h=>by cases h) call182 func182 (c:=body f182) (by kernel_rfl) (zDD (l:=[]) (by kernel_rfl) trivial) zwg zur zvy (by kernel_rfl)
abbrev zeb:=Unit×Unit×Int×Int×Unit
abbrev zmb:=(Int×Int×Int×Unit×Int×yE×Int×Int×Int×ByteArray×Unit)×(Int×Int×Int×Unit×Int×Unit×Int×Int×Int×ByteArray×Unit)×yA×Unit
abbrev zDa:=Int×Int×Int×Int×yE×Int×Int×Int×ByteArray×Int×Int×Int×Int×Int×Int×Int×ByteArray×yA
abbrev zlX:=(Int×Int×Int×Unit×Int×Unit×Int×Int×Int×ByteArray×Unit)×(Int×Int×Int×Unit×Int×Unit×Int×Int×Int×ByteArray×Unit)×yA×yE×Unit
abbrev zB9:=Int×Int×Int×Int×Int×Int×Int×ByteArray×Int×Int×Int×Int×Int×Int×Int×ByteArray×yA×yE
def zhg (zZ:yC->Bool×yC) (t11:Int) (t12:Int) (x_0:Int) (x_1:Int) (x_2:Int) (x_3:Int) (x_4:yE) (x_5:Int) (x_6:Int) (x_7:Int) (x_8:ByteArray) (t2_0:Int) (t2_1:Int) (t2_2:Int) (t2_3:Int) (t2_4:Int) (t2_5:Int) (t2_6:Int) (t2_7:ByteArray) (b2:yA):Wy zeb zmb zDa:=.i (decide (t12<t11)) (.i (decide (0<=t12)&&decide (t12<Int.ofNat b2.length)) (.bn (zZ (b2.getD t12.toNat default)) λr0=>.i (decide (0<=t12)&&decide (t12<Int.ofNat b2.length)) (.i (decide (t12.toNat<b2.length)) (.h ((),(),t11,(IntKind.i64.wrap (t12+1)),()) ((x_0,x_1,x_2,(),x_3,x_4,x_5,x_6,x_7,x_8,()),(t2_0,t2_1,t2_2,(),t2_3,(),t2_4,t2_5,t2_6,t2_7,()),(b2.set t12.toNat r0),())) .d) .d) .d) (.k (x_0,x_1,x_2,x_3,x_4,x_5,x_6,x_7,x_8,t2_0,t2_1,t2_2,t2_3,t2_4,t2_5,t2_6,t2_7,b2))
def zpz (zZ:yC->Bool×yC) (x:zeb) (y:zmb):=zhg zZ x.2.2.1 x.2.2.2.1 y.1.1 y.1.2.1 y.1.2.2.1 y.1.2.2.2.2.1 y.1.2.2.2.2.2.1 y.1.2.2.2.2.2.2.1 y.1.2.2.2.2.2.2.2.1 y.1.2.2.2.2.2.2.2.2.1 y.1.2.2.2.2.2.2.2.2.2.1 y.2.1.1 y.2.1.2.1 y.2.1.2.2.1 y.2.1.2.2.2.2.1 y.2.1.2.2.2.2.2.2.1 y.2.1.2.2.2.2.2.2.2.1 y.2.1.2.2.2.2.2.2.2.2.1 y.2.1.2.2.2.2.2.2.2.2.2.1 y.2.2.1
def zzM (zZ:yC->Bool×yC) (n:Nat) (t11:Int) (t12:Int) (x_0:Int) (x_1:Int) (x_2:Int) (x_3:Int) (x_4:yE) (x_5:Int) (x_6:Int) (x_7:Int) (x_8:ByteArray) (t2_0:Int) (t2_1:Int) (t2_2:Int) (t2_3:Int) (t2_4:Int) (t2_5:Int) (t2_6:Int) (t2_7:ByteArray) (b2:yA):=zC (zpz zZ) default n ((),(),t11,t12,()) ((x_0,x_1,x_2,(),x_3,x_4,x_5,x_6,x_7,x_8,()),(t2_0,t2_1,t2_2,(),t2_3,(),t2_4,t2_5,t2_6,t2_7,()),b2,())
def zKm (r:zDa):LTree ty:=.done (.exit 0) [.ptr 200 0,.ptr 201 0] [.box ([.lit (.int .i64 r.1),.lit (.int .i64 r.2.1),.lit (.int .i64 r.2.2.1),.own 202,.lit (.int .i64 r.2.2.2.1),.sl 100 r.2.2.2.2.1,.lit (.int .i64 r.2.2.2.2.2.1),.lit (.int .i64 r.2.2.2.2.2.2.1),.lit (.int .i64 r.2.2.2.2.2.2.2.1),.lit (.string r.2.2.2.2.2.2.2.2.1)]) false,.box ([.lit (.int .i64 r.2.2.2.2.2.2.2.2.2.1),.lit (.int .i64 r.2.2.2.2.2.2.2.2.2.2.1),.lit (.int .i64 r.2.2.2.2.2.2.2.2.2.2.2.1),.lit (.slice none 0 0),.lit (.int .i64 r.2.2.2.2.2.2.2.2.2.2.2.2.1),.lit (.slice none 0 0),.lit (.int .i64 r.2.2.2.2.2.2.2.2.2.2.2.2.2.1),.lit (.int .i64 r.2.2.2.2.2.2.2.2.2.2.2.2.2.2.1),.lit (.int .i64 r.2.2.2.2.2.2.2.2.2.2.2.2.2.2.2.1),.lit (.string r.2.2.2.2.2.2.2.2.2.2.2.2.2.2.2.2.1)]) false,.arr 23 r.2.2.2.2.2.2.2.2.2.2.2.2.2.2.2.2.2 false]
def zLT:LL ty zeb:=za (ze3 200 0) (za (ze3 201 0) (za zj (za zj zl)))
def zMh:BL ty zmb:=zhS (za (zR .i64) (za (zR .i64) (za (zR .i64) (za (zds 202) (za (zR .i64) (za (lSl 100) (za (zR .i64) (za (zR .i64) (za (zR .i64) (za zrP zl)))))))))) false (zhS (za (zR .i64) (za (zR .i64) (za (zR .i64) (za zbfr (za (zR .i64) (za zbfr (za (zR .i64) (za (zR .i64) (za (zR .i64) (za zrP zl)))))))))) false (zdA 23 false (zbd)))
def zhb (zZ:yC->Bool×yC) (t32:Int) (t33:Int) (x_0:Int) (x_1:Int) (x_2:Int) (x_3:Int) (x_4:Int) (x_5:Int) (x_6:Int) (x_7:ByteArray) (t2_0:Int) (t2_1:Int) (t2_2:Int) (t2_3:Int) (t2_4:Int) (t2_5:Int) (t2_6:Int) (t2_7:ByteArray) (b2:yA) (b3:yE):Wy zeb zlX zB9:=.i (decide (t33<t32)) (.i (decide (0<=t33)&&decide (t33<Int.ofNat b3.length)) (.bn (zZ (b3.getD t33.toNat default).Ann) λr2=>.i (decide (0<=t33)&&decide (t33<Int.ofNat b3.length)) (.i (decide (t33.toNat<b3.length)) (.h ((),(),t32,(IntKind.i64.wrap (t33+1)),()) ((x_0,x_1,x_2,(),x_3,(),x_4,x_5,x_6,x_7,()),(t2_0,t2_1,t2_2,(),t2_3,(),t2_4,t2_5,t2_6,t2_7,()),b2,(b3.set t33.toNat (WO.mk (b3.getD t33.toNat default).Value r2)),())) .d) .d) .d) (.k (x_0,x_1,x_2,x_3,x_4,x_5,x_6,x_7,t2_0,t2_1,t2_2,t2_3,t2_4,t2_5,t2_6,t2_7,b2,b3))
def zpM (zZ:yC->Bool×yC) (x:zeb) (y:zlX):=zhb zZ x.2.2.1 x.2.2.2.1 y.1.1 y.1.2.1 y.1.2.2.1 y.1.2.2.2.2.1 y.1.2.2.2.2.2.2.1 y.1.2.2.2.2.2.2.2.1 y.1.2.2.2.2.2.2.2.2.1 y.1.2.2.2.2.2.2.2.2.2.1 y.2.1.1 y.2.1.2.1 y.2.1.2.2.1 y.2.1.2.2.2.2.1 y.2.1.2.2.2.2.2.2.1 y.2.1.2.2.2.2.2.2.2.1 y.2.1.2.2.2.2.2.2.2.2.1 y.2.1.2.2.2.2.2.2.2.2.2.1 y.2.2.1 y.2.2.2.1
def zz7 (zZ:yC->Bool×yC) (n:Nat) (t32:Int) (t33:Int) (x_0:Int) (x_1:Int) (x_2:Int) (x_3:Int) (x_4:Int) (x_5:Int) (x_6:Int) (x_7:ByteArray) (t2_0:Int) (t2_1:Int) (t2_2:Int) (t2_3:Int) (t2_4:Int) (t2_5:Int) (t2_6:Int) (t2_7:ByteArray) (b2:yA) (b3:yE):=zC (zpM zZ) default n ((),(),t32,t33,()) ((x_0,x_1,x_2,(),x_3,(),x_4,x_5,x_6,x_7,()),(t2_0,t2_1,t2_2,(),t2_3,(),t2_4,t2_5,t2_6,t2_7,()),b2,b3,())
def zK9 (r:zB9):LTree ty:=.done (.exit 2) [.ptr 200 0,.ptr 201 0] [.box ([.lit (.int .i64 r.1),.lit (.int .i64 r.2.1),.lit (.int .i64 r.2.2.1),.own 202,.lit (.int .i64 r.2.2.2.1),.own 203,.lit (.int .i64 r.2.2.2.2.1),.lit (.int .i64 r.2.2.2.2.2.1),.lit (.int .i64 r.2.2.2.2.2.2.1),.lit (.string r.2.2.2.2.2.2.2.1)]) false,.box ([.lit (.int .i64 r.2.2.2.2.2.2.2.2.1),.lit (.int .i64 r.2.2.2.2.2.2.2.2.2.1),.lit (.int .i64 r.2.2.2.2.2.2.2.2.2.2.1),.lit (.slice none 0 0),.lit (.int .i64 r.2.2.2.2.2.2.2.2.2.2.2.1),.lit (.slice none 0 0),.lit (.int .i64 r.2.2.2.2.2.2.2.2.2.2.2.2.1),.lit (.int .i64 r.2.2.2.2.2.2.2.2.2.2.2.2.2.1),.lit (.int .i64 r.2.2.2.2.2.2.2.2.2.2.2.2.2.2.1),.lit (.string r.2.2.2.2.2.2.2.2.2.2.2.2.2.2.2.1)]) false,.arr 23 r.2.2.2.2.2.2.2.2.2.2.2.2.2.2.2.2.1 false,.arr 100 r.2.2.2.2.2.2.2.2.2.2.2.2.2.2.2.2.2 false]
def zLz:BL ty zlX:=zhS (za (zR .i64) (za (zR .i64) (za (zR .i64) (za (zds 202) (za (zR .i64) (za (zds 203) (za (zR .i64) (za (zR .i64) (za (zR .i64) (za zrP zl)))))))))) false (zhS (za (zR .i64) (za (zR .i64) (za (zR .i64) (za zbfr (za (zR .i64) (za zbfr (za (zR .i64) (za (zR .i64) (za (zR .i64) (za zrP zl)))))))))) false (zdA 23 false (zdA 100 false (zbd))))
def zKh (x:zeb) (y:zmb):Nat:=(Int.toNat x.2.2.1+Int.toNat x.2.2.2.1+Int.toNat y.1.1+Int.toNat y.1.2.1+Int.toNat y.1.2.2.1+Int.toNat y.1.2.2.2.2.1+y.1.2.2.2.2.2.1.length+Int.toNat y.1.2.2.2.2.2.2.1+Int.toNat y.1.2.2.2.2.2.2.2.1+Int.toNat y.1.2.2.2.2.2.2.2.2.1+y.1.2.2.2.2.2.2.2.2.2.1.size+Int.toNat y.2.1.1+Int.toNat y.2.1.2.1+Int.toNat y.2.1.2.2.1+Int.toNat y.2.1.2.2.2.2.1+Int.toNat y.2.1.2.2.2.2.2.2.1+Int.toNat y.2.1.2.2.2.2.2.2.2.1+Int.toNat y.2.1.2.2.2.2.2.2.2.2.1+y.2.1.2.2.2.2.2.2.2.2.2.1.size+y.2.2.1.length+1)
def zKq (x:zeb) (y:zlX):Nat:=(Int.toNat x.2.2.1+Int.toNat x.2.2.2.1+Int.toNat y.1.1+Int.toNat y.1.2.1+Int.toNat y.1.2.2.1+Int.toNat y.1.2.2.2.2.1+Int.toNat y.1.2.2.2.2.2.2.1+Int.toNat y.1.2.2.2.2.2.2.2.1+Int.toNat y.1.2.2.2.2.2.2.2.2.1+y.1.2.2.2.2.2.2.2.2.2.1.size+Int.toNat y.2.1.1+Int.toNat y.2.1.2.1+Int.toNat y.2.1.2.2.1+Int.toNat y.2.1.2.2.2.2.1+Int.toNat y.2.1.2.2.2.2.2.2.1+Int.toNat y.2.1.2.2.2.2.2.2.2.1+Int.toNat y.2.1.2.2.2.2.2.2.2.2.1+y.2.1.2.2.2.2.2.2.2.2.2.1.size+y.2.2.1.length+y.2.2.2.1.length+1)
def zps (zZ:yC->Bool×yC):=zbV base 50 [(87,(zni zZ)),(181,ziB),(182,zkr)] [] [(3,(kpL [1,2,11,12])),(9,(kpL [1,2,32,33]))] [(3,1,(kpL [1,2])),(9,3,(kpL [1,2]))] [(3,spW zLT zMh (zpz zZ) default zKm zKh),(9,spW zLT zLz (zpM zZ) default zK9 zKq)] []
theorem zKA (zZ:yC->Bool×yC):zF (zps zZ) (lp (body f151) 0):=zq (id:=3) (hl:=rfl)
theorem zJ0 (zZ:yC->Bool×yC):zF (zps zZ) (lp (body f151) 1):=zq (id:=9) (hl:=rfl)
def zBs (zZ:yC->Bool×yC) (x_:At):Wy0 (At):=.bn (zeg x_.Ag) λr7=>.bn (zzM zZ ((Int.ofNat r7.length).toNat +Int.toNat 0+x_.Kind.toNat +x_.Row.Table.toNat +x_.Row.Seq.toNat +x_.Func.toNat +x_.Items.length+x_.Op.toNat +x_.Bd.Kind.toNat +x_.Bd.Int.toNat +x_.Bd.Text.size+Int.toNat 0+Int.toNat 0+Int.toNat 0+Int.toNat 0+Int.toNat 0+Int.toNat 0+Int.toNat 0+(ByteArray.mk #[]).size+r7.length+1) (Int.ofNat r7.length) 0 x_.Kind x_.Row.Table x_.Row.Seq x_.Func x_.Items x_.Op x_.Bd.Kind x_.Bd.Int x_.Bd.Text 0 0 0 0 0 0 0 (ByteArray.mk #[]) r7) λr6=>.bn (zeY r6.2.2.2.2.1) λr5=>.bn (zz7 zZ ((Int.ofNat r5.length).toNat +Int.toNat 0+r6.1.toNat +r6.2.1.toNat +r6.2.2.1.toNat +r6.2.2.2.1.toNat +r6.2.2.2.2.2.1.toNat +r6.2.2.2.2.2.2.1.toNat +r6.2.2.2.2.2.2.2.1.toNat +r6.2.2.2.2.2.2.2.2.1.size+r6.2.2.2.2.2.2.2.2.2.1.toNat +r6.2.2.2.2.2.2.2.2.2.2.1.toNat +r6.2.2.2.2.2.2.2.2.2.2.2.1.toNat +r6.2.2.2.2.2.2.2.2.2.2.2.2.1.toNat +r6.2.2.2.2.2.2.2.2.2.2.2.2.2.1.toNat +r6.2.2.2.2.2.2.2.2.2.2.2.2.2.2.1.toNat +r6.2.2.2.2.2.2.2.2.2.2.2.2.2.2.2.1.toNat +r6.2.2.2.2.2.2.2.2.2.2.2.2.2.2.2.2.1.size+r6.2.2.2.2.2.2.2.2.2.2.2.2.2.2.2.2.2.length+r5.length+1) (Int.ofNat r5.length) 0 r6.1 r6.2.1 r6.2.2.1 r6.2.2.2.1 r6.2.2.2.2.2.1 r6.2.2.2.2.2.2.1 r6.2.2.2.2.2.2.2.1 r6.2.2.2.2.2.2.2.2.1 r6.2.2.2.2.2.2.2.2.2.1 r6.2.2.2.2.2.2.2.2.2.2.1 r6.2.2.2.2.2.2.2.2.2.2.2.1 r6.2.2.2.2.2.2.2.2.2.2.2.2.1 r6.2.2.2.2.2.2.2.2.2.2.2.2.2.1 r6.2.2.2.2.2.2.2.2.2.2.2.2.2.2.1 r6.2.2.2.2.2.2.2.2.2.2.2.2.2.2.2.1 r6.2.2.2.2.2.2.2.2.2.2.2.2.2.2.2.2.1 r6.2.2.2.2.2.2.2.2.2.2.2.2.2.2.2.2.2 r5) λr4=>.k (⟨r4.1,(⟨r4.2.1,r4.2.2.1⟩:RowID),r4.2.2.2.2.2.2.2.2.2.2.2.2.2.2.2.2.1,r4.2.2.2.1,r4.2.2.2.2.2.2.2.2.2.2.2.2.2.2.2.2.2,r4.2.2.2.2.1,(⟨r4.2.2.2.2.2.1,r4.2.2.2.2.2.2.1,r4.2.2.2.2.2.2.2.1⟩:Value)⟩:At)
def zjH (zZ:yC->Bool×yC) (x_:At):=(zBs zZ x_).fin default
theorem zH1 (zZ:yC->Bool×yC) (zTp:SdP 87 (zni zZ)):SdP 151 (zmZ (zjH zZ)):=
 sT (cx':=(zps zZ)) (zk ⟨zTp,zry,zul,trivial⟩) call151 func151 (lOK (aC (zKA zZ) (aC (zJ0 zZ) aN)))
def zM6:Nat->(yC->Bool×yC)×(At->Bool×At)
 | 0=>(λ_=>(false,default),λ_=>(false,default))
 | n+1=>(znx ((zM6 n).2),zjH ((zM6 n).1))
def znf (n:Nat):yC->Bool×yC:=(zM6 n).1
def zm8 (n:Nat):At->Bool×At:=(zM6 n).2
theorem zSe (n:Nat):znf (n+1)=znx (zm8 n):=rfl
theorem zMs (n:Nat):zm8 (n+1)=zjH (znf n):=rfl
theorem zZO:∀ n,SdP 87 (zni (znf n))/\SdP 151 (zmZ (zm8 n))
 | 0=>⟨zbb call87 (λ_=>rfl),zbb call151 (λ_=>rfl)⟩
 | n+1=>by
  have ih:=zZO n;exact ⟨zNi _ (ih.2),zH1 _ (ih.1)⟩
def zhE:yC->Bool×yC:=znf 1000
def zhp:Ab.Spec ty:=zni zhE
theorem zjU:SdP 87 zhp:=(zZO 1000).1
def zTf:=zbr base 9 [(62,zvH),(87,zhp)]
def zGT (a:yC):Wy0 (yC×Int):=.bn (zmy a) λr1=>.i (!r1) (.k ([],6)) (.bn (zhE a) λr0=>.k (r0,0))
def zeU (a:yC):=(zGT a).fin default
def zfg:=zi zZm λx=>((zeU x.1).1,zSr (zeU x.1).2)
theorem zge:SdP 70 zfg:=
 sT (cx':=zTf) (zk ⟨zDL,zjU,trivial⟩) call70 func70 (lOK aN) (sg:=⟨[.own 28,.pure],[]⟩)
def zAI:=zbr base 27 []
def znS (n_:Int):Wy0 (yC):=.i (decide (n_<0)) .d (.i (decide (IntKind.i64.wrap (n_ - IntKind.i64.wrap (0 - 0))>0)) (.i (decide (0<IntKind.i64.wrap (n_ - IntKind.i64.wrap (0 - 0)))&&(decide (IntKind.i64.wrap (n_ - IntKind.i64.wrap (0 - 0))*Int.ofNat 32<=Int.ofNat zN)&&(decide (IntKind.i64.wrap (n_ - IntKind.i64.wrap (0 - 0))<=Int.ofNat zN)&& !Nat.beq 2 0))) (.k (List.take (Int.toNat 0 - Int.toNat 0) (List.replicate (IntKind.i64.wrap (n_ - IntKind.i64.wrap (0 - 0))).toNat (TO.mk 0 [])))) .d) (.k []))
def zer (n_:Int):=(znS n_).fin default
def zBE:AL base (Unit×Int×Unit):=ze (zf zbiy) (ze (zf zfh) zu)
def zlQ:=zi zBE λx=>((zer x.2.1).1,zS6 (zer x.2.1).2)
theorem zxX:SdP 140 zlQ:=
 sT (cx':=zAI) (zk trivial) call140 func140 (lOK aN) (sg:=⟨[.own 28],[]⟩)
abbrev zfo:=yA×Int×yA×Int×Int×Unit
abbrev zot:=yA×Int
abbrev zfp:=Unit×yA×Int×Int×Unit
abbrev zfx:=yC×Unit
def zdk (slices:yA) (size:Int) (t9:yA) (t10:Int) (t11:Int):Wy zfo Unit zot:=.i (decide (t11<t10)) (.i (decide (0<=t11)&&decide (t11<Int.ofNat t9.length)) (.i (decide (IntKind.i64.wrap (size+Int.ofNat (List.length (t9.getD t11.toNat default)))<0)) .d (.h (slices,(IntKind.i64.wrap (size+Int.ofNat (List.length (t9.getD t11.toNat default)))),t9,t10,(IntKind.i64.wrap (t11+1)),()) ())) .d) (.k (slices,size))
def zg5 (x:zfo) (y:Unit):=zdk x.1 x.2.1 x.2.2.1 x.2.2.2.1 x.2.2.2.2.1
def zl2 (n:Nat) (slices:yA) (size:Int) (t9:yA) (t10:Int) (t11:Int):=zC (zg5) default n (slices,size,t9,t10,t11,()) ()
def zyf (r:zot):LTree ty:=.done (.exit 0) [.sl 23 r.1,.lit (.int .i64 r.2)] []
def zyB:LL ty zfo:=za (lSl 23) (za zj (za (lSl 23) (za zj (za zj zl))))
def zdf (t25:yA) (t26:Int) (t27:Int) (newslice:yC):Wy zfp zfx (yC):=.i (decide (t27<t26)) (.i (decide (0<=t27)&&decide (t27<Int.ofNat t25.length)) (.i (decide ((newslice.length+List.length (t25.getD t27.toNat default))*32<=zN)) (.h ((),t25,t26,(IntKind.i64.wrap (t27+1)),()) ((newslice++t25.getD t27.toNat default),())) .d) .d) (.k newslice)
def zgz (x:zfp) (y:zfx):=zdf x.2.1 x.2.2.1 x.2.2.2.1 y.1
def zlJ (n:Nat) (t25:yA) (t26:Int) (t27:Int) (newslice:yC):=zC (zgz) default n ((),t25,t26,t27,()) (newslice,())
def zxI (r:yC):LTree ty:=.done (.exit 2) [.own 144] [.arr 28 r false]
def zyl:LL ty zfp:=za (zds 144) (za (lSl 23) (za zj (za zj zl)))
def zx0:BL ty zfx:=zdA 28 false (zbd)
def zxR (x:zfo) (y:Unit):Nat:=(x.1.length+Int.toNat x.2.1+x.2.2.1.length+Int.toNat x.2.2.2.1+Int.toNat x.2.2.2.2.1+1)
def zxw (x:zfp) (y:zfx):Nat:=(x.2.1.length+Int.toNat x.2.2.1+Int.toNat x.2.2.2.1+y.1.length+1)
def zgV:=zbV base 36 [(140,zlQ)] [] [(3,(kpL [0,3,9,10,11])),(11,(kpL [6,25,26,27]))] [(3,1,(kpL [0,3])),(11,3,(kpL [6]))] [(3,spW zyB zba6 (zg5) default zyf zxR),(11,spW zyl zx0 (zgz) default zxI zxw)] [140]
theorem zyj:zF zgV (lp (body f72) 0):=zq (id:=3) (hl:=rfl)
theorem zxs:zF zgV (lp (body f72) 1):=zq (id:=11) (hl:=rfl)
def zmG (slices:yA):Wy0 (yC):=.bn (zl2 (slices.length+Int.toNat 0+slices.length+(Int.ofNat slices.length).toNat +Int.toNat 0+1) slices 0 slices (Int.ofNat slices.length) 0) λr2=>.bn (zer r2.2) λr1=>.bn (zlJ (r2.1.length+(Int.ofNat r2.1.length).toNat +Int.toNat 0+r1.length+1) r2.1 (Int.ofNat r2.1.length) 0 r1) λr0=>.k r0
def zdX (slices:yA):=(zmG slices).fin default
def zzO:AL base (yA×Unit):=ze (zf (vSl 23)) zu
def zlg:=zi zzO λx=>((zdX x.1).1,zS6 (zdX x.1).2)
theorem zwf:SdP 72 zlg:=
 sT (cx':=zgV) (zk ⟨zxX,trivial⟩) call72 func72 (lOK (aC zyj (aC zxs aN))) (sg:=⟨[.own 28],[]⟩)
def z3b:=zbr zb1 22 [(20,zcn),(70,zfg),(71,ztZ),(72,zlg)]
def zPI (a:yC) (b:yC):Wy0 (yC×Int):=.bn (zca a) λr4=>.i (!r4) (.k ([],1)) (.bn (zca b) λr3=>.i (!r3) (.k ([],1)) (.bn (zdX [a,b]) λr2=>.bn (ziW r2) λr1=>.bn (zeU r1) λr0=>.k (r0.1,r0.2)))
def zwX (a:yC) (b:yC):=(zPI a b).fin default
def z4Y:AL zb1 (yC×yC×Unit):=ze (zf (vSl 28)) (ze (zf (vSl 28)) zu)
def zIi:=zi z4Y λx=>((zwX x.1 x.2.1).1,zSr (zwX x.1 x.2.1).2)
theorem zVu:Sound Tryz.prog zb1 23 zIi:=
 sU (cx':=z3b) (zk ⟨zct.nodr,zge.nodr,zCZ,zwf.nodr,trivial⟩) call23 func23 (lOK aN) (sg:=⟨[.own 28,.pure],[]⟩)
def zYj:=zbr base 9 []
def zKD (n_:Int):Wy0 (yC):=.i (decide (n_<1)) (.k []) (.k [TO.mk (if 1152921504606846976<n_ then 1152921504606846976 else n_) []])
def zsy (n_:Int):=(zKD n_).fin default
def zF8:=zi z2V λx=>((zsy x.1).1,zS6 (zsy x.1).2)
theorem zSv:SdP 149 zF8:=
 sT (cx':=zYj) (zk trivial) call149 func149 (lOK aN) (sg:=⟨[.own 28],[]⟩)
def zBG:=zbr base 27 []
def zoj (n_:Int):Wy0 (yD):=.i (decide (n_<0)) .d (.i (decide (IntKind.i64.wrap (n_ - IntKind.i64.wrap (0 - 0))>0)) (.i (decide (0<IntKind.i64.wrap (n_ - IntKind.i64.wrap (0 - 0)))&&(decide (IntKind.i64.wrap (n_ - IntKind.i64.wrap (0 - 0))*Int.ofNat 128<=Int.ofNat zN)&&(decide (IntKind.i64.wrap (n_ - IntKind.i64.wrap (0 - 0))<=Int.ofNat zN)&& !Nat.beq 11 0))) (.k (List.take (Int.toNat 0 - Int.toNat 0) (List.replicate (IntKind.i64.wrap (n_ - IntKind.i64.wrap (0 - 0))).toNat (FO.mk (At.mk 0 (RowID.mk 0 0) [] 0 [] 0 (Value.mk 0 0 (ByteArray.mk #[]))) 0)))) .d) (.k []))
def zeF (n_:Int):=(zoj n_).fin default
def zA1 (r:yD):ARes ty:=⟨[.own 69 r],[]⟩
def zmK:=zi zBE λx=>((zeF x.2.1).1,zA1 (zeF x.2.1).2)
theorem zyV:SdP 220 zmK:=
 sT (cx':=zBG) (zk trivial) call220 func220 (lOK aN) (sg:=⟨[.own 69],[]⟩)
abbrev zfJ:=List (yD)×Int×List (yD)×Int×Int×Unit
abbrev zpp:=List (yD)×Int
abbrev zfL:=Unit×List (yD)×Int×Int×Unit
abbrev zfM:=yD×Unit
def zdx (slices:List (yD)) (size:Int) (t9:List (yD)) (t10:Int) (t11:Int):Wy zfJ Unit zpp:=.i (decide (t11<t10)) (.i (decide (0<=t11)&&decide (t11<Int.ofNat t9.length)) (.i (decide (IntKind.i64.wrap (size+Int.ofNat (List.length (t9.getD t11.toNat default)))<0)) .d (.h (slices,(IntKind.i64.wrap (size+Int.ofNat (List.length (t9.getD t11.toNat default)))),t9,t10,(IntKind.i64.wrap (t11+1)),()) ())) .d) (.k (slices,size))
def zhk (x:zfJ) (y:Unit):=zdx x.1 x.2.1 x.2.2.1 x.2.2.2.1 x.2.2.2.2.1
def zmI (n:Nat) (slices:List (yD)) (size:Int) (t9:List (yD)) (t10:Int) (t11:Int):=zC (zhk) default n (slices,size,t9,t10,t11,()) ()
def zzu (r:zpp):LTree ty:=.done (.exit 0) [.sl 26 r.1,.lit (.int .i64 r.2)] []
def zz8:LL ty zfJ:=za (lSl 26) (za zj (za (lSl 26) (za zj (za zj zl))))
def zdm (t25:List (yD)) (t26:Int) (t27:Int) (newslice:yD):Wy zfL zfM (yD):=.i (decide (t27<t26)) (.i (decide (0<=t27)&&decide (t27<Int.ofNat t25.length)) (.i (decide ((newslice.length+List.length (t25.getD t27.toNat default))*128<=zN)) (.h ((),t25,t26,(IntKind.i64.wrap (t27+1)),()) ((newslice++t25.getD t27.toNat default),())) .d) .d) (.k newslice)
def zgW (x:zfL) (y:zfM):=zdm x.2.1 x.2.2.1 x.2.2.2.1 y.1
def zl0 (n:Nat) (t25:List (yD)) (t26:Int) (t27:Int) (newslice:yD):=zC (zgW) default n ((),t25,t26,t27,()) (newslice,())
def zx7 (r:yD):LTree ty:=.done (.exit 2) [.own 144] [.arr 69 r false]
def zzy:LL ty zfL:=za (zds 144) (za (lSl 26) (za zj (za zj zl)))
def zzj:BL ty zfM:=zdA 69 false (zbd)
def zy0 (x:zfJ) (y:Unit):Nat:=(x.1.length+Int.toNat x.2.1+x.2.2.1.length+Int.toNat x.2.2.2.1+Int.toNat x.2.2.2.2.1+1)
def zxW (x:zfL) (y:zfM):Nat:=(x.2.1.length+Int.toNat x.2.2.1+Int.toNat x.2.2.2.1+y.1.length+1)
def zhf:=zbV base 36 [(220,zmK)] [] [(3,(kpL [0,3,9,10,11])),(11,(kpL [6,25,26,27]))] [(3,1,(kpL [0,3])),(11,3,(kpL [6]))] [(3,spW zz8 zba6 (zhk) default zzu zy0),(11,spW zzy zzj (zgW) default zx7 zxW)] [220]
theorem zyM:zF zhf (lp (body f183) 0):=zq (id:=3) (hl:=rfl)
theorem zyd:zF zhf (lp (body f183) 1):=zq (id:=11) (hl:=rfl)
def znm (slices:List (yD)):Wy0 (yD):=.bn (zmI (slices.length+Int.toNat 0+slices.length+(Int.ofNat slices.length).toNat +Int.toNat 0+1) slices 0 slices (Int.ofNat slices.length) 0) λr2=>.bn (zeF r2.2) λr1=>.bn (zl0 (r2.1.length+(Int.ofNat r2.1.length).toNat +Int.toNat 0+r1.length+1) r2.1 (Int.ofNat r2.1.length) 0 r1) λr0=>.k r0
def zec (slices:List (yD)):=(znm slices).fin default
def zAD:AL base (List (yD)×Unit):=ze (zf (vSl 26)) zu
def zlF:=zi zAD λx=>((zec x.1).1,zA1 (zec x.1).2)
theorem zwK:SdP 183 zlF:=
 sT (cx':=zhf) (zk ⟨zyV,trivial⟩) call183 func183 (lOK (aC zyM (aC zyd aN))) (sg:=⟨[.own 69],[]⟩)
abbrev zuq:=yD×yD×Unit×Unit
abbrev zuC:=yD×Unit
abbrev zKI:=yD×yD×yD
def zCC (a:yD) (b:yD) (out_:yD):Wy zuq zuC zKI:=.i (decide (Int.ofNat a.length>0)) (.i (decide (Int.ofNat b.length>0)) (.i (decide ((0:Int)<=(0:Int))&&decide (0<Int.ofNat a.length)) (.i (decide ((0:Int)<=(0:Int))&&decide (0<Int.ofNat b.length)) (.bn (zjO (At.mk (a.getD (Int.toNat 0) default).At.Kind (a.getD (Int.toNat 0) default).At.Row (a.getD (Int.toNat 0) default).At.Ag (a.getD (Int.toNat 0) default).At.Func (a.getD (Int.toNat 0) default).At.Items (a.getD (Int.toNat 0) default).At.Op (a.getD (Int.toNat 0) default).At.Bd) (At.mk (b.getD (Int.toNat 0) default).At.Kind (b.getD (Int.toNat 0) default).At.Row (b.getD (Int.toNat 0) default).At.Ag (b.getD (Int.toNat 0) default).At.Func (b.getD (Int.toNat 0) default).At.Items (b.getD (Int.toNat 0) default).At.Op (b.getD (Int.toNat 0) default).At.Bd)) λr1=>.i (decide (r1<0)) (.i (decide ((0:Int)<=(0:Int))&&decide (0<Int.ofNat a.length)) (.i (decide ((out_.length+[FO.mk (At.mk (a.getD (Int.toNat 0) default).At.Kind (a.getD (Int.toNat 0) default).At.Row (a.getD (Int.toNat 0) default).At.Ag (a.getD (Int.toNat 0) default).At.Func (a.getD (Int.toNat 0) default).At.Items (a.getD (Int.toNat 0) default).At.Op (a.getD (Int.toNat 0) default).At.Bd) (a.getD (Int.toNat 0) default).Exp].length)*128<=zN)) (.i (decide ((0:Int)<=(1:Int))&&decide (1<=Int.ofNat a.length)&&decide (Int.ofNat a.length<=Int.ofNat a.length)) (.h ((List.take ((Int.ofNat a.length).toNat - Int.toNat 1) (List.drop (Int.toNat 1) a)),b,(),()) ((out_++[FO.mk (At.mk (a.getD (Int.toNat 0) default).At.Kind (a.getD (Int.toNat 0) default).At.Row (a.getD (Int.toNat 0) default).At.Ag (a.getD (Int.toNat 0) default).At.Func (a.getD (Int.toNat 0) default).At.Items (a.getD (Int.toNat 0) default).At.Op (a.getD (Int.toNat 0) default).At.Bd) (a.getD (Int.toNat 0) default).Exp]),())) .d) .d) .d) (.i (decide (r1>0)) (.i (decide ((0:Int)<=(0:Int))&&decide (0<Int.ofNat b.length)) (.i (decide ((out_.length+[FO.mk (At.mk (b.getD (Int.toNat 0) default).At.Kind (b.getD (Int.toNat 0) default).At.Row (b.getD (Int.toNat 0) default).At.Ag (b.getD (Int.toNat 0) default).At.Func (b.getD (Int.toNat 0) default).At.Items (b.getD (Int.toNat 0) default).At.Op (b.getD (Int.toNat 0) default).At.Bd) (b.getD (Int.toNat 0) default).Exp].length)*128<=zN)) (.i (decide ((0:Int)<=(1:Int))&&decide (1<=Int.ofNat b.length)&&decide (Int.ofNat b.length<=Int.ofNat b.length)) (.h (a,(List.take ((Int.ofNat b.length).toNat - Int.toNat 1) (List.drop (Int.toNat 1) b)),(),()) ((out_++[FO.mk (At.mk (b.getD (Int.toNat 0) default).At.Kind (b.getD (Int.toNat 0) default).At.Row (b.getD (Int.toNat 0) default).At.Ag (b.getD (Int.toNat 0) default).At.Func (b.getD (Int.toNat 0) default).At.Items (b.getD (Int.toNat 0) default).At.Op (b.getD (Int.toNat 0) default).At.Bd) (b.getD (Int.toNat 0) default).Exp]),())) .d) .d) .d) (.i (decide ((0:Int)<=(0:Int))&&decide (0<Int.ofNat a.length)) (.bn (zgn (At.mk (a.getD (Int.toNat 0) default).At.Kind (a.getD (Int.toNat 0) default).At.Row (a.getD (Int.toNat 0) default).At.Ag (a.getD (Int.toNat 0) default).At.Func (a.getD (Int.toNat 0) default).At.Items (a.getD (Int.toNat 0) default).At.Op (a.getD (Int.toNat 0) default).At.Bd)) λr0=>.i (!r0) (.i (decide ((0:Int)<=(0:Int))&&decide (0<Int.ofNat b.length)) (.i (decide ((out_.length+[FO.mk (At.mk (a.getD (Int.toNat 0) default).At.Kind (a.getD (Int.toNat 0) default).At.Row (a.getD (Int.toNat 0) default).At.Ag (a.getD (Int.toNat 0) default).At.Func (a.getD (Int.toNat 0) default).At.Items (a.getD (Int.toNat 0) default).At.Op (a.getD (Int.toNat 0) default).At.Bd) (IntKind.i64.wrap ((a.getD (Int.toNat 0) default).Exp+(b.getD (Int.toNat 0) default).Exp))].length)*128<=zN)) (.i (decide ((0:Int)<=(1:Int))&&decide (1<=Int.ofNat a.length)&&decide (Int.ofNat a.length<=Int.ofNat a.length)) (.i (decide ((0:Int)<=(1:Int))&&decide (1<=Int.ofNat b.length)&&decide (Int.ofNat b.length<=Int.ofNat b.length)) (.h ((List.take ((Int.ofNat a.length).toNat - Int.toNat 1) (List.drop (Int.toNat 1) a)),(List.take ((Int.ofNat b.length).toNat - Int.toNat 1) (List.drop (Int.toNat 1) b)),(),()) ((out_++[FO.mk (At.mk (a.getD (Int.toNat 0) default).At.Kind (a.getD (Int.toNat 0) default).At.Row (a.getD (Int.toNat 0) default).At.Ag (a.getD (Int.toNat 0) default).At.Func (a.getD (Int.toNat 0) default).At.Items (a.getD (Int.toNat 0) default).At.Op (a.getD (Int.toNat 0) default).At.Bd) (IntKind.i64.wrap ((a.getD (Int.toNat 0) default).Exp+(b.getD (Int.toNat 0) default).Exp))]),())) .d) .d) .d) .d) (.i (decide ((out_.length+[FO.mk (At.mk (a.getD (Int.toNat 0) default).At.Kind (a.getD (Int.toNat 0) default).At.Row (a.getD (Int.toNat 0) default).At.Ag (a.getD (Int.toNat 0) default).At.Func (a.getD (Int.toNat 0) default).At.Items (a.getD (Int.toNat 0) default).At.Op (a.getD (Int.toNat 0) default).At.Bd) (a.getD (Int.toNat 0) default).Exp].length)*128<=zN)) (.i (decide ((0:Int)<=(1:Int))&&decide (1<=Int.ofNat a.length)&&decide (Int.ofNat a.length<=Int.ofNat a.length)) (.i (decide ((0:Int)<=(1:Int))&&decide (1<=Int.ofNat b.length)&&decide (Int.ofNat b.length<=Int.ofNat b.length)) (.h ((List.take ((Int.ofNat a.length).toNat - Int.toNat 1) (List.drop (Int.toNat 1) a)),(List.take ((Int.ofNat b.length).toNat - Int.toNat 1) (List.drop (Int.toNat 1) b)),(),()) ((out_++[FO.mk (At.mk (a.getD (Int.toNat 0) default).At.Kind (a.getD (Int.toNat 0) default).At.Row (a.getD (Int.toNat 0) default).At.Ag (a.getD (Int.toNat 0) default).At.Func (a.getD (Int.toNat 0) default).At.Items (a.getD (Int.toNat 0) default).At.Op (a.getD (Int.toNat 0) default).At.Bd) (a.getD (Int.toNat 0) default).Exp]),())) .d) .d) .d)) .d))) .d) .d) (.k (a,b,out_))) (.k (a,b,out_))
def zKP (x:zuq) (y:zuC):=zCC x.1 x.2.1 y.1
def zCL (n:Nat) (a:yD) (b:yD) (out_:yD):=zC (zKP) default n (a,b,(),()) (out_,())
def zXQ (r:zKI):LTree ty:=.done (.exit 0) [.sl 69 r.1,.sl 69 r.2.1,.own 300] [.arr 69 r.2.2 false]
def zZw:LL ty zuq:=za (lSl 69) (za (lSl 69) (za (zds 300) zl))
def z0W:BL ty zuC:=zdA 69 false (zbd)
def zYu (x:zuq) (y:zuC):Nat:=(x.1.length+x.2.1.length+y.1.length+1)
def zKz:=zbV base 75 [(64,zkM),(65,znP),(183,zlF)] [] [(2,[(0,.keep),(1,.keep),(5,.own 69)])] [(2,1,(kpL [0,1,5]))] [(2,spW zZw z0W (zKP) default zXQ zYu)] []
theorem zYw:zF zKz (lp (body f154) 0):=zq (id:=2) (hl:=rfl)
def zMH (a:yD) (b:yD):Wy0 (yD):=.bn (zCL (a.length+b.length+0+1) a b []) λr5=>.bn (zec [r5.2.2,r5.1,r5.2.1]) λr4=>.k r4
def zpj (a:yD) (b:yD):=(zMH a b).fin default
def z3h:AL base (yD×yD×Unit):=ze (zf (vSl 69)) (ze (zf (vSl 69)) zu)
def zHM:=zi z3h λx=>((zpj x.1 x.2.1).1,zA1 (zpj x.1 x.2.1).2)
theorem zTH:SdP 154 zHM:=
 sT (cx':=zKz) (zk ⟨zoN,zv7,zwK,trivial⟩) call154 func154 (lOK (aC zYw aN)) (sg:=⟨[.own 69],[]⟩)
def zXy:=zbr base 12 []
def zLc (a:Int) (b:Int):Wy0 (Int):=.i (!decide (b=0)) (.i (decide (a>IntKind.i64.wrap (Int.tdiv 1152921504606846976 b))) (.k 1152921504606846976) (.k (IntKind.i64.wrap (a*b)))) .d
def zsm (a:Int) (b:Int):=(zLc a b).fin default
def zGh:=zi zYl λx=>((zsm x.1 x.2.1).1,zSM (zsm x.1 x.2.1).2)
theorem zRR:SdP 153 zGh:=
 sT (cx':=zXy) (zk trivial) call153 func153 (lOK aN)
abbrev zww:=yC×Unit×Unit×yC×Int×Int×yC×Int×Int×Unit
abbrev zwB:=yC×Term×Unit
abbrev zMN:=yC×yC×Int×Int×yC
abbrev zwu:=yC×Unit×yC×Int×Int×Unit
abbrev zwr:=yC×Unit
def zpX (b:yC) (t19:yC) (t20:Int) (t21:Int) (t25:yC) (t26:Int) (t27:Int) (terms:yC) (x_:Term):Wy zww zwB zMN:=.i (decide (t27<t26)) (.i (decide (0<=t27)&&decide (t27<Int.ofNat t25.length)) (.bn (zsm x_.Cf (t25.getD t27.toNat default).Cf) λr5=>.bn (zpj x_.Fs (t25.getD t27.toNat default).Fs) λr4=>.i (decide ((terms.length+[TO.mk r5 r4].length)*32<=zN)) (.h (b,(),(),t19,t20,t21,t25,t26,(IntKind.i64.wrap (t27+1)),()) ((terms++[TO.mk r5 r4]),x_,())) .d) .d) (.k (b,t19,t20,t21,terms))
def zEl (x:zww) (y:zwB):=zpX x.1 x.2.2.2.1 x.2.2.2.2.1 x.2.2.2.2.2.1 x.2.2.2.2.2.2.1 x.2.2.2.2.2.2.2.1 x.2.2.2.2.2.2.2.2.1 y.1 y.2.1
def zMM (n:Nat) (b:yC) (t19:yC) (t20:Int) (t21:Int) (t25:yC) (t26:Int) (t27:Int) (terms:yC) (x_:Term):=zC (zEl) default n (b,(),(),t19,t20,t21,t25,t26,t27,()) (terms,x_,())
def zY5 (r:zMN):LTree ty:=.done (.exit 2) [.sl 28 r.1,.own 208,.sl 28 r.2.1,.lit (.int .i64 r.2.2.1),.lit (.int .i64 r.2.2.2.1)] [.arr 28 r.2.2.2.2 false]
def z2a:LL ty zww:=za (lSl 28) (za (zds 208) (za (ze3 209 0) (za (lSl 28) (za zj (za zj (za (lSl 28) (za zj (za zj zl))))))))
def z2i:BL ty zwB:=zdA 28 false (zhS (zf1 (λx=>(⟨x.1,x.2.1⟩:Term)) (λx=>(x.Cf,x.Fs,())) (λ_=>rfl) (za (zR .i64) (za (lSl 69) zl))) false (zbd))
def zqa (b:yC) (t19:yC) (t20:Int) (t21:Int) (terms:yC):Wy zwu zwr (yC):=.i (decide (t21<t20)) (.i (decide (0<=t21)&&decide (t21<Int.ofNat t19.length)) (.bn (zMM (b.length+t19.length+t20.toNat +t21.toNat +b.length+(Int.ofNat b.length).toNat +Int.toNat 0+terms.length+(t19.getD t21.toNat default).Fs.length+1) b t19 t20 t21 b (Int.ofNat b.length) 0 terms (t19.getD t21.toNat default)) λr8=>.h ((r8.1),(),(r8.2.1),(r8.2.2.1),(IntKind.i64.wrap (r8.2.2.2.1+1)),()) ((r8.2.2.2.2),())) .d) (.k terms)
def zEw (x:zwu) (y:zwr):=zqa x.1 x.2.2.1 x.2.2.2.1 x.2.2.2.2.1 y.1
def zEg (n:Nat) (b:yC) (t19:yC) (t20:Int) (t21:Int) (terms:yC):=zC (zEw) default n (b,(),t19,t20,t21,()) (terms,())
def z2A:LL ty zwu:=za (lSl 28) (za (zds 208) (za (lSl 28) (za zj (za zj zl))))
def z3j:BL ty zwr:=zdA 28 false (zbd)
def zZD (x:zww) (y:zwB):Nat:=(x.1.length+x.2.2.2.1.length+Int.toNat x.2.2.2.2.1+Int.toNat x.2.2.2.2.2.1+x.2.2.2.2.2.2.1.length+Int.toNat x.2.2.2.2.2.2.2.1+Int.toNat x.2.2.2.2.2.2.2.2.1+y.1.length+y.2.1.Fs.length+1)
def zYZ (x:zwu) (y:zwr):Nat:=(x.1.length+x.2.2.1.length+Int.toNat x.2.2.2.1+Int.toNat x.2.2.2.2.1+y.1.length+1)
def zEa:=zbV zb1 52 [(20,zcn),(70,zfg),(71,ztZ),(153,zGh),(154,zHM)] [] [(5,[(1,.keep),(6,.own 28),(19,.keep),(20,.keep),(21,.keep)]),(8,[(1,.keep),(6,.own 28),(8,.keep),(19,.keep),(20,.keep),(21,.keep),(25,.keep),(26,.keep),(27,.keep)])] [(5,1,(kpL [6])),(8,3,(kpL [1,6,19,20,21]))] [(8,spW z2a z2i (zEl) default zY5 zZD),(5,spW z2A z3j (zEw) default zSf zYZ)] []
theorem z1n:zF zEa (lp (body f92) 1):=zq (id:=8) (hl:=rfl)
theorem zZZ:zF zEa (lp (body f92) 0):=zq (id:=5) (hl:=rfl)
def zPf (a:yC) (b:yC):Wy0 (yC×Int):=.bn (zca a) λr14=>.i (!r14) (.k ([],1)) (.bn (zca b) λr13=>.i (!r13) (.k ([],1)) (.bn (zEg (b.length+a.length+(Int.ofNat a.length).toNat +Int.toNat 0+0+1) b a (Int.ofNat a.length) 0 []) λr12=>.bn (ziW r12) λr11=>.bn (zeU r11) λr10=>.k (r10.1,r10.2)))
def zxA (a:yC) (b:yC):=(zPf a b).fin default
def zIt:=zi z4Y λx=>((zxA x.1 x.2.1).1,zSr (zxA x.1 x.2.1).2)
theorem zU7:Sound Tryz.prog zb1 92 zIt:=
 sU (cx':=zEa) (zk ⟨zct.nodr,zge.nodr,zCZ,zRR.nodr,zTH.nodr,trivial⟩) call92 func92 (lOK (aC zZZ (aC z1n aN))) (sg:=⟨[.own 28,.pure],[]⟩)
def zGU:=zbr base 8 []
def zv3 (b:Bg) (p1:RowID):Wy0 (Bool):=.k (b.Row.Table==p1.Table&&(b.Row.Seq==p1.Seq&&true))
def zgF (b:Bg) (p1:RowID):=(zv3 b p1).fin default
def zH5:AL base (Bg×RowID×Unit):=ze (zf (zcK 51)) (ze (zf (zBn 49)) zu)
def zkY:=zi zH5 λx=>((zgF x.1 x.2.1).1,zYq (zgF x.1 x.2.1).2)
theorem zq7:SdP 86 zkY:=
 sT (cx':=zGU) (zk trivial) call86 func86 (lOK aN)
def zVq:=zbr base 8 []
def zIB (x_:At):Wy0 (yC):=.k [TO.mk 1 [FO.mk (At.mk x_.Kind x_.Row x_.Ag x_.Func x_.Items x_.Op x_.Bd) 1]]
def zf7 (x_:At):=(zIB x_).fin default
def zho:=zi zEP λx=>((zf7 x.1).1,zS6 (zf7 x.1).2)
theorem zjz:SdP 152 zho:=
 sT (cx':=zVq) (zk trivial) call152 func152 (lOK aN) (sg:=⟨[.own 28],[]⟩)
def z3t:=zbr base 9 [(128,zwt),(152,zho)]
def zO6 (id:RowID):Wy0 (yC):=.bn (zr6 id) λr0=>.i (!r0) (.k []) (.k ((zf7 (At.mk 0 id [] 0 [] 0 (Value.mk 0 0 (ByteArray.mk #[])))).2))
def zxz (id:RowID):=(zO6 id).fin default
def zIE:=zi z9c λx=>((zxz x.1).1,zS6 (zxz x.1).2)
theorem zVX:SdP 88 zIE:=
 sT (cx':=z3t) (zk ⟨zCf,zjz,trivial⟩) call88 func88 (lOK aN) (sg:=⟨[.own 28],[]⟩)
abbrev zeo:=yG×(RowID×Unit)×Int×Int×Unit
def ztb (s:yG) (f:RowID) (t7:Int) (t8:Int):Wy zeo Unit (Int⊕Unit):=.i (decide (t8<t7)) (.i (decide (0<=t8)&&decide (t8<Int.ofNat s.length)) (.i ((zgF (s.getD t8.toNat default) f).2) (.k (.inl t8)) (.h (s,(f,()),t7,(IntKind.i64.wrap (t8+1)),()) ())) .d) (.k (.inr ()))
def zje (x:zeo) (y:Unit):=ztb x.1 x.2.1.1 x.2.2.1 x.2.2.2.1
def ztn (n:Nat) (s:yG) (f:RowID) (t7:Int) (t8:Int):=zC (zje) (.inl default) n (s,(f,()),t7,t8,()) ()
def zs8:LL ty zeo:=za (lSl 51) (za (lFn 86 (za (zoV (zf1 (λx=>(⟨x.1,x.2.1⟩:RowID)) (λx=>(x.Table,x.Seq,())) (λ_=>rfl) (za zj (za zj zl))) 0) zl)) (za zj (za zj zl)))
def zsp (x:zeo) (y:Unit):Nat:=(x.1.length+Int.toNat x.2.2.1+Int.toNat x.2.2.2.1+1)
def zjg:=zbV base 19 [(86,zkY)] [] [(2,(kpL [0,1,7,8]))] [(2,1,[]),(2,0,(kpL [4]))] [(2,spW zs8 zba6 (zje) (.inl default) ztL zsp)] []
theorem zsb:zF zjg (lp (body f85) 0):=zq (id:=2) (hl:=rfl)
def ztP (s:yG) (f:RowID):Wy0 (Int):=.bn (ztn (s.length+(Int.ofNat s.length).toNat +Int.toNat 0+1) s f (Int.ofNat s.length) 0) λr0=>.i (isL r0) (.k (getL r0)) (.k (-1:Int))
def zcP (s:yG) (f:RowID):=(ztP s f).fin default
def zua:AL base (yG×(RowID×Unit)×Unit):=ze (zf (vSl 51)) (ze (zf (vFn 86 (zdS (zBn 49) zb5))) zu)
def zin:=zi zua λx=>((zcP x.1 x.2.1.1).1,zSM (zcP x.1 x.2.1.1).2)
theorem zqv:SdP 85 zin:=
 sT (cx':=zjg) (zk ⟨zq7,trivial⟩) call85 func85 (lOK (aC zsb aN))
def zLh:=zbr base 18 [(85,zin),(86,zkY),(87,zhp),(88,zIE)]
def zzZ (id:RowID) (p1:yG):Wy0 (yC):=.bn (zcP p1 id) λr2=>.i (decide (r2≥0)) (.i (decide (0<=r2)&&decide (r2<Int.ofNat p1.length)) (.bn (zhE (p1.getD r2.toNat default).To) λr0=>.k r0) .d) (.bn (zxz id) λr1=>.k r1)
def zix (id:RowID) (p1:yG):=(zzZ id p1).fin default
def zLs:AL base (RowID×(yG×Unit)×Unit):=ze (zf (zcK 49)) (ze (zf (zvL (zdS (vSl 51) zb5))) zu)
def ziu:=zi zLs λx=>((zix x.1 x.2.1.1).1,zS6 (zix x.1 x.2.1.1).2)
theorem zmi:SdP 84 ziu:=
 sT (cx':=zLh) (zk ⟨zqv,zq7,zjU,zVX,trivial⟩) call84 func84 (lOK aN) (sg:=⟨[.own 28],[]⟩)
abbrev zpn:=((yG×Unit)×Unit)×Unit×Unit×yC×Int×yC×Int×Int×yD×Int×Int×Int×Int×Unit
abbrev ze9:=yC×yC×Unit
abbrev zF2:=yG×Int×yC×Int×Int×yD×Int×Int×yC×yC
abbrev zpm:=((yG×Unit)×Unit)×Unit×Unit×yC×Int×Int×yD×Int×Int×Unit
abbrev zFF:=Int⊕(yG×yC×Int×Int×yC×yC)
abbrev zpe:=((yG×Unit)×Unit)×Unit×yC×Int×Int×Unit
abbrev zo9:=yC×Unit
abbrev zGf:=Int⊕yC
def zsC (zr:At->yG->Bool×(yC×Int)) (to:yG) (b:yC) (e:Int) (t16:yC) (t17:Int) (t18:Int) (t26:yD) (t27:Int) (t28:Int) (t40:Int) (t41:Int) (sum:yC) (product:yC):Wy zpn ze9 zF2:=.i (decide (t41<t40)) (.i (e==0) (.bn (zxA product b) λr6=>.h (((to,()),()),(),(),b,(r6.2),t16,t17,t18,t26,t27,t28,t40,(IntKind.i64.wrap (t41+1)),()) (sum,(r6.1),())) (.h (((to,()),()),(),(),b,e,t16,t17,t18,t26,t27,t28,t40,(IntKind.i64.wrap (t41+1)),()) (sum,product,()))) (.k (to,e,t16,t17,t18,t26,t27,t28,sum,product))
def zC6 (zr:At->yG->Bool×(yC×Int)) (x:zpn) (y:ze9):=zsC zr x.1.1.1 x.2.2.2.1 x.2.2.2.2.1 x.2.2.2.2.2.1 x.2.2.2.2.2.2.1 x.2.2.2.2.2.2.2.1 x.2.2.2.2.2.2.2.2.1 x.2.2.2.2.2.2.2.2.2.1 x.2.2.2.2.2.2.2.2.2.2.1 x.2.2.2.2.2.2.2.2.2.2.2.1 x.2.2.2.2.2.2.2.2.2.2.2.2.1 y.1 y.2.1
def zr8 (zr:At->yG->Bool×(yC×Int)) (n:Nat) (to:yG) (b:yC) (e:Int) (t16:yC) (t17:Int) (t18:Int) (t26:yD) (t27:Int) (t28:Int) (t40:Int) (t41:Int) (sum:yC) (product:yC):=zC (zC6 zr) default n (((to,()),()),(),(),b,e,t16,t17,t18,t26,t27,t28,t40,t41,()) (sum,product,())
def zNl (r:zF2):LTree ty:=.done (.exit 4) [.fn 84 ([.bptr ([.sl 51 r.1]) 0]),.own 272,.own 273,.lit (.int .i64 r.2.1),.sl 28 r.2.2.1,.lit (.int .i64 r.2.2.2.1),.lit (.int .i64 r.2.2.2.2.1),.sl 69 r.2.2.2.2.2.1,.lit (.int .i64 r.2.2.2.2.2.2.1),.lit (.int .i64 r.2.2.2.2.2.2.2.1)] [.arr 28 r.2.2.2.2.2.2.2.2.1 false,.arr 28 r.2.2.2.2.2.2.2.2.2 false]
def zOM:LL ty zpn:=za (lFn 84 (za (zoV (za (lSl 51) zl) 0) zl)) (za (zds 272) (za (zds 273) (za (lSl 28) (za zj (za (lSl 28) (za zj (za zj (za (lSl 69) (za zj (za zj (za zj (za zj zl))))))))))))
def zOD:BL ty ze9:=zdA 28 false (zdA 28 false (zbd))
def ztY (zr:At->yG->Bool×(yC×Int)) (to:yG) (t16:yC) (t17:Int) (t18:Int) (t26:yD) (t27:Int) (t28:Int) (sum:yC) (product:yC):Wy zpm ze9 zFF:=.i (decide (t28<t27)) (.i (decide (0<=t28)&&decide (t28<Int.ofNat t26.length)) (.bn (zr (At.mk (t26.getD t28.toNat default).At.Kind (t26.getD t28.toNat default).At.Row (t26.getD t28.toNat default).At.Ag (t26.getD t28.toNat default).At.Func (t26.getD t28.toNat default).At.Items (t26.getD t28.toNat default).At.Op (t26.getD t28.toNat default).At.Bd) to) λr9=>.bn (zr8 zr (to.length+r9.1.length+r9.2.toNat +t16.length+t17.toNat +t18.toNat +t26.length+t27.toNat +t28.toNat +(t26.getD t28.toNat default).Exp.toNat +Int.toNat 0+sum.length+product.length+1) to r9.1 r9.2 t16 t17 t18 t26 t27 t28 (t26.getD t28.toNat default).Exp 0 sum product) λr8=>.i (r8.2.1 != 0) (.k (.inl (r8.2.1))) (.h ((((r8.1),()),()),(),(),(r8.2.2.1),(r8.2.2.2.1),(r8.2.2.2.2.1),(r8.2.2.2.2.2.1),(r8.2.2.2.2.2.2.1),(IntKind.i64.wrap (r8.2.2.2.2.2.2.2.1+1)),()) ((r8.2.2.2.2.2.2.2.2.1),(r8.2.2.2.2.2.2.2.2.2),()))) .d) (.k (.inr (to,t16,t17,t18,sum,product)))
def zD3 (zr:At->yG->Bool×(yC×Int)) (x:zpm) (y:ze9):=ztY zr x.1.1.1 x.2.2.2.1 x.2.2.2.2.1 x.2.2.2.2.2.1 x.2.2.2.2.2.2.1 x.2.2.2.2.2.2.2.1 x.2.2.2.2.2.2.2.2.1 y.1 y.2.1
def zt9 (zr:At->yG->Bool×(yC×Int)) (n:Nat) (to:yG) (t16:yC) (t17:Int) (t18:Int) (t26:yD) (t27:Int) (t28:Int) (sum:yC) (product:yC):=zC (zD3 zr) (.inl default) n (((to,()),()),(),(),t16,t17,t18,t26,t27,t28,()) (sum,product,())
def zPl (r:zFF):LTree ty:=.ite (isL r) (.done .ret [.lit (.slice none 0 0),.lit (.int .i64 (getL r))] []) (.done (.exit 2) [.fn 84 ([.bptr ([.sl 51 (getR r).1]) 0]),.own 272,.own 273,.sl 28 (getR r).2.1,.lit (.int .i64 (getR r).2.2.1),.lit (.int .i64 (getR r).2.2.2.1)] [.arr 28 (getR r).2.2.2.2.1 false,.arr 28 (getR r).2.2.2.2.2 false])
def zQg:LL ty zpm:=za (lFn 84 (za (zoV (za (lSl 51) zl) 0) zl)) (za (zds 272) (za (zds 273) (za (lSl 28) (za zj (za zj (za (lSl 69) (za zj (za zj zl))))))))
def zt8 (zr:At->yG->Bool×(yC×Int)) (to:yG) (t16:yC) (t17:Int) (t18:Int) (sum:yC):Wy zpe zo9 zGf:=.i (decide (t18<t17)) (.i (decide (0<=t18)&&decide (t18<Int.ofNat t16.length)) (.bn (zsy (t16.getD t18.toNat default).Cf) λr14=>.bn (zt9 zr (to.length+t16.length+t17.toNat +t18.toNat +(t16.getD t18.toNat default).Fs.length+(Int.ofNat (t16.getD t18.toNat default).Fs.length).toNat +Int.toNat 0+sum.length+r14.length+1) to t16 t17 t18 (t16.getD t18.toNat default).Fs (Int.ofNat (t16.getD t18.toNat default).Fs.length) 0 sum r14) λr13=>.i (isL r13) (.k (.inl (getL r13))) (.bn (zwX (getR r13).2.2.2.2.1 (getR r13).2.2.2.2.2) λr12=>.i (r12.2 != 0) (.k (.inl (r12.2))) (.h ((((getR r13).1,()),()),(),(getR r13).2.1,(getR r13).2.2.1,(IntKind.i64.wrap ((getR r13).2.2.2.1+1)),()) ((r12.1),())))) .d) (.k (.inr sum))
def zDH (zr:At->yG->Bool×(yC×Int)) (x:zpe) (y:zo9):=zt8 zr x.1.1.1 x.2.2.1 x.2.2.2.1 x.2.2.2.2.1 y.1
def zub (zr:At->yG->Bool×(yC×Int)) (n:Nat) (to:yG) (t16:yC) (t17:Int) (t18:Int) (sum:yC):=zC (zDH zr) (.inl default) n (((to,()),()),(),t16,t17,t18,()) (sum,())
def zOb (r:zGf):LTree ty:=.ite (isL r) (.done .ret [.lit (.slice none 0 0),.lit (.int .i64 (getL r))] []) (.done (.exit 0) [.own 272] [.arr 28 (getR r) false])
def zQG:LL ty zpe:=za (lFn 84 (za (zoV (za (lSl 51) zl) 0) zl)) (za (zds 272) (za (lSl 28) (za zj (za zj zl))))
def zQv:BL ty zo9:=zdA 28 false (zbd)
def zMZ (x:zpn) (y:ze9):Nat:=(x.1.1.1.length+x.2.2.2.1.length+Int.toNat x.2.2.2.2.1+x.2.2.2.2.2.1.length+Int.toNat x.2.2.2.2.2.2.1+Int.toNat x.2.2.2.2.2.2.2.1+x.2.2.2.2.2.2.2.2.1.length+Int.toNat x.2.2.2.2.2.2.2.2.2.1+Int.toNat x.2.2.2.2.2.2.2.2.2.2.1+Int.toNat x.2.2.2.2.2.2.2.2.2.2.2.1+Int.toNat x.2.2.2.2.2.2.2.2.2.2.2.2.1+y.1.length+y.2.1.length+1)
def zOe (x:zpm) (y:ze9):Nat:=(x.1.1.1.length+x.2.2.2.1.length+Int.toNat x.2.2.2.2.1+Int.toNat x.2.2.2.2.2.1+x.2.2.2.2.2.2.1.length+Int.toNat x.2.2.2.2.2.2.2.1+Int.toNat x.2.2.2.2.2.2.2.2.1+y.1.length+y.2.1.length+1)
def zN9 (x:zpe) (y:zo9):Nat:=(x.1.1.1.length+x.2.2.1.length+Int.toNat x.2.2.2.1+Int.toNat x.2.2.2.2.1+y.1.length+1)
def zm5 (zr:At->yG->Bool×(yC×Int)):=zbV zb1 68 [(23,zIi),(84,ziu),(92,zIt),(149,zF8),(150,(zlP zr))] [] [(3,[(1,.keep),(6,.own 28),(16,.keep),(17,.keep),(18,.keep)]),(7,(kpL [1,6,9,16,17,18,26,27,28])),(11,[(1,.keep),(6,.keep),(9,.keep),(12,.sl 28),(13,.keep),(16,.keep),(17,.keep),(18,.keep),(26,.keep),(27,.keep),(28,.keep),(40,.keep),(41,.keep)])] [(3,1,(kpL [6])),(3,0,(kpL [4,5])),(7,3,(kpL [1,6,9,16,17,18])),(7,0,(kpL [4,5])),(11,5,(kpL [1,6,9,13,16,17,18,26,27,28]))] [(11,spW zOM zOD (zC6 zr) default zNl zMZ),(7,spW zQg zOD (zD3 zr) (.inl default) zPl zOe),(3,spW zQG zQv (zDH zr) (.inl default) zOb zN9)] []
theorem zM4 (zr:At->yG->Bool×(yC×Int)):zF (zm5 zr) (lp (body f83) 2):=zq (id:=11) (hl:=rfl)
theorem zQb (zr:At->yG->Bool×(yC×Int)):zF (zm5 zr) (lp (body f83) 1):=zq (id:=7) (hl:=rfl)
theorem zPV (zr:At->yG->Bool×(yC×Int)):zF (zm5 zr) (lp (body f83) 0):=zq (id:=3) (hl:=rfl)
def zES (zr:At->yG->Bool×(yC×Int)) (a:yC) (to:yG):Wy0 (yC×Int):=.bn (zub zr (to.length+a.length+(Int.ofNat a.length).toNat +Int.toNat 0+0+1) to a (Int.ofNat a.length) 0 []) λr18=>.i (isL r18) (.k ([],getL r18)) (.k (getR r18,0))
def zma (zr:At->yG->Bool×(yC×Int)) (a:yC) (to:yG):=(zES zr a to).fin default
theorem zMc (zr:At->yG->Bool×(yC×Int)) (zLN:Sound Tryz.prog zb1 150 (zlP zr)):Sound Tryz.prog zb1 83 (zl9 (zma zr)):=
 sU (cx':=(zm5 zr)) (zk ⟨zVu,zmi.nodr,zU7,zSv.nodr,zLN,trivial⟩) call83 func83 (lOK (aC (zPV zr) (aC (zQb zr) (aC (zM4 zr) aN)))) (sg:=⟨[.own 28,.pure],[]⟩)
def z2D:=zbr base 3 []
def z4u:Wy0 (yC):=.k [TO.mk 1 []]
def zxv:Bool×yC:=(z4u).fin default
def zsK:=zi zSC λx=>((zxv ).1,zS6 (zxv ).2)
theorem zyE:SdP 36 zsK:=
 sT (cx':=z2D) (zk trivial) call36 func36 (lOK aN) (sg:=⟨[.own 28],[]⟩)
def zWA:=zbr base 23 [(20,zcn),(36,zsK),(70,zfg),(131,zok),(152,zho)]
def zIn (a:yC):Wy0 (yC×Int):=.bn (zca a) λr2=>.i (!r2) (.k ([],1)) (.i (Int.ofNat a.length==0) (.k (zxv.2,0)) (.bn (zfD a) λr1=>.i (r1) (.k ([],0)) (.bn (zeU (zf7 (At.mk 3 (RowID.mk 0 0) [a] 0 [] 0 (Value.mk 0 0 (ByteArray.mk #[])))).2) λr0=>.k (r0.1,r0.2))))
def zp4 (a:yC):=(zIn a).fin default
def zER:=zi zZm λx=>((zp4 x.1).1,zSr (zp4 x.1).2)
theorem zQX:SdP 179 zER:=
 sT (cx':=zWA) (zk ⟨zct,zyE,zge,zwS,zjz,trivial⟩) call179 func179 (lOK aN) (sg:=⟨[.own 28,.pure],[]⟩)
def zXX:=zbr base 29 [(20,zcn),(36,zsK),(70,zfg),(87,zhp),(129,zpx),(130,zvW),(152,zho)]
def zKr (a:yC):Wy0 (yC×Int):=.bn (zca a) λr5=>.i (!r5) (.k ([],1)) (.i (Int.ofNat a.length==0) (.bn (zhE a) λr0=>.k (r0,0)) (.bn (zmx a) λr4=>.i (r4) (.bn (zhE a) λr1=>.k (r1,0)) (.bn (zii a) λr3=>.i (r3) (.k (zxv.2,0)) (.bn (zeU (zf7 (At.mk 2 (RowID.mk 0 0) [a] 0 [] 0 (Value.mk 0 0 (ByteArray.mk #[])))).2) λr2=>.k (r2.1,r2.2)))))
def zrS (a:yC):=(zKr a).fin default
def zFJ:=zi zZm λx=>((zrS x.1).1,zSr (zrS x.1).2)
theorem zSJ:SdP 178 zFJ:=
 sT (cx':=zXX) (zk ⟨zct,zyE,zge,zjU,zym,zDU,zjz,trivial⟩) call178 func178 (lOK aN) (sg:=⟨[.own 28,.pure],[]⟩)
def zXY:=zbr base 38 [(20,zcn),(21,zli),(70,zfg),(87,zhp),(152,zho)]
def zKS (a:yC) (b:yC):Wy0 (yC×Int):=.bn (zca a) λr4=>.i (!r4) (.k ([],1)) (.bn (zca b) λr3=>.i (!r3) (.k ([],1)) (.i (Int.ofNat b.length==0) (.bn (zhE a) λr0=>.k (r0,0)) (.i (Int.ofNat a.length==0) (.k ([],0)) (.bn (zgY a b) λr2=>.i (r2) (.k ([],0)) (.bn (zeU (zf7 (At.mk 1 (RowID.mk 0 0) [a,b] 0 [] 0 (Value.mk 0 0 (ByteArray.mk #[])))).2) λr1=>.k (r1.1,r1.2))))))
def zsE (a:yC) (b:yC):=(zKS a b).fin default
def zGd:=zi zWy λx=>((zsE x.1 x.2.1).1,zSr (zsE x.1 x.2.1).2)
theorem zSO:SdP 177 zGd:=
 sT (cx':=zXY) (zk ⟨zct,zn7,zge,zjU,zjz,trivial⟩) call177 func177 (lOK aN) (sg:=⟨[.own 28,.pure],[]⟩)
def zzW (r:yE):ARes ty:=⟨[],[some ⟨100,r⟩]⟩
def zBN:AL base (yE×Int×Int×Int×Unit×Unit):=ze (zq1 100) (ze (zf (znK .i64)) (ze (zf (znK .i64)) (ze (zf (znK .i64)) (ze (zf (vFn 124 zb5)) zu))))
def zd0 (F:yE->Int->Int->Int->Bool×yE):Ab.Spec ty:=zi zBN λx=>((F x.1 x.2.1 x.2.2.1 x.2.2.2.1).1,zzW (F x.1 x.2.1 x.2.2.1 x.2.2.2.1).2)
abbrev zfb:=Unit×Int×Int×Int×Int×Unit
abbrev zff:=yE×Unit
def zdu (a:Int) (b:Int) (n_:Int) (i:Int) (data:yE):Wy zfb zff (yE):=.i (decide (i<n_)) (.i (decide (0<=IntKind.i64.wrap (b+i))&&decide (IntKind.i64.wrap (b+i)<Int.ofNat data.length)) (.i (decide (0<=IntKind.i64.wrap (a+i))&&decide (IntKind.i64.wrap (a+i)<Int.ofNat data.length)) (.i (decide (0<=IntKind.i64.wrap (a+i))&&decide (IntKind.i64.wrap (a+i)<Int.ofNat data.length)) (.i (decide ((IntKind.i64.wrap (a+i)).toNat<data.length)) (.i (decide (0<=IntKind.i64.wrap (b+i))&&decide (IntKind.i64.wrap (b+i)<Int.ofNat (data.set (IntKind.i64.wrap (a+i)).toNat (data.getD (IntKind.i64.wrap (b+i)).toNat default)).length)) (.i (decide ((IntKind.i64.wrap (b+i)).toNat<(data.set (IntKind.i64.wrap (a+i)).toNat (data.getD (IntKind.i64.wrap (b+i)).toNat default)).length)) (.h ((),a,b,n_,(IntKind.i64.wrap (i+1)),()) (((data.set (IntKind.i64.wrap (a+i)).toNat (data.getD (IntKind.i64.wrap (b+i)).toNat default)).set (IntKind.i64.wrap (b+i)).toNat (data.getD (IntKind.i64.wrap (a+i)).toNat default)),())) .d) .d) .d) .d) .d) .d) (.k data)
def zhh (x:zfb) (y:zff):=zdu x.2.1 x.2.2.1 x.2.2.2.1 x.2.2.2.2.1 y.1
def zmE (n:Nat) (a:Int) (b:Int) (n_:Int) (i:Int) (data:yE):=zC (zhh) default n ((),a,b,n_,i,()) (data,())
def zyF (r:yE):LTree ty:=.done (.exit 0) [.own 152] [.arr 100 r false]
def zzK:LL ty zfb:=za (zds 152) (za zj (za zj (za zj (za zj zl))))
def zAn:BL ty zff:=zdA 100 false (zbd)
def zzo (x:zfb) (y:zff):Nat:=(Int.toNat x.2.1+Int.toNat x.2.2.1+Int.toNat x.2.2.2.1+Int.toNat x.2.2.2.2.1+y.1.length+1000)
def zmF:=zbV base 38 [(124,zce)] [] [(1,(kpL [0,1,2,3,10]))] [(1,1,(kpL [0]))] [(1,spW zzK zAn (zhh) default zyF zzo)] []
theorem zy7:zF zmF (lp (body f299) 0):=zq (id:=1) (hl:=rfl)
def znj (data:yE) (a:Int) (b:Int) (n_:Int):Wy0 (yE):=.bn (zmE (a.toNat +b.toNat +n_.toNat +Int.toNat 0+data.length+1000) a b n_ 0 data) λr0=>.k r0
def zcp (data:yE) (a:Int) (b:Int) (n_:Int):=(znj data a b n_).fin default
def zAG:AL base (yE×Int×Int×Int×Unit×Unit):=ze (zq1 100) (ze (zf zfh) (ze (zf zfh) (ze (zf zfh) (ze (zf (vFn 124 zb5)) zu))))
def zlK:=zi zAG λx=>((zcp x.1 x.2.1 x.2.2.1 x.2.2.2.1).1,zzW (zcp x.1 x.2.1 x.2.2.1 x.2.2.2.1).2)
theorem zwI:SdP 299 zlK:=
 sT (cx':=zmF) (zk ⟨zco,trivial⟩) call299 func299 (lOK (aC zy7 aN)) (sg:=⟨[],[true]⟩)
end Go.Proofs.YtljlfiomikifjaaGreatDoor
end
