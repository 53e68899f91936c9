/- Texts of this claim, joined (the program, its functions in plain words, and what they compute). -/
import Derived.WalkKit
import Derived.WalkSpells
import Derived.Test.YtljlfiomikifjaaGreatDoorGC2
set_option autoImplicit false
set_option linter.unusedVariables false
set_option linter.unusedSectionVars false
set_option linter.unusedSimpArgs false
set_option maxRecDepth 1000000
set_option maxHeartbeats 0
noncomputable section
namespace Go.Proofs.YtljlfiomikifjaaGreatDoor
open Go Go.Ab
def zZE:Cx ty:=mkCx base 15 [(128,zuX),(168,strconv_Itoa_spec)] [] [] [] [] []
def zNE (id:RowID):Wy0 (ByteArray):=.bn (zqF id) fun r2=>.i (!r2) (.k (ByteArray.mk #[])) (.bn (strconv_Itoa id.Table) fun r1=>.i (decide ((ByteArray.mk #[(116:UInt8)]).size+r1.size≤9223372036854775807)) (.i (decide ((ByteArray.mk #[(116:UInt8)]++r1).size+(ByteArray.mk #[(46:UInt8)]).size≤9223372036854775807)) (.bn (strconv_Itoa id.Seq) fun r0=>.i (decide ((ByteArray.mk #[(116:UInt8)]++r1++ByteArray.mk #[(46:UInt8)]).size+r0.size≤9223372036854775807)) (.k (ByteArray.mk #[(116:UInt8)]++r1++ByteArray.mk #[(46:UInt8)]++r0)) .d) .d) .d)
def zxx (id:RowID):Bool×ByteArray:=(zNE id).fin default
def zGF:Ab.Spec ty:=zh z3Z fun x=>((zxx x.1).1,zT4 (zxx x.1).2)
theorem zTV:SdP 195 zGF:=
 sW (cx':=zZE) zq zi zl (zj ⟨zzu,zGN,trivial⟩) Tryz.call195 Tryz.func195 (c:=body Tryz.f195) (lOK aN)
def zi8 (m b:Int):Bool×ByteArray:=zw1 m b
def strconv_FormatInt_spec:Ab.Spec ty:=zh (cx:=base) (zd (ze (vInt .i64)) (zd (ze (vInt .i64)) aNil)) fun x=>((zi8 x.1 x.2.1).1,⟨[.pure (.lit (.string (zi8 x.1 x.2.1).2))],[]⟩)
theorem zA9:SdP 227 strconv_FormatInt_spec:=z2B zi Go.Proofs.Tryz.laysM173 Tryz.call227 (fun _ h=>h.1)
def strings_ReplaceAll (s p q:ByteArray):Bool×ByteArray:=zpU s p q
def strings_ReplaceAll_spec:Ab.Spec ty:=zh (cx:=base0) (zd (ze vStr) (zd (ze vStr) (zd (ze vStr) aNil))) fun x=>((strings_ReplaceAll x.1 x.2.1 x.2.2.1).1,⟨[.pure (.lit (.string (strings_ReplaceAll x.1 x.2.1 x.2.2.1).2))],[]⟩)
theorem zLr:Sound Tryz.prog base0 228 strings_ReplaceAll_spec:=zZ1 zi7 rfl Go.Proofs.Tryz.lays155 Go.Proofs.Tryz.Builder_Extra_155 Tryz.call228 (fun _ h=>h.2)
def z01:Cx ty:=mkCx base0 27 [(164,zw5),(227,strconv_FormatInt_spec),(228,strings_ReplaceAll_spec)] [] [] [] [] []
def zPo (v:Value):Wy0 (ByteArray):=.bn (zun v) fun r2=>.i (!r2) (.k (ByteArray.mk #[])) (.i (v.Kind==0) (.bn (zi8 v.Int 10) fun r0=>.k r0) (.i (v.Kind==1) (.bn (strings_ReplaceAll v.Text (ByteArray.mk #[(39:UInt8)]) (ByteArray.mk #[(39:UInt8),(39:UInt8)])) fun r1=>.i (decide ((ByteArray.mk #[(39:UInt8)]).size+r1.size≤9223372036854775807)) (.i (decide ((ByteArray.mk #[(39:UInt8)]++r1).size+(ByteArray.mk #[(39:UInt8)]).size≤9223372036854775807)) (.k (ByteArray.mk #[(39:UInt8)]++r1++ByteArray.mk #[(39:UInt8)])) .d) .d) (.i (v.Int==1) (.k (ByteArray.mk #[(84:UInt8),(82:UInt8),(85:UInt8),(69:UInt8)])) (.k (ByteArray.mk #[(70:UInt8),(65:UInt8),(76:UInt8),(83:UInt8),(69:UInt8)])))))
def zvg (v:Value):Bool×ByteArray:=(zPo v).fin default
def z4b:AL base0 (Value×Unit):=zd (ze (vAgg 65)) aNil
def zI6:Ab.Spec ty:=zh z4b fun x=>((zvg x.1).1,zT4 (zvg x.1).2)
theorem zVk:Sound Tryz.prog base0 197 zI6:=
 sW (cx':=z01) zq zi7 zl (zj ⟨zBh.nodr,zA9.nodr,zLr,trivial⟩) Tryz.call197 Tryz.func197 (c:=body Tryz.f197) (lOK aN)
abbrev zhI:=Unit×Unit×yE×Int×Int×Unit
abbrev zhO:=Atom×List ByteArray×Unit
abbrev zlB:=Atom×List ByteArray
def zfT (zbt:yC→Bool×ByteArray) (t48:yE) (t49:Int) (t50:Int) (x_:Atom) (items:List ByteArray):Wy zhI zhO zlB:=.i (decide (t50<t49)) (.i (decide (0≤t50)&&decide (t50<Int.ofNat t48.length)) (.bn (zvg (t48.getD t50.toNat default).Value) fun r1=>.i (decide (r1.size+(ByteArray.mk #[(58:UInt8),(32:UInt8)]).size≤9223372036854775807)) (.bn (zbt (t48.getD t50.toNat default).Ann) fun r0=>.i (decide ((r1++ByteArray.mk #[(58:UInt8),(32:UInt8)]).size+r0.size≤9223372036854775807)) (.i (decide ((items.length+[r1++ByteArray.mk #[(58:UInt8),(32:UInt8)]++r0].length)*16≤reach)) (.h ((),(),t48,t49,(IntKind.i64.wrap (t50+1)),()) (x_,(items++[r1++ByteArray.mk #[(58:UInt8),(32:UInt8)]++r0]),())) .d) .d) .d) .d) (.k (x_,items))
def znl (zbt:yC→Bool×ByteArray) (x:zhI) (y:zhO):Wy zhI zhO zlB:=zfT zbt x.2.2.1 x.2.2.2.1 x.2.2.2.2.1 y.1 y.2.1
def zws (zbt:yC→Bool×ByteArray) (n:Nat) (t48:yE) (t49:Int) (t50:Int) (x_:Atom) (items:List ByteArray):Bool×zlB:=zI (znl zbt) default n ((),(),t48,t49,t50,()) (x_,items,())
def zFJ (r:zlB):LTree ty:=.done (.exit 1) [.ptr 360 0,.own 361] [.box (base.enc 67 r.1) false,.arr 9 r.2 false]
def zHv:LL ty zhI:=za (zfl 360 0) (za (lOwn 361) (za (lSl 100) (za lI64 (za lI64 zp))))
def zHw:BL ty zhO:=bBox (zg1 (fun x=>(⟨x.1,⟨x.2.1,x.2.2.1⟩,x.2.2.2.1,x.2.2.2.2.1,x.2.2.2.2.2.1,x.2.2.2.2.2.2.1,⟨x.2.2.2.2.2.2.2.1,x.2.2.2.2.2.2.2.2.1,x.2.2.2.2.2.2.2.2.2.1⟩⟩:Atom)) (fun x=>(x.Kind,x.Row.Table,x.Row.Seq,x.Args,x.Func,x.Items,x.Op,x.Bound.Kind,x.Bound.Int,x.Bound.Text,())) (fun _=>rfl) (za (lInt .i64) (za (lInt .i64) (za (lInt .i64) (za (lSl 23) (za (lInt .i64) (za (lSl 100) (za (lInt .i64) (za (lInt .i64) (za (lInt .i64) (za lStr zp))))))))))) false (bArr 9 false (bNil))
def zFl (x:zhI) (y:zhO):Nat:=(x.2.2.1.length+Int.toNat x.2.2.2.1+Int.toNat x.2.2.2.2.1+y.1.Args.length+y.1.Items.length+y.2.1.length+1)
def zxZ (zbt:yC→Bool×ByteArray):Cx ty:=mkCx base0 90 [(169,strings_Join_spec),(195,zGF),(196,(zu0 zbt)),(197,zI6),(198,zy4),(199,zyO)] [] [(12,[(1,.keep),(3,.own 9),(48,.keep),(49,.keep),(50,.keep)])] [(12,2,(kpL [1,3]))] [(12,spW zHv zHw (znl zbt) default zFJ zFl)] []
theorem zFq (zbt:yC→Bool×ByteArray):zL (zxZ zbt) (lp (body Tryz.f167) 0):=zw (id:=12) (hl:=rfl)
def zyT (zbt:yC→Bool×ByteArray) (x_:Atom):Wy0 (ByteArray):=.i (x_.Kind==0) (.bn (zxx x_.Row) fun r4=>.k r4) (.i (x_.Kind==1) (.i (decide ((0:Int)≤(0:Int))&&decide (0<Int.ofNat x_.Args.length)) (.bn (zbt (x_.Args.getD (Int.toNat 0) default)) fun r6=>.i (decide ((ByteArray.mk #[(109:UInt8),(111:UInt8),(110:UInt8),(117:UInt8),(115:UInt8),(91:UInt8)]).size+r6.size≤9223372036854775807)) (.i (decide ((ByteArray.mk #[(109:UInt8),(111:UInt8),(110:UInt8),(117:UInt8),(115:UInt8),(91:UInt8)]++r6).size+(ByteArray.mk #[(44:UInt8),(32:UInt8)]).size≤9223372036854775807)) (.i (decide ((0:Int)≤(1:Int))&&decide (1<Int.ofNat x_.Args.length)) (.bn (zbt (x_.Args.getD (Int.toNat 1) default)) fun r5=>.i (decide ((ByteArray.mk #[(109:UInt8),(111:UInt8),(110:UInt8),(117:UInt8),(115:UInt8),(91:UInt8)]++r6++ByteArray.mk #[(44:UInt8),(32:UInt8)]).size+r5.size≤9223372036854775807)) (.i (decide ((ByteArray.mk #[(109:UInt8),(111:UInt8),(110:UInt8),(117:UInt8),(115:UInt8),(91:UInt8)]++r6++ByteArray.mk #[(44:UInt8),(32:UInt8)]++r5).size+(ByteArray.mk #[(93:UInt8)]).size≤9223372036854775807)) (.k (ByteArray.mk #[(109:UInt8),(111:UInt8),(110:UInt8),(117:UInt8),(115:UInt8),(91:UInt8)]++r6++ByteArray.mk #[(44:UInt8),(32:UInt8)]++r5++ByteArray.mk #[(93:UInt8)])) .d) .d) .d) .d) .d) .d) (.i (x_.Kind==2) (.i (decide ((0:Int)≤(0:Int))&&decide (0<Int.ofNat x_.Args.length)) (.bn (zbt (x_.Args.getD (Int.toNat 0) default)) fun r7=>.i (decide ((ByteArray.mk #[(100:UInt8),(101:UInt8),(108:UInt8),(116:UInt8),(97:UInt8),(91:UInt8)]).size+r7.size≤9223372036854775807)) (.i (decide ((ByteArray.mk #[(100:UInt8),(101:UInt8),(108:UInt8),(116:UInt8),(97:UInt8),(91:UInt8)]++r7).size+(ByteArray.mk #[(93:UInt8)]).size≤9223372036854775807)) (.k (ByteArray.mk #[(100:UInt8),(101:UInt8),(108:UInt8),(116:UInt8),(97:UInt8),(91:UInt8)]++r7++ByteArray.mk #[(93:UInt8)])) .d) .d) .d) (.i (x_.Kind==3) (.i (decide ((0:Int)≤(0:Int))&&decide (0<Int.ofNat x_.Args.length)) (.bn (zbt (x_.Args.getD (Int.toNat 0) default)) fun r8=>.i (decide ((ByteArray.mk #[(97:UInt8),(98:UInt8),(115:UInt8),(101:UInt8),(110:UInt8),(116:UInt8),(91:UInt8)]).size+r8.size≤9223372036854775807)) (.i (decide ((ByteArray.mk #[(97:UInt8),(98:UInt8),(115:UInt8),(101:UInt8),(110:UInt8),(116:UInt8),(91:UInt8)]++r8).size+(ByteArray.mk #[(93:UInt8)]).size≤9223372036854775807)) (.k (ByteArray.mk #[(97:UInt8),(98:UInt8),(115:UInt8),(101:UInt8),(110:UInt8),(116:UInt8),(91:UInt8)]++r8++ByteArray.mk #[(93:UInt8)])) .d) .d) .d) (.bn (zws zbt (x_.Items.length+(Int.ofNat x_.Items.length).toNat +Int.toNat 0+x_.Args.length+x_.Items.length+0+1) x_.Items (Int.ofNat x_.Items.length) 0 (Atom.mk x_.Kind x_.Row x_.Args x_.Func x_.Items x_.Op x_.Bound) []) fun r11=>.i (decide (0≤r11.1.Func)&&decide (r11.1.Func<Int.ofNat zb5.2.length)) (.i (decide ((ByteArray.mk #[(116:UInt8),(101:UInt8),(115:UInt8),(116:UInt8),(91:UInt8)]).size+ByteArray.size (zb5.2.getD r11.1.Func.toNat default)≤9223372036854775807)) (.i (decide ((ByteArray.mk #[(116:UInt8),(101:UInt8),(115:UInt8),(116:UInt8),(91:UInt8)]++zb5.2.getD r11.1.Func.toNat default).size+(ByteArray.mk #[(123:UInt8)]).size≤9223372036854775807)) (.bn (strings_Join r11.2 (ByteArray.mk #[(59:UInt8),(32:UInt8)])) fun r10=>.i (decide ((ByteArray.mk #[(116:UInt8),(101:UInt8),(115:UInt8),(116:UInt8),(91:UInt8)]++zb5.2.getD r11.1.Func.toNat default++ByteArray.mk #[(123:UInt8)]).size+r10.size≤9223372036854775807)) (.i (decide ((ByteArray.mk #[(116:UInt8),(101:UInt8),(115:UInt8),(116:UInt8),(91:UInt8)]++zb5.2.getD r11.1.Func.toNat default++ByteArray.mk #[(123:UInt8)]++r10).size+(ByteArray.mk #[(125:UInt8),(32:UInt8)]).size≤9223372036854775807)) (.i (decide (0≤IntKind.i64.wrap (r11.1.Op - 5))&&decide (IntKind.i64.wrap (r11.1.Op - 5)<Int.ofNat zdM.2.length)) (.i (decide ((ByteArray.mk #[(116:UInt8),(101:UInt8),(115:UInt8),(116:UInt8),(91:UInt8)]++zb5.2.getD r11.1.Func.toNat default++ByteArray.mk #[(123:UInt8)]++r10++ByteArray.mk #[(125:UInt8),(32:UInt8)]).size+ByteArray.size (zdM.2.getD (IntKind.i64.wrap (r11.1.Op - 5)).toNat default)≤9223372036854775807)) (.i (decide ((ByteArray.mk #[(116:UInt8),(101:UInt8),(115:UInt8),(116:UInt8),(91:UInt8)]++zb5.2.getD r11.1.Func.toNat default++ByteArray.mk #[(123:UInt8)]++r10++ByteArray.mk #[(125:UInt8),(32:UInt8)]++zdM.2.getD (IntKind.i64.wrap (r11.1.Op - 5)).toNat default).size+(ByteArray.mk #[(32:UInt8)]).size≤9223372036854775807)) (.bn (zvg r11.1.Bound) fun r9=>.i (decide ((ByteArray.mk #[(116:UInt8),(101:UInt8),(115:UInt8),(116:UInt8),(91:UInt8)]++zb5.2.getD r11.1.Func.toNat default++ByteArray.mk #[(123:UInt8)]++r10++ByteArray.mk #[(125:UInt8),(32:UInt8)]++zdM.2.getD (IntKind.i64.wrap (r11.1.Op - 5)).toNat default++ByteArray.mk #[(32:UInt8)]).size+r9.size≤9223372036854775807)) (.i (decide ((ByteArray.mk #[(116:UInt8),(101:UInt8),(115:UInt8),(116:UInt8),(91:UInt8)]++zb5.2.getD r11.1.Func.toNat default++ByteArray.mk #[(123:UInt8)]++r10++ByteArray.mk #[(125:UInt8),(32:UInt8)]++zdM.2.getD (IntKind.i64.wrap (r11.1.Op - 5)).toNat default++ByteArray.mk #[(32:UInt8)]++r9).size+(ByteArray.mk #[(93:UInt8)]).size≤9223372036854775807)) (.k (ByteArray.mk #[(116:UInt8),(101:UInt8),(115:UInt8),(116:UInt8),(91:UInt8)]++zb5.2.getD r11.1.Func.toNat default++ByteArray.mk #[(123:UInt8)]++r10++ByteArray.mk #[(125:UInt8),(32:UInt8)]++zdM.2.getD (IntKind.i64.wrap (r11.1.Op - 5)).toNat default++ByteArray.mk #[(32:UInt8)]++r9++ByteArray.mk #[(93:UInt8)])) .d) .d) .d) .d) .d) .d) .d) .d) .d) .d))))
def ziK (zbt:yC→Bool×ByteArray) (x_:Atom):Bool×ByteArray:=(zyT zbt x_).fin default
theorem zEH (zbt:yC→Bool×ByteArray) (zUd:Sound Tryz.prog base0 196 (zu0 zbt)):Sound Tryz.prog base0 167 (zl6 (ziK zbt)):=
 sW (cx':=(zxZ zbt)) zq zi7 zl (zj ⟨zAf,zTV.nodr,zUd,zVk,zIv.nodr,zIQ.nodr,trivial⟩) Tryz.call167 Tryz.func167 (c:=body Tryz.f167) (lOK (aC (zFq zbt) aN))
abbrev zfW:=Unit×yD×Int×Int×Unit
abbrev zfR:=List ByteArray×Unit
def zfd (zbg:Atom→Bool×ByteArray) (t7:yD) (t8:Int) (t9:Int) (out_:List ByteArray):Wy zfW zfR (List ByteArray):=.i (decide (t9<t8)) (.i (decide (0≤t9)&&decide (t9<Int.ofNat t7.length)) (.bn (zbg (Atom.mk (t7.getD t9.toNat default).Atom.Kind (t7.getD t9.toNat default).Atom.Row (t7.getD t9.toNat default).Atom.Args (t7.getD t9.toNat default).Atom.Func (t7.getD t9.toNat default).Atom.Items (t7.getD t9.toNat default).Atom.Op (t7.getD t9.toNat default).Atom.Bound)) fun r1=>.i ((t7.getD t9.toNat default).Exp != 1) (.bn (strconv_Itoa (t7.getD t9.toNat default).Exp) fun r0=>.i (decide ((ByteArray.mk #[(94:UInt8)]).size+r0.size≤9223372036854775807)) (.i (decide (r1.size+(ByteArray.mk #[(94:UInt8)]++r0).size≤9223372036854775807)) (.i (decide ((out_.length+[r1++(ByteArray.mk #[(94:UInt8)]++r0)].length)*16≤reach)) (.h ((),t7,t8,(IntKind.i64.wrap (t9+1)),()) ((out_++[r1++(ByteArray.mk #[(94:UInt8)]++r0)]),())) .d) .d) .d) (.i (decide ((out_.length+[r1].length)*16≤reach)) (.h ((),t7,t8,(IntKind.i64.wrap (t9+1)),()) ((out_++[r1]),())) .d)) .d) (.k out_)
def zlY (zbg:Atom→Bool×ByteArray) (x:zfW) (y:zfR):Wy zfW zfR (List ByteArray):=zfd zbg x.2.1 x.2.2.1 x.2.2.2.1 y.1
def zuM (zbg:Atom→Bool×ByteArray) (n:Nat) (t7:yD) (t8:Int) (t9:Int) (out_:List ByteArray):Bool×List ByteArray:=zI (zlY zbg) default n ((),t7,t8,t9,()) (out_,())
def zD0 (r:List ByteArray):LTree ty:=.done (.exit 0) [.own 128] [.arr 9 r false]
def zEU:LL ty zfW:=za (lOwn 128) (za (lSl 69) (za lI64 (za lI64 zp)))
def zEF:BL ty zfR:=bArr 9 false (bNil)
def zDY (x:zfW) (y:zfR):Nat:=(x.2.1.length+Int.toNat x.2.2.1+Int.toNat x.2.2.2.1+y.1.length+1)
def zuJ (zbg:Atom→Bool×ByteArray):Cx ty:=mkCx base0 32 [(167,(zl6 zbg)),(168,strconv_Itoa_spec),(169,strings_Join_spec)] [] [(3,[(3,.own 9),(7,.keep),(8,.keep),(9,.keep)])] [(3,1,(kpL [3]))] [(3,spW zEU zEF (zlY zbg) default zD0 zDY)] []
theorem zEi (zbg:Atom→Bool×ByteArray):zL (zuJ zbg) (lp (body Tryz.f139) 0):=zw (id:=3) (hl:=rfl)
def zvY (zbg:Atom→Bool×ByteArray) (l:yD):Wy0 (ByteArray):=.bn (zuM zbg (l.length+(Int.ofNat l.length).toNat +Int.toNat 0+0+1) l (Int.ofNat l.length) 0 []) fun r5=>.bn (strings_Join r5 (ByteArray.mk #[(42:UInt8)])) fun r4=>.k r4
def zgo (zbg:Atom→Bool×ByteArray) (l:yD):Bool×ByteArray:=(zvY zbg l).fin default
theorem zCz (zbg:Atom→Bool×ByteArray) (zJ8:Sound Tryz.prog base0 167 (zl6 zbg)):Sound Tryz.prog base0 139 (zgk (zgo zbg)):=
 sW (cx':=(zuJ zbg)) zq zi7 zl (zj ⟨zJ8,zGN.nodr,zAf,trivial⟩) Tryz.call139 Tryz.func139 (c:=body Tryz.f139) (lOK (aC (zEi zbg) aN))
abbrev znq:=Unit×yC×Int×Int×Unit
abbrev znC:=List ByteArray×Unit
def zlk (zW:yD→Bool×ByteArray) (t9:yC) (t10:Int) (t11:Int) (out_:List ByteArray):Wy znq znC (List ByteArray):=.i (decide (t11<t10)) (.i (decide (0≤t11)&&decide (t11<Int.ofNat t9.length)) (.i (Int.ofNat (t9.getD t11.toNat default).Factors.length==0) (.bn (zi8 (t9.getD t11.toNat default).Coeff 10) fun r0=>.i (decide ((out_.length+[r0].length)*16≤reach)) (.h ((),t9,t10,(IntKind.i64.wrap (t11+1)),()) ((out_++[r0]),())) .d) (.i ((t9.getD t11.toNat default).Coeff==1) (.bn (zW (t9.getD t11.toNat default).Factors) fun r1=>.i (decide ((out_.length+[r1].length)*16≤reach)) (.h ((),t9,t10,(IntKind.i64.wrap (t11+1)),()) ((out_++[r1]),())) .d) (.bn (zi8 (t9.getD t11.toNat default).Coeff 10) fun r3=>.i (decide (r3.size+(ByteArray.mk #[(42:UInt8)]).size≤9223372036854775807)) (.bn (zW (t9.getD t11.toNat default).Factors) fun r2=>.i (decide ((r3++ByteArray.mk #[(42:UInt8)]).size+r2.size≤9223372036854775807)) (.i (decide ((out_.length+[r3++ByteArray.mk #[(42:UInt8)]++r2].length)*16≤reach)) (.h ((),t9,t10,(IntKind.i64.wrap (t11+1)),()) ((out_++[r3++ByteArray.mk #[(42:UInt8)]++r2]),())) .d) .d) .d))) .d) (.k out_)
def zxm (zW:yD→Bool×ByteArray) (x:znq) (y:znC):Wy znq znC (List ByteArray):=zlk zW x.2.1 x.2.2.1 x.2.2.2.1 y.1
def zDQ (zW:yD→Bool×ByteArray) (n:Nat) (t9:yC) (t10:Int) (t11:Int) (out_:List ByteArray):Bool×List ByteArray:=zI (zxm zW) default n ((),t9,t10,t11,()) (out_,())
def zQp (r:List ByteArray):LTree ty:=.done (.exit 0) [.own 200] [.arr 9 r false]
def zRg:LL ty znq:=za (lOwn 200) (za (lSl 28) (za lI64 (za lI64 zp)))
def zSb:BL ty znC:=bArr 9 false (bNil)
def zPX (x:znq) (y:znC):Nat:=(x.2.1.length+Int.toNat x.2.2.1+Int.toNat x.2.2.2.1+y.1.length+1)
def zEy (zW:yD→Bool×ByteArray):Cx ty:=mkCx base0 50 [(139,(zgk zW)),(169,strings_Join_spec),(227,strconv_FormatInt_spec)] [] [(5,[(3,.own 9),(9,.keep),(10,.keep),(11,.keep)])] [(5,1,(kpL [3]))] [(5,spW zRg zSb (zxm zW) default zQp zPX)] []
theorem zO8 (zW:yD→Bool×ByteArray):zL (zEy zW) (lp (body Tryz.f196) 0):=zw (id:=5) (hl:=rfl)
def zFb (zW:yD→Bool×ByteArray) (a:yC):Wy0 (ByteArray):=.i (Int.ofNat a.length==0) (.k (ByteArray.mk #[(48:UInt8)])) (.bn (zDQ zW (a.length+(Int.ofNat a.length).toNat +Int.toNat 0+0+1) a (Int.ofNat a.length) 0 []) fun r9=>.bn (strings_Join r9 (ByteArray.mk #[(32:UInt8),(43:UInt8),(32:UInt8)])) fun r8=>.k r8)
def zoQ (zW:yD→Bool×ByteArray) (a:yC):Bool×ByteArray:=(zFb zW a).fin default
theorem zMR (zW:yD→Bool×ByteArray) (zFX:Sound Tryz.prog base0 139 (zgk zW)):Sound Tryz.prog base0 196 (zu0 (zoQ zW)):=
 sW (cx':=(zEy zW)) zq zi7 zl (zj ⟨zFX,zAf,zA9.nodr,trivial⟩) Tryz.call196 Tryz.func196 (c:=body Tryz.f196) (lOK (aC (zO8 zW) aN))
def zGi:Nat→(yC→Bool×ByteArray)×(Atom→Bool×ByteArray)×(yD→Bool×ByteArray)
 | 0=>(fun _=>(false,default),fun _=>(false,default),fun _=>(false,default))
 | n+1=>(zoQ ((zGi n).2.2),ziK ((zGi n).1),zgo ((zGi n).2.1))
def zuY (n:Nat):yC→Bool×ByteArray:=(zGi n).1
def zmb (n:Nat):Atom→Bool×ByteArray:=(zGi n).2.1
def zgh (n:Nat):yD→Bool×ByteArray:=(zGi n).2.2
theorem zRM (n:Nat):zuY (n+1)=zoQ (zgh n):=rfl
theorem zIe (n:Nat):zmb (n+1)=ziK (zuY n):=rfl
theorem zEO (n:Nat):zgh (n+1)=zgo (zmb n):=rfl
theorem z1r:∀ n,Sound Tryz.prog base0 196 (zu0 (zuY n))∧Sound Tryz.prog base0 167 (zl6 (zmb n))∧Sound Tryz.prog base0 139 (zgk (zgh n))
 | 0=>⟨z6 Tryz.call196 (fun _=>rfl),z6 Tryz.call167 (fun _=>rfl),z6 Tryz.call139 (fun _=>rfl)⟩
 | n+1=>by
  have ih:=z1r n;exact ⟨zMR _ (ih.2.2),zEH _ (ih.1),zCz _ (ih.2.1)⟩
def zrq:yD→Bool×ByteArray:=zgh 1000
def annotation_formatFactors_spec:Ab.Spec ty:=zgk zrq
theorem zEq:Sound Tryz.prog base0 139 annotation_formatFactors_spec:=(z1r 1000).2.2
def zln (x:yC) (a b lim:Int):Bool×yC:=z3j zb1 x a b lim
def slices_pdqsortCmpFunc_api_Term_spec:Ab.Spec ty:=zh (cx:=base) (zd (aOwn 28) (zd (ze (vInt .i64)) (zd (ze (vInt .i64)) (zd (ze (vInt .i64)) (zd (ze (vFn 63 vNil)) aNil))))) fun x=>((zln x.1 x.2.1 x.2.2.1 x.2.2.2.1).1,⟨[],[some ⟨28,(zln x.1 x.2.1 x.2.2.1 x.2.2.2.1).2⟩]⟩)
theorem zBq (c:Unit) (x y:Term) (h:(zb1 x y).1=true):annotation_compareLists_spec ((AV.agg (base.enc 28 x)::AV.agg (base.enc 28 y)::(vNil:VL base Unit).enc c).map Arg.pure)=some (true,⟨[.pure (.lit (.int .i64 (zb1 x y).2))],[]⟩):=by
 rw [← h]; kernel_rfl
theorem zzx:SdP 155 slices_pdqsortCmpFunc_api_Term_spec:=by
 letI:DecidableEq (ty 28):=inferInstanceAs (DecidableEq Term)
 exact zbaB (T:=28) zi rfl Go.Proofs.Tryz.pdqTerm Tryz.isAgg28 (by unfold szOf; exact Tryz.sizeOf28) Tryz.call155 zl3 vNil (fun c=>zb1) zBq
open Go.Proofs Go.RowKit
def zbP (x:yC):Bool×yC:=zz7 zb1 x
def ze0:Ab.Spec ty:=zh (cx:=base) (zd (aOwn 28) (zd (ze (vFn 63 vNil)) aNil)) fun x=>((zbP x.1).1,⟨[],[some ⟨28,(zbP x.1).2⟩]⟩)
set_option maxHeartbeats 1000000 in
theorem zt6:SdP 96 ze0 where
 enters:=Tryz.call96
 calls:=fun avs r hsp w F vs hF ha hsep=>by
  unfold ze0 zh at hsp;split at hsp
  ·rename_i x hx;simp only [qa,qb] at hsp;obtain ⟨hpre,rfl⟩:=hsp;have hk:=(zd (aOwn 28) (zd (ze (vFn 63 vNil)) aNil):AL base _).kind vs avs x hx;have ha':=(zd (aOwn 28) (zd (ze (vFn 63 vNil)) aNil):AL base _).ok Tryz.prog zi F w vs avs x hx ha;rw [hk] at hsep ⊢;clear hk hx ha;obtain ⟨l0,c,u0⟩:=x;obtain ⟨l,rfl⟩:∃ l:yC,l=l0:=⟨l0,rfl⟩;obtain ⟨v,vs',rfl,hv,hv'⟩:=ha'.inv;obtain ⟨fv,vs'',rfl,hfv,h0⟩:=hv'.inv;obtain rfl:=h0.nil_left.1
   have hsl:∃ p cap,v=.slice p l.length cap:=by
    obtain ⟨⟨xs,hown,_⟩,_⟩:=(show zcR base F w v 28 l∧∀ b,zbf v=some b→¬ F b from hv)
    rcases hown.2 with ⟨h1,h2⟩ | ⟨g0,cap,cur,h1,_⟩
    ·exact ⟨none,0,by rw [h1,show l.length=0 from h2]⟩
    ·exact ⟨_,cap,h1⟩
   have hok:SortOK (α:=Term) zb1 l:=of_decide_eq_true (p:=SortOK (α:=Term) zb1 l) hpre;have hlen:l.length<4611686018427387904:=hok.size;have hbl:Lib.bitLen l.length<4611686018427387904:=Nat.lt_of_le_of_lt (Lib.bitLen_le l.length 62 (by omega) (by omega)) (by omega)
   have hpp:(zln l 0 (l.length:Int) ((Lib.bitLen l.length:Nat):Int)).1=true:=by
    show (decide (SortOK (α:=Term) zb1 l)&&(decide ((0:Int)=0)&&(decide ((l.length:Int)=l.length)&&(decide ((0:Int)≤((Lib.bitLen l.length:Nat):Int))&&decide (((Lib.bitLen l.length:Nat):Int)<4611686018427387904)))))=true;simp only [qc,qe];exact ⟨hok,trivial,trivial,by omega,by omega⟩
   have hp:=(zzx).calls [.own 28 l,.pure (.lit (.int .i64 0)),.pure (.lit (.int .i64 (l.length:Int))),.pure (.lit (.int .i64 ((Lib.bitLen l.length:Nat):Int))),.pure (.fn 63 [])] ⟨[],[some ⟨28,(zbP l).2⟩]⟩
    (by rw [← hpp]; kernel_rfl) w F [v,.int .i64 0,.int .i64 (l.length:Int),.int .i64 ((Lib.bitLen l.length:Nat):Int),fv] hF (.cons hv (.cons (Rep.lit _) (.cons (Rep.lit _) (.cons (Rep.lit _) (.cons hfv .nil))))) hsep
   replace hp:Calls Tryz.prog 155 #[v,.int .i64 0,.int .i64 (l.length:Int),.int .i64 ((Lib.bitLen l.length:Nat):Int),fv] w fun e w'=>∃ u,e=.returned u∧Post base F w [v] ⟨[],[some ⟨28,(zbP l).2⟩]⟩ u w':=hp
   show Calls Tryz.prog 96 #[v,fv] w fun e w'=>∃ u,e=.returned u∧Post base F w [v] ⟨[],[some ⟨28,(zbP l).2⟩]⟩ u w'
   have hb:Calls Tryz.prog 156 #[.int .u64 (l.length:Int)] w fun e w'=>e=.returned (.int .i64 ((Lib.bitLen l.length:Nat):Int))∧w'=w:=by
    have h:=Any.bits_Len Go.Proofs.Tryz.lays125 (l.length:Int) w (by omega) (by omega)
    rwa [Int.toNat_natCast] at h
   have wr:IntKind.u64.wrap (l.length:Int)=l.length:=by simp [IntKind.wrap,IntKind.bits,IntKind.signed]; omega
   generalize (zbP l).2=res at hp ⊢;generalize hn:l.length=m at *;generalize Lib.bitLen m=bl at *;clear hpp hv hfv hsep hok hpre hF;obtain ⟨p,cap,rfl⟩:=hsl;clear hn
   go_enter Tryz.func96,Tryz.ntmps96
   go_wp2_with (first | (go_at_call 156; refine hb.mono ?_; rintro e w' ⟨rfl,rfl⟩) | (go_at_call 155; refine hp.mono ?_; rintro e w' ⟨u,rfl,hpost⟩; obtain rfl:=hpost.unit))
   go_end0
   exact ⟨_,rfl,hpost⟩
  ·cases hsp
end Go.Proofs.YtljlfiomikifjaaGreatDoor
namespace Go.Proofs.YtljlfiomikifjaaGreatDoor
open Go Go.Ab
abbrev zkp:=Unit×Unit×yC×Int×Int×Unit
abbrev zkz:=(List (_root_.Go.Value×Int))×yC×Unit
def zke (t11:yC) (t12:Int) (t13:Int) (at_:List (_root_.Go.Value×Int)) (out_:yC):Wy zkp zkz (yC):=.i (decide (t13<t12)) (.i (decide (0≤t13)&&decide (t13<Int.ofNat t11.length)) (.bn (zrq (t11.getD t13.toNat default).Factors) fun r0=>.i (zbaJ (Value.string r0) at_) (.i (decide (0≤(zEn (Value.string r0) at_).getD 0)&&decide ((zEn (Value.string r0) at_).getD 0<Int.ofNat out_.length)) (.i (decide (0≤(zEn (Value.string r0) at_).getD 0)&&decide ((zEn (Value.string r0) at_).getD 0<Int.ofNat out_.length)) (.i (decide (Int.toNat ((zEn (Value.string r0) at_).getD 0)<out_.length)) (.h ((),(),t11,t12,(IntKind.i64.wrap (t13+1)),()) (at_,(out_.set (Int.toNat ((zEn (Value.string r0) at_).getD 0)) (TermOf.mk (if 1152921504606846976<IntKind.i64.wrap ((out_.getD (Int.toNat ((zEn (Value.string r0) at_).getD 0)) default).Coeff+(t11.getD t13.toNat default).Coeff) then 1152921504606846976 else IntKind.i64.wrap ((out_.getD (Int.toNat ((zEn (Value.string r0) at_).getD 0)) default).Coeff+(t11.getD t13.toNat default).Coeff)) (out_.getD (Int.toNat ((zEn (Value.string r0) at_).getD 0)) default).Factors)),())) .d) .d) .d) (.i (decide ((out_.length+[t11.getD t13.toNat default].length)*32≤reach)) (.h ((),(),t11,t12,(IntKind.i64.wrap (t13+1)),()) ((zbaK (Value.string r0) (Int.ofNat out_.length) at_),(out_++[t11.getD t13.toNat default]),())) .d)) .d) (.k out_)
def zvr (x:zkp) (y:zkz):Wy zkp zkz (yC):=zke x.2.2.1 x.2.2.2.1 x.2.2.2.2.1 y.1 y.2.1
def zvF (n:Nat) (t11:yC) (t12:Int) (t13:Int) (at_:List (_root_.Go.Value×Int)) (out_:yC):Bool×yC:=zI (zvr) default n ((),(),t11,t12,t13,()) (at_,out_,())
def zOW (r:yC):LTree ty:=.done (.exit 0) [.own 208] [.arr 28 r false]
def zQx:LL ty zkp:=za (lMp 208) (za (lOwn 209) (za (lSl 28) (za lI64 (za lI64 zp))))
def zQP:BL ty zkz:=bMp 9 3 false (bArr 28 false (bNil))
def zON (x:zkp) (y:zkz):Nat:=(x.2.2.1.length+Int.toNat x.2.2.2.1+Int.toNat x.2.2.2.2.1+y.1.length+y.2.1.length+1)
def zCX:Cx ty:=mkCx base0 52 [(63,annotation_compareLists_spec),(96,ze0),(139,annotation_formatFactors_spec)] [(96,[true,false])] [(4,[(3,.keep),(4,.own 28),(11,.keep),(12,.keep),(13,.keep)])] [(4,1,(kpL [4]))] [(4,spW zQx zQP (zvr) default zOW zON)] []
theorem zOm:zL zCX (lp (body Tryz.f71) 0):=zw (id:=4) (hl:=rfl)
def zDO (terms:yC):Wy0 (yC):=.bn (zvF (terms.length+(Int.ofNat terms.length).toNat +Int.toNat 0+0+0+1) terms (Int.ofNat terms.length) 0 [] []) fun r3=>.bn (zbP r3) fun r2=>.k r2
def zhX (terms:yC):Bool×yC:=(zDO terms).fin default
def zOj (r:yC):ARes ty:=⟨[.own 28 r],[]⟩
def zsy:Ab.Spec ty:=zh zXL fun x=>((zhX x.1).1,zOj (zhX x.1).2)
theorem zzs:Sound Tryz.prog base0 71 zsy:=
 sW (cx':=zCX) zq zi7 zl (zj ⟨zl3.nodr,zt6.nodr,zEq,trivial⟩) Tryz.call71 Tryz.func71 (c:=body Tryz.f71) (lOK (aC zOm aN)) (sg:=⟨[.own 28],[]⟩)
def zmm (F:yC→Bool×yC):Ab.Spec ty:=zh zVO fun x=>((F x.1).1,zOj (F x.1).2)
def zJA (r:Atom):ARes ty:=⟨[.pure (.agg (base.enc 67 r))],[]⟩
def zmf (F:Atom→Bool×Atom):Ab.Spec ty:=zh zBO fun x=>((F x.1).1,zJA (F x.1).2)
def zeD:Cx ty:={ base with nt:=8 }
def ze8 (s:yD):Bool×yD:=(decide (s.length*128≤reach),s)
def zlC:Ab.Spec ty:=zh (cx:=base) (zd (ze (vSl 69)) aNil) fun x=>((ze8 x.1).1,⟨[.own 69 (ze8 x.1).2],[]⟩)
theorem zxB:zg7 zeD Tryz.f95 (body Tryz.f95) ⟨[.own 69],[]⟩ [.pure (.lit (.slice none 0 0))]=some ⟨[.own 69 []],[]⟩:=by kernel_rfl
theorem zwp (p:Addr) (c:Nat):zg7 zeD Tryz.f95 (body Tryz.f95) ⟨[.own 69],[]⟩ [.pure (.lit (.slice (some p) 0 c))]=some ⟨[.own 69 []],[]⟩:=by kernel_rfl
theorem zwJ (l:yD):zg7 zeD Tryz.f95 (body Tryz.f95) ⟨[.own 69],[]⟩ [.pure (.sl 69 l)]=bif !l.isEmpty then bif decide ((([]:List (ty 69)).length+l.length)*128≤reach) then some ⟨[.own 69 l],[]⟩ else none else none:=by kernel_rfl
theorem zv9:SdP 95 zlC:=
 zGq (cx':=zeD) (bytes:=128) zq zi ⟨⟨rfl,rfl,rfl,rfl,rfl,rfl⟩,rfl⟩ (fun g s h=>by cases h) Tryz.call95 Tryz.func95 (c:=body Tryz.f95) (by kernel_rfl) (zAD (l:=[]) (by kernel_rfl) trivial) zxB zwp zwJ (by kernel_rfl)
abbrev zlb:=Unit×Unit×Unit×yC×Int×Int×Int×Int×Unit
abbrev zlo:=yC×Term×yD×Unit
abbrev zpt:=yC×Int×Int×yC×Term×yD
abbrev zlt:=Unit×yC×Int×Int×Unit
abbrev zlc:=yC×Unit
def zjQ (zJ:Atom→Bool×Atom) (t8:yC) (t9:Int) (t10:Int) (t18:Int) (t19:Int) (out_:yC) (t:Term) (factors:yD):Wy zlb zlo zpt:=.i (decide (t19<t18)) (.i (decide (0≤t19)&&decide (t19<Int.ofNat factors.length)) (.bn (zJ (Atom.mk (factors.getD t19.toNat default).Atom.Kind (factors.getD t19.toNat default).Atom.Row (factors.getD t19.toNat default).Atom.Args (factors.getD t19.toNat default).Atom.Func (factors.getD t19.toNat default).Atom.Items (factors.getD t19.toNat default).Atom.Op (factors.getD t19.toNat default).Atom.Bound)) fun r2=>.i (decide (0≤t19)&&decide (t19<Int.ofNat factors.length)) (.i (decide (t19.toNat<factors.length)) (.h ((),(),(),t8,t9,t10,t18,(IntKind.i64.wrap (t19+1)),()) (out_,t,(factors.set t19.toNat (FactorOf.mk (Atom.mk r2.Kind r2.Row r2.Args r2.Func r2.Items r2.Op r2.Bound) (factors.getD t19.toNat default).Exp)),())) .d) .d) .d) (.k (t8,t9,t10,out_,t,factors))
def zuF (zJ:Atom→Bool×Atom) (x:zlb) (y:zlo):Wy zlb zlo zpt:=zjQ zJ x.2.2.2.1 x.2.2.2.2.1 x.2.2.2.2.2.1 x.2.2.2.2.2.2.1 x.2.2.2.2.2.2.2.1 y.1 y.2.1 y.2.2.1
def zBC (zJ:Atom→Bool×Atom) (n:Nat) (t8:yC) (t9:Int) (t10:Int) (t18:Int) (t19:Int) (out_:yC) (t:Term) (factors:yD):Bool×zpt:=zI (zuF zJ) default n ((),(),(),t8,t9,t10,t18,t19,()) (out_,t,factors,())
def zM1 (r:zpt):LTree ty:=.done (.exit 2) [.own 168,.ptr 169 0,.own 170,.sl 28 r.1,.lit (.int .i64 r.2.1),.lit (.int .i64 r.2.2.1)] [.arr 28 r.2.2.2.1 false,.box (base.enc 28 r.2.2.2.2.1) false,.arr 69 r.2.2.2.2.2 false]
def zNS:LL ty zlb:=za (lOwn 168) (za (zfl 169 0) (za (lOwn 170) (za (lSl 28) (za lI64 (za lI64 (za lI64 (za lI64 zp)))))))
def zO5:BL ty zlo:=bArr 28 false (bBox (zg1 (fun x=>(⟨x.1,x.2.1⟩:Term)) (fun x=>(x.Coeff,x.Factors,())) (fun _=>rfl) (za (lInt .i64) (za (lSl 69) zp))) false (bArr 69 false (bNil)))
def zjG (zJ:Atom→Bool×Atom) (t8:yC) (t9:Int) (t10:Int) (out_:yC):Wy zlt zlc (yC):=.i (decide (t10<t9)) (.i (decide (0≤t10)&&decide (t10<Int.ofNat t8.length)) (.bn (ze8 (t8.getD t10.toNat default).Factors) fun r5=>.bn (zBC zJ (t8.length+t9.toNat +t10.toNat +(Int.ofNat r5.length).toNat +Int.toNat 0+out_.length+(t8.getD t10.toNat default).Factors.length+r5.length+1) t8 t9 t10 (Int.ofNat r5.length) 0 out_ (t8.getD t10.toNat default) r5) fun r4=>.i (decide ((r4.2.2.2.1.length+[TermOf.mk r4.2.2.2.2.1.Coeff r4.2.2.2.2.2].length)*32≤reach)) (.h ((),(r4.1),(r4.2.1),(IntKind.i64.wrap (r4.2.2.1+1)),()) ((r4.2.2.2.1++[TermOf.mk r4.2.2.2.2.1.Coeff r4.2.2.2.2.2]),())) .d) .d) (.k out_)
def zuB (zJ:Atom→Bool×Atom) (x:zlt) (y:zlc):Wy zlt zlc (yC):=zjG zJ x.2.1 x.2.2.1 x.2.2.2.1 y.1
def zBR (zJ:Atom→Bool×Atom) (n:Nat) (t8:yC) (t9:Int) (t10:Int) (out_:yC):Bool×yC:=zI (zuB zJ) default n ((),t8,t9,t10,()) (out_,())
def zMl (r:yC):LTree ty:=.done (.exit 0) [.own 168] [.arr 28 r false]
def zOD:LL ty zlt:=za (lOwn 168) (za (lSl 28) (za lI64 (za lI64 zp)))
def zOU:BL ty zlc:=bArr 28 false (bNil)
def zMU (x:zlb) (y:zlo):Nat:=(x.2.2.2.1.length+Int.toNat x.2.2.2.2.1+Int.toNat x.2.2.2.2.2.1+Int.toNat x.2.2.2.2.2.2.1+Int.toNat x.2.2.2.2.2.2.2.1+y.1.length+y.2.1.Factors.length+y.2.2.1.length+1)
def zML (x:zlt) (y:zlc):Nat:=(x.2.1.length+Int.toNat x.2.2.1+Int.toNat x.2.2.2.1+y.1.length+1)
def zui (zJ:Atom→Bool×Atom):Cx ty:=mkCx base 42 [(95,zlC),(151,(zmf zJ))] [] [(3,[(3,.own 28),(8,.keep),(9,.keep),(10,.keep)]),(7,(kpL [3,5,6,8,9,10,18,19]))] [(3,1,(kpL [3])),(7,3,(kpL [3,5,6,8,9,10]))] [(7,spW zNS zO5 (zuF zJ) default zM1 zMU),(3,spW zOD zOU (zuB zJ) default zMl zML)] []
theorem zMM (zJ:Atom→Bool×Atom):zL (zui zJ) (lp (body Tryz.f87) 1):=zw (id:=7) (hl:=rfl)
theorem zM0 (zJ:Atom→Bool×Atom):zL (zui zJ) (lp (body Tryz.f87) 0):=zw (id:=3) (hl:=rfl)
def zDc (zJ:Atom→Bool×Atom) (a:yC):Wy0 (yC):=.bn (zBR zJ (a.length+(Int.ofNat a.length).toNat +Int.toNat 0+0+1) a (Int.ofNat a.length) 0 []) fun r8=>.k r8
def zmw (zJ:Atom→Bool×Atom) (a:yC):Bool×yC:=(zDc zJ a).fin default
theorem zJW (zJ:Atom→Bool×Atom) (zJ2:SdP 151 (zmf zJ)):SdP 87 (zmm (zmw zJ)):=
 sW (cx':=(zui zJ)) zq zi zl (zj ⟨zv9,zJ2,trivial⟩) Tryz.call87 Tryz.func87 (c:=body Tryz.f87) (lOK (aC (zM0 zJ) (aC (zMM zJ) aN))) (sg:=⟨[.own 28],[]⟩)
def zdr:Cx ty:={ base with nt:=8 }
def zdZ (s:yA):Bool×yA:=(decide (s.length*24≤reach),s)
def zhV:Ab.Spec ty:=zh (cx:=base) (zd (ze (vSl 23)) aNil) fun x=>((zdZ x.1).1,⟨[.own 23 (zdZ x.1).2],[]⟩)
theorem zr2:zg7 zdr Tryz.f181 (body Tryz.f181) ⟨[.own 23],[]⟩ [.pure (.lit (.slice none 0 0))]=some ⟨[.own 23 []],[]⟩:=by kernel_rfl
theorem zqc (p:Addr) (c:Nat):zg7 zdr Tryz.f181 (body Tryz.f181) ⟨[.own 23],[]⟩ [.pure (.lit (.slice (some p) 0 c))]=some ⟨[.own 23 []],[]⟩:=by kernel_rfl
theorem zq6 (l:yA):zg7 zdr Tryz.f181 (body Tryz.f181) ⟨[.own 23],[]⟩ [.pure (.sl 23 l)]=bif !l.isEmpty then bif decide ((([]:List (ty 23)).length+l.length)*24≤reach) then some ⟨[.own 23 l],[]⟩ else none else none:=by kernel_rfl
theorem zqq:SdP 181 zhV:=
 zGq (cx':=zdr) (bytes:=24) zq zi ⟨⟨rfl,rfl,rfl,rfl,rfl,rfl⟩,rfl⟩ (fun g s h=>by cases h) Tryz.call181 Tryz.func181 (c:=body Tryz.f181) (by kernel_rfl) (zAD (l:=[]) (by kernel_rfl) trivial) zr2 zqc zq6 (by kernel_rfl)
def zd7:Cx ty:={ base with nt:=8 }
def zey (s:yE):Bool×yE:=(decide (s.length*56≤reach),s)
def zjN:Ab.Spec ty:=zh (cx:=base) (zd (ze (vSl 100)) aNil) fun x=>((zey x.1).1,⟨[.own 100 (zey x.1).2],[]⟩)
theorem zuO:zg7 zd7 Tryz.f182 (body Tryz.f182) ⟨[.own 100],[]⟩ [.pure (.lit (.slice none 0 0))]=some ⟨[.own 100 []],[]⟩:=by kernel_rfl
theorem ztW (p:Addr) (c:Nat):zg7 zd7 Tryz.f182 (body Tryz.f182) ⟨[.own 100],[]⟩ [.pure (.lit (.slice (some p) 0 c))]=some ⟨[.own 100 []],[]⟩:=by kernel_rfl
theorem zul (l:yE):zg7 zd7 Tryz.f182 (body Tryz.f182) ⟨[.own 100],[]⟩ [.pure (.sl 100 l)]=bif !l.isEmpty then bif decide ((([]:List (ty 100)).length+l.length)*56≤reach) then some ⟨[.own 100 l],[]⟩ else none else none:=by kernel_rfl
theorem zty:SdP 182 zjN:=
 zGq (cx':=zd7) (bytes:=56) zq zi ⟨⟨rfl,rfl,rfl,rfl,rfl,rfl⟩,rfl⟩ (fun g s h=>by cases h) Tryz.call182 Tryz.func182 (c:=body Tryz.f182) (by kernel_rfl) (zAD (l:=[]) (by kernel_rfl) trivial) zuO ztW zul (by kernel_rfl)
abbrev zcy:=Unit×Unit×Int×Int×Unit
abbrev zhB:=(Int×Int×Int×Unit×Int×yE×Int×Int×Int×ByteArray×Unit)×(Int×Int×Int×Unit×Int×Unit×Int×Int×Int×ByteArray×Unit)×yA×Unit
abbrev zlr:=Int×Int×Int×Int×yE×Int×Int×Int×ByteArray×Int×Int×Int×Int×Int×Int×Int×ByteArray×yA
abbrev zhN:=(Int×Int×Int×Unit×Int×Unit×Int×Int×Int×ByteArray×Unit)×(Int×Int×Int×Unit×Int×Unit×Int×Int×Int×ByteArray×Unit)×yA×yE×Unit
abbrev zlf:=Int×Int×Int×Int×Int×Int×Int×ByteArray×Int×Int×Int×Int×Int×Int×Int×ByteArray×yA×yE
def zgi (zV:yC→Bool×yC) (t11:Int) (t12:Int) (x_0:Int) (x_1:Int) (x_2:Int) (x_3:Int) (x_4:yE) (x_5:Int) (x_6:Int) (x_7:Int) (x_8:ByteArray) (t2_0:Int) (t2_1:Int) (t2_2:Int) (t2_3:Int) (t2_4:Int) (t2_5:Int) (t2_6:Int) (t2_7:ByteArray) (b2:yA):Wy zcy zhB zlr:=.i (decide (t12<t11)) (.i (decide (0≤t12)&&decide (t12<Int.ofNat b2.length)) (.bn (zV (b2.getD t12.toNat default)) fun r0=>.i (decide (0≤t12)&&decide (t12<Int.ofNat b2.length)) (.i (decide (t12.toNat<b2.length)) (.h ((),(),t11,(IntKind.i64.wrap (t12+1)),()) ((x_0,x_1,x_2,(),x_3,x_4,x_5,x_6,x_7,x_8,()),(t2_0,t2_1,t2_2,(),t2_3,(),t2_4,t2_5,t2_6,t2_7,()),(b2.set t12.toNat r0),())) .d) .d) .d) (.k (x_0,x_1,x_2,x_3,x_4,x_5,x_6,x_7,x_8,t2_0,t2_1,t2_2,t2_3,t2_4,t2_5,t2_6,t2_7,b2))
def zof (zV:yC→Bool×yC) (x:zcy) (y:zhB):Wy zcy zhB zlr:=zgi zV x.2.2.1 x.2.2.2.1 y.1.1 y.1.2.1 y.1.2.2.1 y.1.2.2.2.2.1 y.1.2.2.2.2.2.1 y.1.2.2.2.2.2.2.1 y.1.2.2.2.2.2.2.2.1 y.1.2.2.2.2.2.2.2.2.1 y.1.2.2.2.2.2.2.2.2.2.1 y.2.1.1 y.2.1.2.1 y.2.1.2.2.1 y.2.1.2.2.2.2.1 y.2.1.2.2.2.2.2.2.1 y.2.1.2.2.2.2.2.2.2.1 y.2.1.2.2.2.2.2.2.2.2.1 y.2.1.2.2.2.2.2.2.2.2.2.1 y.2.2.1
def zxK (zV:yC→Bool×yC) (n:Nat) (t11:Int) (t12:Int) (x_0:Int) (x_1:Int) (x_2:Int) (x_3:Int) (x_4:yE) (x_5:Int) (x_6:Int) (x_7:Int) (x_8:ByteArray) (t2_0:Int) (t2_1:Int) (t2_2:Int) (t2_3:Int) (t2_4:Int) (t2_5:Int) (t2_6:Int) (t2_7:ByteArray) (b2:yA):Bool×zlr:=zI (zof zV) default n ((),(),t11,t12,()) ((x_0,x_1,x_2,(),x_3,x_4,x_5,x_6,x_7,x_8,()),(t2_0,t2_1,t2_2,(),t2_3,(),t2_4,t2_5,t2_6,t2_7,()),b2,())
def zHl (r:zlr):LTree ty:=.done (.exit 0) [.ptr 200 0,.ptr 201 0] [.box ([.lit (.int .i64 r.1),.lit (.int .i64 r.2.1),.lit (.int .i64 r.2.2.1),.own 202,.lit (.int .i64 r.2.2.2.1),.sl 100 r.2.2.2.2.1,.lit (.int .i64 r.2.2.2.2.2.1),.lit (.int .i64 r.2.2.2.2.2.2.1),.lit (.int .i64 r.2.2.2.2.2.2.2.1),.lit (.string r.2.2.2.2.2.2.2.2.1)]) false,.box ([.lit (.int .i64 r.2.2.2.2.2.2.2.2.2.1),.lit (.int .i64 r.2.2.2.2.2.2.2.2.2.2.1),.lit (.int .i64 r.2.2.2.2.2.2.2.2.2.2.2.1),.lit (.slice none 0 0),.lit (.int .i64 r.2.2.2.2.2.2.2.2.2.2.2.2.1),.lit (.slice none 0 0),.lit (.int .i64 r.2.2.2.2.2.2.2.2.2.2.2.2.2.1),.lit (.int .i64 r.2.2.2.2.2.2.2.2.2.2.2.2.2.2.1),.lit (.int .i64 r.2.2.2.2.2.2.2.2.2.2.2.2.2.2.2.1),.lit (.string r.2.2.2.2.2.2.2.2.2.2.2.2.2.2.2.2.1)]) false,.arr 23 r.2.2.2.2.2.2.2.2.2.2.2.2.2.2.2.2.2 false]
def zH5:LL ty zcy:=za (zfl 200 0) (za (zfl 201 0) (za lI64 (za lI64 zp)))
def zIq:BL ty zhB:=bBox (za (lInt .i64) (za (lInt .i64) (za (lInt .i64) (za (lOwn 202) (za (lInt .i64) (za (lSl 100) (za (lInt .i64) (za (lInt .i64) (za (lInt .i64) (za lStr zp)))))))))) false (bBox (za (lInt .i64) (za (lInt .i64) (za (lInt .i64) (za lNil (za (lInt .i64) (za lNil (za (lInt .i64) (za (lInt .i64) (za (lInt .i64) (za lStr zp)))))))))) false (bArr 23 false (bNil)))
def zge (zV:yC→Bool×yC) (t32:Int) (t33:Int) (x_0:Int) (x_1:Int) (x_2:Int) (x_3:Int) (x_4:Int) (x_5:Int) (x_6:Int) (x_7:ByteArray) (t2_0:Int) (t2_1:Int) (t2_2:Int) (t2_3:Int) (t2_4:Int) (t2_5:Int) (t2_6:Int) (t2_7:ByteArray) (b2:yA) (b3:yE):Wy zcy zhN zlf:=.i (decide (t33<t32)) (.i (decide (0≤t33)&&decide (t33<Int.ofNat b3.length)) (.bn (zV (b3.getD t33.toNat default).Ann) fun r2=>.i (decide (0≤t33)&&decide (t33<Int.ofNat b3.length)) (.i (decide (t33.toNat<b3.length)) (.h ((),(),t32,(IntKind.i64.wrap (t33+1)),()) ((x_0,x_1,x_2,(),x_3,(),x_4,x_5,x_6,x_7,()),(t2_0,t2_1,t2_2,(),t2_3,(),t2_4,t2_5,t2_6,t2_7,()),b2,(b3.set t33.toNat (WeightedOf.mk (b3.getD t33.toNat default).Value r2)),())) .d) .d) .d) (.k (x_0,x_1,x_2,x_3,x_4,x_5,x_6,x_7,t2_0,t2_1,t2_2,t2_3,t2_4,t2_5,t2_6,t2_7,b2,b3))
def zoy (zV:yC→Bool×yC) (x:zcy) (y:zhN):Wy zcy zhN zlf:=zge zV x.2.2.1 x.2.2.2.1 y.1.1 y.1.2.1 y.1.2.2.1 y.1.2.2.2.2.1 y.1.2.2.2.2.2.2.1 y.1.2.2.2.2.2.2.2.1 y.1.2.2.2.2.2.2.2.2.1 y.1.2.2.2.2.2.2.2.2.2.1 y.2.1.1 y.2.1.2.1 y.2.1.2.2.1 y.2.1.2.2.2.2.1 y.2.1.2.2.2.2.2.2.1 y.2.1.2.2.2.2.2.2.2.1 y.2.1.2.2.2.2.2.2.2.2.1 y.2.1.2.2.2.2.2.2.2.2.2.1 y.2.2.1 y.2.2.2.1
def zxG (zV:yC→Bool×yC) (n:Nat) (t32:Int) (t33:Int) (x_0:Int) (x_1:Int) (x_2:Int) (x_3:Int) (x_4:Int) (x_5:Int) (x_6:Int) (x_7:ByteArray) (t2_0:Int) (t2_1:Int) (t2_2:Int) (t2_3:Int) (t2_4:Int) (t2_5:Int) (t2_6:Int) (t2_7:ByteArray) (b2:yA) (b3:yE):Bool×zlf:=zI (zoy zV) default n ((),(),t32,t33,()) ((x_0,x_1,x_2,(),x_3,(),x_4,x_5,x_6,x_7,()),(t2_0,t2_1,t2_2,(),t2_3,(),t2_4,t2_5,t2_6,t2_7,()),b2,b3,())
def zGL (r:zlf):LTree ty:=.done (.exit 2) [.ptr 200 0,.ptr 201 0] [.box ([.lit (.int .i64 r.1),.lit (.int .i64 r.2.1),.lit (.int .i64 r.2.2.1),.own 202,.lit (.int .i64 r.2.2.2.1),.own 203,.lit (.int .i64 r.2.2.2.2.1),.lit (.int .i64 r.2.2.2.2.2.1),.lit (.int .i64 r.2.2.2.2.2.2.1),.lit (.string r.2.2.2.2.2.2.2.1)]) false,.box ([.lit (.int .i64 r.2.2.2.2.2.2.2.2.1),.lit (.int .i64 r.2.2.2.2.2.2.2.2.2.1),.lit (.int .i64 r.2.2.2.2.2.2.2.2.2.2.1),.lit (.slice none 0 0),.lit (.int .i64 r.2.2.2.2.2.2.2.2.2.2.2.1),.lit (.slice none 0 0),.lit (.int .i64 r.2.2.2.2.2.2.2.2.2.2.2.2.1),.lit (.int .i64 r.2.2.2.2.2.2.2.2.2.2.2.2.2.1),.lit (.int .i64 r.2.2.2.2.2.2.2.2.2.2.2.2.2.2.1),.lit (.string r.2.2.2.2.2.2.2.2.2.2.2.2.2.2.2.1)]) false,.arr 23 r.2.2.2.2.2.2.2.2.2.2.2.2.2.2.2.2.1 false,.arr 100 r.2.2.2.2.2.2.2.2.2.2.2.2.2.2.2.2.2 false]
def zIr:BL ty zhN:=bBox (za (lInt .i64) (za (lInt .i64) (za (lInt .i64) (za (lOwn 202) (za (lInt .i64) (za (lOwn 203) (za (lInt .i64) (za (lInt .i64) (za (lInt .i64) (za lStr zp)))))))))) false (bBox (za (lInt .i64) (za (lInt .i64) (za (lInt .i64) (za lNil (za (lInt .i64) (za lNil (za (lInt .i64) (za (lInt .i64) (za (lInt .i64) (za lStr zp)))))))))) false (bArr 23 false (bArr 100 false (bNil))))
def zHj (x:zcy) (y:zhB):Nat:=(Int.toNat x.2.2.1+Int.toNat x.2.2.2.1+Int.toNat y.1.1+Int.toNat y.1.2.1+Int.toNat y.1.2.2.1+Int.toNat y.1.2.2.2.2.1+y.1.2.2.2.2.2.1.length+Int.toNat y.1.2.2.2.2.2.2.1+Int.toNat y.1.2.2.2.2.2.2.2.1+Int.toNat y.1.2.2.2.2.2.2.2.2.1+y.1.2.2.2.2.2.2.2.2.2.1.size+Int.toNat y.2.1.1+Int.toNat y.2.1.2.1+Int.toNat y.2.1.2.2.1+Int.toNat y.2.1.2.2.2.2.1+Int.toNat y.2.1.2.2.2.2.2.2.1+Int.toNat y.2.1.2.2.2.2.2.2.2.1+Int.toNat y.2.1.2.2.2.2.2.2.2.2.1+y.2.1.2.2.2.2.2.2.2.2.2.1.size+y.2.2.1.length+1)
def zGR (x:zcy) (y:zhN):Nat:=(Int.toNat x.2.2.1+Int.toNat x.2.2.2.1+Int.toNat y.1.1+Int.toNat y.1.2.1+Int.toNat y.1.2.2.1+Int.toNat y.1.2.2.2.2.1+Int.toNat y.1.2.2.2.2.2.2.1+Int.toNat y.1.2.2.2.2.2.2.2.1+Int.toNat y.1.2.2.2.2.2.2.2.2.1+y.1.2.2.2.2.2.2.2.2.2.1.size+Int.toNat y.2.1.1+Int.toNat y.2.1.2.1+Int.toNat y.2.1.2.2.1+Int.toNat y.2.1.2.2.2.2.1+Int.toNat y.2.1.2.2.2.2.2.2.1+Int.toNat y.2.1.2.2.2.2.2.2.2.1+Int.toNat y.2.1.2.2.2.2.2.2.2.2.1+y.2.1.2.2.2.2.2.2.2.2.2.1.size+y.2.2.1.length+y.2.2.2.1.length+1)
def zok (zV:yC→Bool×yC):Cx ty:=mkCx base 50 [(87,(zmm zV)),(181,zhV),(182,zjN)] [] [(3,(kpL [1,2,11,12])),(9,(kpL [1,2,32,33]))] [(3,1,(kpL [1,2])),(9,3,(kpL [1,2]))] [(3,spW zH5 zIq (zof zV) default zHl zHj),(9,spW zH5 zIr (zoy zV) default zGL zGR)] []
theorem zHE (zV:yC→Bool×yC):zL (zok zV) (lp (body Tryz.f151) 0):=zw (id:=3) (hl:=rfl)
theorem zGV (zV:yC→Bool×yC):zL (zok zV) (lp (body Tryz.f151) 1):=zw (id:=9) (hl:=rfl)
def zyX (zV:yC→Bool×yC) (x_:Atom):Wy0 (Atom):=.bn (zdZ x_.Args) fun r7=>.bn (zxK zV ((Int.ofNat r7.length).toNat +Int.toNat 0+x_.Kind.toNat +x_.Row.Table.toNat +x_.Row.Seq.toNat +x_.Func.toNat +x_.Items.length+x_.Op.toNat +x_.Bound.Kind.toNat +x_.Bound.Int.toNat +x_.Bound.Text.size+Int.toNat 0+Int.toNat 0+Int.toNat 0+Int.toNat 0+Int.toNat 0+Int.toNat 0+Int.toNat 0+(ByteArray.mk #[]).size+r7.length+1) (Int.ofNat r7.length) 0 x_.Kind x_.Row.Table x_.Row.Seq x_.Func x_.Items x_.Op x_.Bound.Kind x_.Bound.Int x_.Bound.Text 0 0 0 0 0 0 0 (ByteArray.mk #[]) r7) fun r6=>.bn (zey r6.2.2.2.2.1) fun r5=>.bn (zxG zV ((Int.ofNat r5.length).toNat +Int.toNat 0+r6.1.toNat +r6.2.1.toNat +r6.2.2.1.toNat +r6.2.2.2.1.toNat +r6.2.2.2.2.2.1.toNat +r6.2.2.2.2.2.2.1.toNat +r6.2.2.2.2.2.2.2.1.toNat +r6.2.2.2.2.2.2.2.2.1.size+r6.2.2.2.2.2.2.2.2.2.1.toNat +r6.2.2.2.2.2.2.2.2.2.2.1.toNat +r6.2.2.2.2.2.2.2.2.2.2.2.1.toNat +r6.2.2.2.2.2.2.2.2.2.2.2.2.1.toNat +r6.2.2.2.2.2.2.2.2.2.2.2.2.2.1.toNat +r6.2.2.2.2.2.2.2.2.2.2.2.2.2.2.1.toNat +r6.2.2.2.2.2.2.2.2.2.2.2.2.2.2.2.1.toNat +r6.2.2.2.2.2.2.2.2.2.2.2.2.2.2.2.2.1.size+r6.2.2.2.2.2.2.2.2.2.2.2.2.2.2.2.2.2.length+r5.length+1) (Int.ofNat r5.length) 0 r6.1 r6.2.1 r6.2.2.1 r6.2.2.2.1 r6.2.2.2.2.2.1 r6.2.2.2.2.2.2.1 r6.2.2.2.2.2.2.2.1 r6.2.2.2.2.2.2.2.2.1 r6.2.2.2.2.2.2.2.2.2.1 r6.2.2.2.2.2.2.2.2.2.2.1 r6.2.2.2.2.2.2.2.2.2.2.2.1 r6.2.2.2.2.2.2.2.2.2.2.2.2.1 r6.2.2.2.2.2.2.2.2.2.2.2.2.2.1 r6.2.2.2.2.2.2.2.2.2.2.2.2.2.2.1 r6.2.2.2.2.2.2.2.2.2.2.2.2.2.2.2.1 r6.2.2.2.2.2.2.2.2.2.2.2.2.2.2.2.2.1 r6.2.2.2.2.2.2.2.2.2.2.2.2.2.2.2.2.2 r5) fun r4=>.k (⟨r4.1,(⟨r4.2.1,r4.2.2.1⟩:RowID),r4.2.2.2.2.2.2.2.2.2.2.2.2.2.2.2.2.1,r4.2.2.2.1,r4.2.2.2.2.2.2.2.2.2.2.2.2.2.2.2.2.2,r4.2.2.2.2.1,(⟨r4.2.2.2.2.2.1,r4.2.2.2.2.2.2.1,r4.2.2.2.2.2.2.2.1⟩:Value)⟩:Atom)
def ziJ (zV:yC→Bool×yC) (x_:Atom):Bool×Atom:=(zyX zV x_).fin default
theorem zEJ (zV:yC→Bool×yC) (zPh:SdP 87 (zmm zV)):SdP 151 (zmf (ziJ zV)):=
 sW (cx':=(zok zV)) zq zi zl (zj ⟨zPh,zqq,zty,trivial⟩) Tryz.call151 Tryz.func151 (c:=body Tryz.f151) (lOK (aC (zHE zV) (aC (zGV zV) aN)))
def zJq:Nat→(yC→Bool×yC)×(Atom→Bool×Atom)
 | 0=>(fun _=>(false,default),fun _=>(false,default))
 | n+1=>(zmw ((zJq n).2),ziJ ((zJq n).1))
def zmD (n:Nat):yC→Bool×yC:=(zJq n).1
def zmh (n:Nat):Atom→Bool×Atom:=(zJq n).2
theorem zOI (n:Nat):zmD (n+1)=zmw (zmh n):=rfl
theorem zHS (n:Nat):zmh (n+1)=ziJ (zmD n):=rfl
theorem zUZ:∀ n,SdP 87 (zmm (zmD n))∧SdP 151 (zmf (zmh n))
 | 0=>⟨z6 Tryz.call87 (fun _=>rfl),z6 Tryz.call151 (fun _=>rfl)⟩
 | n+1=>by
  have ih:=zUZ n;exact ⟨zJW _ (ih.2),zEJ _ (ih.1)⟩
def zgE:yC→Bool×yC:=zmD 1000
def annotation_copied_spec:Ab.Spec ty:=zmm zgE
theorem ziH:SdP 87 annotation_copied_spec:=(zUZ 1000).1
def zPY:Cx ty:=mkCx base 9 [(62,zua),(87,annotation_copied_spec)] [] [] [] [] []
def zEx (a:yC):Wy0 (yC×Int):=.bn (zlN a) fun r1=>.i (!r1) (.k ([],6)) (.bn (zgE a) fun r0=>.k (r0,0))
def zer (a:yC):Bool×(yC×Int):=(zEx a).fin default
def zeM:Ab.Spec ty:=zh zVO fun x=>((zer x.1).1,zOH (zer x.1).2)
theorem zfE:SdP 70 zeM:=
 sW (cx':=zPY) zq zi zl (zj ⟨zA4,ziH,trivial⟩) Tryz.call70 Tryz.func70 (c:=body Tryz.f70) (lOK aN) (sg:=⟨[.own 28,.pure],[]⟩)
def zyD:Cx ty:=mkCx base 27 [] [] [] [] [] []
def zmU (n_:Int):Wy0 (yC):=.i (decide (n_<0)) .d (.i (decide (IntKind.i64.wrap (n_ - IntKind.i64.wrap (0 - 0))>0)) (.i (decide (0<IntKind.i64.wrap (n_ - IntKind.i64.wrap (0 - 0)))&&(decide (IntKind.i64.wrap (n_ - IntKind.i64.wrap (0 - 0))*Int.ofNat 32≤Int.ofNat reach)&&(decide (IntKind.i64.wrap (n_ - IntKind.i64.wrap (0 - 0))≤Int.ofNat reach)&& !Nat.beq 2 0))) (.k (List.take (Int.toNat 0 - Int.toNat 0) (List.replicate (IntKind.i64.wrap (n_ - IntKind.i64.wrap (0 - 0))).toNat (TermOf.mk 0 [])))) .d) (.k []))
def zd8 (n_:Int):Bool×yC:=(zmU n_).fin default
def zzn:AL base (Unit×Int×Unit):=zd (ze zbdP) (zd (ze vI64) aNil)
def zlL:Ab.Spec ty:=zh zzn fun x=>((zd8 x.2.1).1,zOj (zd8 x.2.1).2)
theorem zwm:SdP 140 zlL:=
 sW (cx':=zyD) zq zi zl (zj trivial) Tryz.call140 Tryz.func140 (c:=body Tryz.f140) (lOK aN) (sg:=⟨[.own 28],[]⟩)
abbrev zdV:=yA×Int×yA×Int×Int×Unit
abbrev zeP:=yA×Int
abbrev zdU:=Unit×yA×Int×Int×Unit
abbrev zdW:=yC×Unit
def zc8 (slices:yA) (size:Int) (t9:yA) (t10:Int) (t11:Int):Wy zdV (Unit) zeP:=.i (decide (t11<t10)) (.i (decide (0≤t11)&&decide (t11<Int.ofNat t9.length)) (.i (decide (IntKind.i64.wrap (size+Int.ofNat (List.length (t9.getD t11.toNat default)))<0)) .d (.h (slices,(IntKind.i64.wrap (size+Int.ofNat (List.length (t9.getD t11.toNat default)))),t9,t10,(IntKind.i64.wrap (t11+1)),()) ())) .d) (.k (slices,size))
def zf8 (x:zdV) (y:Unit):Wy zdV (Unit) zeP:=zc8 x.1 x.2.1 x.2.2.1 x.2.2.2.1 x.2.2.2.2.1
def zk8 (n:Nat) (slices:yA) (size:Int) (t9:yA) (t10:Int) (t11:Int):Bool×zeP:=zI (zf8) default n (slices,size,t9,t10,t11,()) ()
def zwb (r:zeP):LTree ty:=.done (.exit 0) [.sl 23 r.1,.lit (.int .i64 r.2)] []
def zwZ:LL ty zdV:=za (lSl 23) (za lI64 (za (lSl 23) (za lI64 (za lI64 zp))))
def zcZ (t25:yA) (t26:Int) (t27:Int) (newslice:yC):Wy zdU zdW (yC):=.i (decide (t27<t26)) (.i (decide (0≤t27)&&decide (t27<Int.ofNat t25.length)) (.i (decide ((newslice.length+List.length (t25.getD t27.toNat default))*32≤reach)) (.h ((),t25,t26,(IntKind.i64.wrap (t27+1)),()) ((newslice++t25.getD t27.toNat default),())) .d) .d) (.k newslice)
def zfP (x:zdU) (y:zdW):Wy zdU zdW (yC):=zcZ x.2.1 x.2.2.1 x.2.2.2.1 y.1
def zkZ (n:Nat) (t25:yA) (t26:Int) (t27:Int) (newslice:yC):Bool×yC:=zI (zfP) default n ((),t25,t26,t27,()) (newslice,())
def zu3 (r:yC):LTree ty:=.done (.exit 2) [.own 144] [.arr 28 r false]
def zwg:LL ty zdU:=za (lOwn 144) (za (lSl 23) (za lI64 (za lI64 zp)))
def zwk:BL ty zdW:=bArr 28 false (bNil)
def zwe (x:zdV) (y:Unit):Nat:=(x.1.length+Int.toNat x.2.1+x.2.2.1.length+Int.toNat x.2.2.2.1+Int.toNat x.2.2.2.2.1+1)
def zvH (x:zdU) (y:zdW):Nat:=(x.2.1.length+Int.toNat x.2.2.1+Int.toNat x.2.2.2.1+y.1.length+1)
def zga:Cx ty:=mkCx base 36 [(140,zlL)] [] [(3,(kpL [0,3,9,10,11])),(11,(kpL [6,25,26,27]))] [(3,1,(kpL [0,3])),(11,3,(kpL [6]))] [(3,spW zwZ z5G (zf8) default zwb zwe),(11,spW zwg zwk (zfP) default zu3 zvH)] [140]
theorem zwh:zL zga (lp (body Tryz.f72) 0):=zw (id:=3) (hl:=rfl)
theorem zvD:zL zga (lp (body Tryz.f72) 1):=zw (id:=11) (hl:=rfl)
def zlT (slices:yA):Wy0 (yC):=.bn (zk8 (slices.length+Int.toNat 0+slices.length+(Int.ofNat slices.length).toNat +Int.toNat 0+1) slices 0 slices (Int.ofNat slices.length) 0) fun r2=>.bn (zd8 r2.2) fun r1=>.bn (zkZ (r2.1.length+(Int.ofNat r2.1.length).toNat +Int.toNat 0+r1.length+1) r2.1 (Int.ofNat r2.1.length) 0 r1) fun r0=>.k r0
def zdL (slices:yA):Bool×yC:=(zlT slices).fin default
def zxI:AL base (yA×Unit):=zd (ze (vSl 23)) aNil
def zkc:Ab.Spec ty:=zh zxI fun x=>((zdL x.1).1,zOj (zdL x.1).2)
theorem zuQ:SdP 72 zkc:=
 sW (cx':=zga) zq zi zl (zj ⟨zwm,trivial⟩) Tryz.call72 Tryz.func72 (c:=body Tryz.f72) (lOK (aC zwh (aC zvD aN))) (sg:=⟨[.own 28],[]⟩)
def zX1:Cx ty:=mkCx base0 22 [(20,annotation_Valid_spec),(70,zeM),(71,zsy),(72,zkc)] [] [] [] [] []
def zKv (a:yC) (b:yC):Wy0 (yC×Int):=.bn (zb2 a) fun r4=>.i (!r4) (.k ([],1)) (.bn (zb2 b) fun r3=>.i (!r3) (.k ([],1)) (.bn (zdL [a,b]) fun r2=>.bn (zhX r2) fun r1=>.bn (zer r1) fun r0=>.k (r0.1,r0.2)))
def zu2 (a:yC) (b:yC):Bool×(yC×Int):=(zKv a b).fin default
def z0J:AL base0 (yC×yC×Unit):=zd (ze (vSl 28)) (zd (ze (vSl 28)) aNil)
def zE6:Ab.Spec ty:=zh z0J fun x=>((zu2 x.1 x.2.1).1,zOH (zu2 x.1 x.2.1).2)
theorem zSq:Sound Tryz.prog base0 23 zE6:=
 sW (cx':=zX1) zq zi7 zl (zj ⟨zcb.nodr,zfE.nodr,zzs,zuQ.nodr,trivial⟩) Tryz.call23 Tryz.func23 (c:=body Tryz.f23) (lOK aN) (sg:=⟨[.own 28,.pure],[]⟩)
def zUh:Cx ty:=mkCx base 9 [] [] [] [] [] []
def zGv (n_:Int):Wy0 (yC):=.i (decide (n_<1)) (.k []) (.k [TermOf.mk (if 1152921504606846976<n_ then 1152921504606846976 else n_) []])
def zqK (n_:Int):Bool×yC:=(zGv n_).fin default
def zCR:Ab.Spec ty:=zh zX7 fun x=>((zqK x.1).1,zOj (zqK x.1).2)
theorem zOi:SdP 149 zCR:=
 sW (cx':=zUh) zq zi zl (zj trivial) Tryz.call149 Tryz.func149 (c:=body Tryz.f149) (lOK aN) (sg:=⟨[.own 28],[]⟩)
def zzj:Cx ty:=mkCx base 27 [] [] [] [] [] []
def zng (n_:Int):Wy0 (yD):=.i (decide (n_<0)) .d (.i (decide (IntKind.i64.wrap (n_ - IntKind.i64.wrap (0 - 0))>0)) (.i (decide (0<IntKind.i64.wrap (n_ - IntKind.i64.wrap (0 - 0)))&&(decide (IntKind.i64.wrap (n_ - IntKind.i64.wrap (0 - 0))*Int.ofNat 128≤Int.ofNat reach)&&(decide (IntKind.i64.wrap (n_ - IntKind.i64.wrap (0 - 0))≤Int.ofNat reach)&& !Nat.beq 11 0))) (.k (List.take (Int.toNat 0 - Int.toNat 0) (List.replicate (IntKind.i64.wrap (n_ - IntKind.i64.wrap (0 - 0))).toNat (FactorOf.mk (Atom.mk 0 (RowID.mk 0 0) [] 0 [] 0 (Value.mk 0 0 (ByteArray.mk #[]))) 0)))) .d) (.k []))
def zei (n_:Int):Bool×yD:=(zng n_).fin default
def zyL (r:yD):ARes ty:=⟨[.own 69 r],[]⟩
def zlU:Ab.Spec ty:=zh zzn fun x=>((zei x.2.1).1,zyL (zei x.2.1).2)
theorem zxc:SdP 220 zlU:=
 sW (cx':=zzj) zq zi zl (zj trivial) Tryz.call220 Tryz.func220 (c:=body Tryz.f220) (lOK aN) (sg:=⟨[.own 69],[]⟩)
abbrev zea:=List (yD)×Int×List (yD)×Int×Int×Unit
abbrev ze7:=List (yD)×Int
abbrev zeb:=Unit×List (yD)×Int×Int×Unit
abbrev zec:=yD×Unit
def zdl (slices:List (yD)) (size:Int) (t9:List (yD)) (t10:Int) (t11:Int):Wy zea (Unit) ze7:=.i (decide (t11<t10)) (.i (decide (0≤t11)&&decide (t11<Int.ofNat t9.length)) (.i (decide (IntKind.i64.wrap (size+Int.ofNat (List.length (t9.getD t11.toNat default)))<0)) .d (.h (slices,(IntKind.i64.wrap (size+Int.ofNat (List.length (t9.getD t11.toNat default)))),t9,t10,(IntKind.i64.wrap (t11+1)),()) ())) .d) (.k (slices,size))
def zgf (x:zea) (y:Unit):Wy zea (Unit) ze7:=zdl x.1 x.2.1 x.2.2.1 x.2.2.2.1 x.2.2.2.2.1
def zlS (n:Nat) (slices:List (yD)) (size:Int) (t9:List (yD)) (t10:Int) (t11:Int):Bool×ze7:=zI (zgf) default n (slices,size,t9,t10,t11,()) ()
def zxp (r:ze7):LTree ty:=.done (.exit 0) [.sl 26 r.1,.lit (.int .i64 r.2)] []
def zxH:LL ty zea:=za (lSl 26) (za lI64 (za (lSl 26) (za lI64 (za lI64 zp))))
def zdc (t25:List (yD)) (t26:Int) (t27:Int) (newslice:yD):Wy zeb zec (yD):=.i (decide (t27<t26)) (.i (decide (0≤t27)&&decide (t27<Int.ofNat t25.length)) (.i (decide ((newslice.length+List.length (t25.getD t27.toNat default))*128≤reach)) (.h ((),t25,t26,(IntKind.i64.wrap (t27+1)),()) ((newslice++t25.getD t27.toNat default),())) .d) .d) (.k newslice)
def zf7 (x:zeb) (y:zec):Wy zeb zec (yD):=zdc x.2.1 x.2.2.1 x.2.2.2.1 y.1
def zk7 (n:Nat) (t25:List (yD)) (t26:Int) (t27:Int) (newslice:yD):Bool×yD:=zI (zf7) default n ((),t25,t26,t27,()) (newslice,())
def zwl (r:yD):LTree ty:=.done (.exit 2) [.own 144] [.arr 69 r false]
def zwO:LL ty zeb:=za (lOwn 144) (za (lSl 26) (za lI64 (za lI64 zp)))
def zxs:BL ty zec:=bArr 69 false (bNil)
def zxu (x:zea) (y:Unit):Nat:=(x.1.length+Int.toNat x.2.1+x.2.2.1.length+Int.toNat x.2.2.2.1+Int.toNat x.2.2.2.2.1+1)
def zwn (x:zeb) (y:zec):Nat:=(x.2.1.length+Int.toNat x.2.2.1+Int.toNat x.2.2.2.1+y.1.length+1)
def zgm:Cx ty:=mkCx base 36 [(220,zlU)] [] [(3,(kpL [0,3,9,10,11])),(11,(kpL [6,25,26,27]))] [(3,1,(kpL [0,3])),(11,3,(kpL [6]))] [(3,spW zxH z5G (zgf) default zxp zxu),(11,spW zwO zxs (zf7) default zwl zwn)] [220]
theorem zxv:zL zgm (lp (body Tryz.f183) 0):=zw (id:=3) (hl:=rfl)
theorem zwd:zL zgm (lp (body Tryz.f183) 1):=zw (id:=11) (hl:=rfl)
def zmE (slices:List (yD)):Wy0 (yD):=.bn (zlS (slices.length+Int.toNat 0+slices.length+(Int.ofNat slices.length).toNat +Int.toNat 0+1) slices 0 slices (Int.ofNat slices.length) 0) fun r2=>.bn (zei r2.2) fun r1=>.bn (zk7 (r2.1.length+(Int.ofNat r2.1.length).toNat +Int.toNat 0+r1.length+1) r2.1 (Int.ofNat r2.1.length) 0 r1) fun r0=>.k r0
def zdY (slices:List (yD)):Bool×yD:=(zmE slices).fin default
def zyC:AL base (List (yD)×Unit):=zd (ze (vSl 26)) aNil
def zk1:Ab.Spec ty:=zh zyC fun x=>((zdY x.1).1,zyL (zdY x.1).2)
theorem zvM:SdP 183 zk1:=
 sW (cx':=zgm) zq zi zl (zj ⟨zxc,trivial⟩) Tryz.call183 Tryz.func183 (c:=body Tryz.f183) (lOK (aC zxv (aC zwd aN))) (sg:=⟨[.own 69],[]⟩)
abbrev znx:=yD×yD×Unit×Unit
abbrev znE:=yD×Unit
abbrev ztO:=yD×yD×yD
def zAm (a:yD) (b:yD) (out_:yD):Wy znx znE ztO:=.i (decide (Int.ofNat a.length>0)) (.i (decide (Int.ofNat b.length>0)) (.i (decide ((0:Int)≤(0:Int))&&decide (0<Int.ofNat a.length)) (.i (decide ((0:Int)≤(0:Int))&&decide (0<Int.ofNat b.length)) (.bn (ziT (Atom.mk (a.getD (Int.toNat 0) default).Atom.Kind (a.getD (Int.toNat 0) default).Atom.Row (a.getD (Int.toNat 0) default).Atom.Args (a.getD (Int.toNat 0) default).Atom.Func (a.getD (Int.toNat 0) default).Atom.Items (a.getD (Int.toNat 0) default).Atom.Op (a.getD (Int.toNat 0) default).Atom.Bound) (Atom.mk (b.getD (Int.toNat 0) default).Atom.Kind (b.getD (Int.toNat 0) default).Atom.Row (b.getD (Int.toNat 0) default).Atom.Args (b.getD (Int.toNat 0) default).Atom.Func (b.getD (Int.toNat 0) default).Atom.Items (b.getD (Int.toNat 0) default).Atom.Op (b.getD (Int.toNat 0) default).Atom.Bound)) fun r1=>.i (decide (r1<0)) (.i (decide ((0:Int)≤(0:Int))&&decide (0<Int.ofNat a.length)) (.i (decide ((out_.length+[FactorOf.mk (Atom.mk (a.getD (Int.toNat 0) default).Atom.Kind (a.getD (Int.toNat 0) default).Atom.Row (a.getD (Int.toNat 0) default).Atom.Args (a.getD (Int.toNat 0) default).Atom.Func (a.getD (Int.toNat 0) default).Atom.Items (a.getD (Int.toNat 0) default).Atom.Op (a.getD (Int.toNat 0) default).Atom.Bound) (a.getD (Int.toNat 0) default).Exp].length)*128≤reach)) (.i (decide ((0:Int)≤(1:Int))&&decide (1≤Int.ofNat a.length)&&decide (Int.ofNat a.length≤Int.ofNat a.length)) (.h ((List.take ((Int.ofNat a.length).toNat - Int.toNat 1) (List.drop (Int.toNat 1) a)),b,(),()) ((out_++[FactorOf.mk (Atom.mk (a.getD (Int.toNat 0) default).Atom.Kind (a.getD (Int.toNat 0) default).Atom.Row (a.getD (Int.toNat 0) default).Atom.Args (a.getD (Int.toNat 0) default).Atom.Func (a.getD (Int.toNat 0) default).Atom.Items (a.getD (Int.toNat 0) default).Atom.Op (a.getD (Int.toNat 0) default).Atom.Bound) (a.getD (Int.toNat 0) default).Exp]),())) .d) .d) .d) (.i (decide (r1>0)) (.i (decide ((0:Int)≤(0:Int))&&decide (0<Int.ofNat b.length)) (.i (decide ((out_.length+[FactorOf.mk (Atom.mk (b.getD (Int.toNat 0) default).Atom.Kind (b.getD (Int.toNat 0) default).Atom.Row (b.getD (Int.toNat 0) default).Atom.Args (b.getD (Int.toNat 0) default).Atom.Func (b.getD (Int.toNat 0) default).Atom.Items (b.getD (Int.toNat 0) default).Atom.Op (b.getD (Int.toNat 0) default).Atom.Bound) (b.getD (Int.toNat 0) default).Exp].length)*128≤reach)) (.i (decide ((0:Int)≤(1:Int))&&decide (1≤Int.ofNat b.length)&&decide (Int.ofNat b.length≤Int.ofNat b.length)) (.h (a,(List.take ((Int.ofNat b.length).toNat - Int.toNat 1) (List.drop (Int.toNat 1) b)),(),()) ((out_++[FactorOf.mk (Atom.mk (b.getD (Int.toNat 0) default).Atom.Kind (b.getD (Int.toNat 0) default).Atom.Row (b.getD (Int.toNat 0) default).Atom.Args (b.getD (Int.toNat 0) default).Atom.Func (b.getD (Int.toNat 0) default).Atom.Items (b.getD (Int.toNat 0) default).Atom.Op (b.getD (Int.toNat 0) default).Atom.Bound) (b.getD (Int.toNat 0) default).Exp]),())) .d) .d) .d) (.i (decide ((0:Int)≤(0:Int))&&decide (0<Int.ofNat a.length)) (.bn (zfC (Atom.mk (a.getD (Int.toNat 0) default).Atom.Kind (a.getD (Int.toNat 0) default).Atom.Row (a.getD (Int.toNat 0) default).Atom.Args (a.getD (Int.toNat 0) default).Atom.Func (a.getD (Int.toNat 0) default).Atom.Items (a.getD (Int.toNat 0) default).Atom.Op (a.getD (Int.toNat 0) default).Atom.Bound)) fun r0=>.i (!r0) (.i (decide ((0:Int)≤(0:Int))&&decide (0<Int.ofNat b.length)) (.i (decide ((out_.length+[FactorOf.mk (Atom.mk (a.getD (Int.toNat 0) default).Atom.Kind (a.getD (Int.toNat 0) default).Atom.Row (a.getD (Int.toNat 0) default).Atom.Args (a.getD (Int.toNat 0) default).Atom.Func (a.getD (Int.toNat 0) default).Atom.Items (a.getD (Int.toNat 0) default).Atom.Op (a.getD (Int.toNat 0) default).Atom.Bound) (IntKind.i64.wrap ((a.getD (Int.toNat 0) default).Exp+(b.getD (Int.toNat 0) default).Exp))].length)*128≤reach)) (.i (decide ((0:Int)≤(1:Int))&&decide (1≤Int.ofNat a.length)&&decide (Int.ofNat a.length≤Int.ofNat a.length)) (.i (decide ((0:Int)≤(1:Int))&&decide (1≤Int.ofNat b.length)&&decide (Int.ofNat b.length≤Int.ofNat b.length)) (.h ((List.take ((Int.ofNat a.length).toNat - Int.toNat 1) (List.drop (Int.toNat 1) a)),(List.take ((Int.ofNat b.length).toNat - Int.toNat 1) (List.drop (Int.toNat 1) b)),(),()) ((out_++[FactorOf.mk (Atom.mk (a.getD (Int.toNat 0) default).Atom.Kind (a.getD (Int.toNat 0) default).Atom.Row (a.getD (Int.toNat 0) default).Atom.Args (a.getD (Int.toNat 0) default).Atom.Func (a.getD (Int.toNat 0) default).Atom.Items (a.getD (Int.toNat 0) default).Atom.Op (a.getD (Int.toNat 0) default).Atom.Bound) (IntKind.i64.wrap ((a.getD (Int.toNat 0) default).Exp+(b.getD (Int.toNat 0) default).Exp))]),())) .d) .d) .d) .d) (.i (decide ((out_.length+[FactorOf.mk (Atom.mk (a.getD (Int.toNat 0) default).Atom.Kind (a.getD (Int.toNat 0) default).Atom.Row (a.getD (Int.toNat 0) default).Atom.Args (a.getD (Int.toNat 0) default).Atom.Func (a.getD (Int.toNat 0) default).Atom.Items (a.getD (Int.toNat 0) default).Atom.Op (a.getD (Int.toNat 0) default).Atom.Bound) (a.getD (Int.toNat 0) default).Exp].length)*128≤reach)) (.i (decide ((0:Int)≤(1:Int))&&decide (1≤Int.ofNat a.length)&&decide (Int.ofNat a.length≤Int.ofNat a.length)) (.i (decide ((0:Int)≤(1:Int))&&decide (1≤Int.ofNat b.length)&&decide (Int.ofNat b.length≤Int.ofNat b.length)) (.h ((List.take ((Int.ofNat a.length).toNat - Int.toNat 1) (List.drop (Int.toNat 1) a)),(List.take ((Int.ofNat b.length).toNat - Int.toNat 1) (List.drop (Int.toNat 1) b)),(),()) ((out_++[FactorOf.mk (Atom.mk (a.getD (Int.toNat 0) default).Atom.Kind (a.getD (Int.toNat 0) default).Atom.Row (a.getD (Int.toNat 0) default).Atom.Args (a.getD (Int.toNat 0) default).Atom.Func (a.getD (Int.toNat 0) default).Atom.Items (a.getD (Int.toNat 0) default).Atom.Op (a.getD (Int.toNat 0) default).Atom.Bound) (a.getD (Int.toNat 0) default).Exp]),())) .d) .d) .d)) .d))) .d) .d) (.k (a,b,out_))) (.k (a,b,out_))
def zG3 (x:znx) (y:znE):Wy znx znE ztO:=zAm x.1 x.2.1 y.1
def zzR (n:Nat) (a:yD) (b:yD) (out_:yD):Bool×ztO:=zI (zG3) default n (a,b,(),()) (out_,())
def zTN (r:ztO):LTree ty:=.done (.exit 0) [.sl 69 r.1,.sl 69 r.2.1,.own 300] [.arr 69 r.2.2 false]
def zVQ:LL ty znx:=za (lSl 69) (za (lSl 69) (za (lOwn 300) zp))
def zWL:BL ty znE:=bArr 69 false (bNil)
def zUi (x:znx) (y:znE):Nat:=(x.1.length+x.2.1.length+y.1.length+1)
def zHH:Cx ty:=mkCx base 75 [(64,zjT),(65,annotation_compareAtoms_spec),(183,zk1)] [] [(2,[(0,.keep),(1,.keep),(5,.own 69)])] [(2,1,(kpL [0,1,5]))] [(2,spW zVQ zWL (zG3) default zTN zUi)] []
theorem zT0:zL zHH (lp (body Tryz.f154) 0):=zw (id:=2) (hl:=rfl)
def zI2 (a:yD) (b:yD):Wy0 (yD):=.bn (zzR (a.length+b.length+0+1) a b []) fun r5=>.bn (zdY [r5.2.2,r5.1,r5.2.1]) fun r4=>.k r4
def zn2 (a:yD) (b:yD):Bool×yD:=(zI2 a b).fin default
def zXV:AL base (yD×yD×Unit):=zd (ze (vSl 69)) (zd (ze (vSl 69)) aNil)
def zDJ:Ab.Spec ty:=zh zXV fun x=>((zn2 x.1 x.2.1).1,zyL (zn2 x.1 x.2.1).2)
theorem zPP:SdP 154 zDJ:=
 sW (cx':=zHH) zq zi zl (zj ⟨znv,zuK,zvM,trivial⟩) Tryz.call154 Tryz.func154 (c:=body Tryz.f154) (lOK (aC zT0 aN)) (sg:=⟨[.own 69],[]⟩)
def zTw:Cx ty:=mkCx base 12 [] [] [] [] [] []
def zGD (a:Int) (b:Int):Wy0 (Int):=.i (!decide (b=0)) (.i (decide (a>IntKind.i64.wrap (Int.tdiv 1152921504606846976 b))) (.k 1152921504606846976) (.k (IntKind.i64.wrap (a*b)))) .d
def zrr (a:Int) (b:Int):Bool×Int:=(zGD a b).fin default
def zCJ:Ab.Spec ty:=zh zTI fun x=>((zrr x.1 x.2.1).1,zO3 (zrr x.1 x.2.1).2)
theorem zN9:SdP 153 zCJ:=
 sW (cx':=zTw) zq zi zl (zj trivial) Tryz.call153 Tryz.func153 (c:=body Tryz.f153) (lOK aN)
abbrev zoE:=yC×Unit×Unit×yC×Int×Int×yC×Int×Int×Unit
abbrev zoF:=yC×Term×Unit
abbrev zu1:=yC×yC×Int×Int×yC
abbrev zoS:=yC×Unit×yC×Int×Int×Unit
abbrev zpb:=yC×Unit
def zpc (b:yC) (t19:yC) (t20:Int) (t21:Int) (t25:yC) (t26:Int) (t27:Int) (terms:yC) (x_:Term):Wy zoE zoF zu1:=.i (decide (t27<t26)) (.i (decide (0≤t27)&&decide (t27<Int.ofNat t25.length)) (.bn (zrr x_.Coeff (t25.getD t27.toNat default).Coeff) fun r5=>.bn (zn2 x_.Factors (t25.getD t27.toNat default).Factors) fun r4=>.i (decide ((terms.length+[TermOf.mk r5 r4].length)*32≤reach)) (.h (b,(),(),t19,t20,t21,t25,t26,(IntKind.i64.wrap (t27+1)),()) ((terms++[TermOf.mk r5 r4]),x_,())) .d) .d) (.k (b,t19,t20,t21,terms))
def zBf (x:zoE) (y:zoF):Wy zoE zoF zu1:=zpc x.1 x.2.2.2.1 x.2.2.2.2.1 x.2.2.2.2.2.1 x.2.2.2.2.2.2.1 x.2.2.2.2.2.2.2.1 x.2.2.2.2.2.2.2.2.1 y.1 y.2.1
def zI9 (n:Nat) (b:yC) (t19:yC) (t20:Int) (t21:Int) (t25:yC) (t26:Int) (t27:Int) (terms:yC) (x_:Term):Bool×zu1:=zI (zBf) default n (b,(),(),t19,t20,t21,t25,t26,t27,()) (terms,x_,())
def zU9 (r:zu1):LTree ty:=.done (.exit 2) [.sl 28 r.1,.own 208,.sl 28 r.2.1,.lit (.int .i64 r.2.2.1),.lit (.int .i64 r.2.2.2.1)] [.arr 28 r.2.2.2.2 false]
def zYv:LL ty zoE:=za (lSl 28) (za (lOwn 208) (za (zfl 209 0) (za (lSl 28) (za lI64 (za lI64 (za (lSl 28) (za lI64 (za lI64 zp))))))))
def zYw:BL ty zoF:=bArr 28 false (bBox (zg1 (fun x=>(⟨x.1,x.2.1⟩:Term)) (fun x=>(x.Coeff,x.Factors,())) (fun _=>rfl) (za (lInt .i64) (za (lSl 69) zp))) false (bNil))
def zoY (b:yC) (t19:yC) (t20:Int) (t21:Int) (terms:yC):Wy zoS zpb (yC):=.i (decide (t21<t20)) (.i (decide (0≤t21)&&decide (t21<Int.ofNat t19.length)) (.bn (zI9 (b.length+t19.length+t20.toNat +t21.toNat +b.length+(Int.ofNat b.length).toNat +Int.toNat 0+terms.length+(t19.getD t21.toNat default).Factors.length+1) b t19 t20 t21 b (Int.ofNat b.length) 0 terms (t19.getD t21.toNat default)) fun r8=>.h ((r8.1),(),(r8.2.1),(r8.2.2.1),(IntKind.i64.wrap (r8.2.2.2.1+1)),()) ((r8.2.2.2.2),())) .d) (.k terms)
def zBo (x:zoS) (y:zpb):Wy zoS zpb (yC):=zoY x.1 x.2.2.1 x.2.2.2.1 x.2.2.2.2.1 y.1
def zBb (n:Nat) (b:yC) (t19:yC) (t20:Int) (t21:Int) (terms:yC):Bool×yC:=zI (zBo) default n (b,(),t19,t20,t21,()) (terms,())
def zYz:LL ty zoS:=za (lSl 28) (za (lOwn 208) (za (lSl 28) (za lI64 (za lI64 zp))))
def zXB:BL ty zpb:=bArr 28 false (bNil)
def zWE (x:zoE) (y:zoF):Nat:=(x.1.length+x.2.2.2.1.length+Int.toNat x.2.2.2.2.1+Int.toNat x.2.2.2.2.2.1+x.2.2.2.2.2.2.1.length+Int.toNat x.2.2.2.2.2.2.2.1+Int.toNat x.2.2.2.2.2.2.2.2.1+y.1.length+y.2.1.Factors.length+1)
def zV8 (x:zoS) (y:zpb):Nat:=(x.1.length+x.2.2.1.length+Int.toNat x.2.2.2.1+Int.toNat x.2.2.2.2.1+y.1.length+1)
def zBd:Cx ty:=mkCx base0 52 [(20,annotation_Valid_spec),(70,zeM),(71,zsy),(153,zCJ),(154,zDJ)] [] [(5,[(1,.keep),(6,.own 28),(19,.keep),(20,.keep),(21,.keep)]),(8,[(1,.keep),(6,.own 28),(8,.keep),(19,.keep),(20,.keep),(21,.keep),(25,.keep),(26,.keep),(27,.keep)])] [(5,1,(kpL [6])),(8,3,(kpL [1,6,19,20,21]))] [(8,spW zYv zYw (zBf) default zU9 zWE),(5,spW zYz zXB (zBo) default zOW zV8)] []
theorem zVL:zL zBd (lp (body Tryz.f92) 1):=zw (id:=8) (hl:=rfl)
theorem zWY:zL zBd (lp (body Tryz.f92) 0):=zw (id:=5) (hl:=rfl)
def zKB (a:yC) (b:yC):Wy0 (yC×Int):=.bn (zb2 a) fun r14=>.i (!r14) (.k ([],1)) (.bn (zb2 b) fun r13=>.i (!r13) (.k ([],1)) (.bn (zBb (b.length+a.length+(Int.ofNat a.length).toNat +Int.toNat 0+0+1) b a (Int.ofNat a.length) 0 []) fun r12=>.bn (zhX r12) fun r11=>.bn (zer r11) fun r10=>.k (r10.1,r10.2)))
def zvA (a:yC) (b:yC):Bool×(yC×Int):=(zKB a b).fin default
def zE9:Ab.Spec ty:=zh z0J fun x=>((zvA x.1 x.2.1).1,zOH (zvA x.1 x.2.1).2)
theorem zRY:Sound Tryz.prog base0 92 zE9:=
 sW (cx':=zBd) zq zi7 zl (zj ⟨zcb.nodr,zfE.nodr,zzs,zN9.nodr,zPP.nodr,trivial⟩) Tryz.call92 Tryz.func92 (c:=body Tryz.f92) (lOK (aC zWY (aC zVL aN))) (sg:=⟨[.own 28,.pure],[]⟩)
def zEf:Cx ty:=mkCx base 8 [] [] [] [] [] []
def zuI (b:Binding) (p1:RowID):Wy0 (Bool):=.k (b.Row.Table==p1.Table&&(b.Row.Seq==p1.Seq&&true))
def zfV (b:Binding) (p1:RowID):Bool×Bool:=(zuI b p1).fin default
def zEG:AL base (Binding×RowID×Unit):=zd (ze (vAgg 51)) (zd (ze (zze 49)) aNil)
def zj0:Ab.Spec ty:=zh zEG fun x=>((zfV x.1 x.2.1).1,zTP (zfV x.1 x.2.1).2)
theorem zpX:SdP 86 zj0:=
 sW (cx':=zEf) zq zi zl (zj trivial) Tryz.call86 Tryz.func86 (c:=body Tryz.f86) (lOK aN)
def zRf:Cx ty:=mkCx base 8 [] [] [] [] [] []
def zFi (x_:Atom):Wy0 (yC):=.k [TermOf.mk 1 [FactorOf.mk (Atom.mk x_.Kind x_.Row x_.Args x_.Func x_.Items x_.Op x_.Bound) 1]]
def zfm (x_:Atom):Bool×yC:=(zFi x_).fin default
def zgv:Ab.Spec ty:=zh zBO fun x=>((zfm x.1).1,zOj (zfm x.1).2)
theorem ziY:SdP 152 zgv:=
 sW (cx':=zRf) zq zi zl (zj trivial) Tryz.call152 Tryz.func152 (c:=body Tryz.f152) (lOK aN) (sg:=⟨[.own 28],[]⟩)
def zYb:Cx ty:=mkCx base 9 [(128,zuX),(152,zgv)] [] [] [] [] []
def zMa (id:RowID):Wy0 (yC):=.bn (zqF id) fun r0=>.i (!r0) (.k []) (.k ((zfm (Atom.mk 0 id [] 0 [] 0 (Value.mk 0 0 (ByteArray.mk #[])))).2))
def zve (id:RowID):Bool×yC:=(zMa id).fin default
def zEW:Ab.Spec ty:=zh z3Z fun x=>((zve x.1).1,zOj (zve x.1).2)
theorem zRZ:SdP 88 zEW:=
 sW (cx':=zYb) zq zi zl (zj ⟨zzu,ziY,trivial⟩) Tryz.call88 Tryz.func88 (c:=body Tryz.f88) (lOK aN) (sg:=⟨[.own 28],[]⟩)
abbrev zcO:=yG×(RowID×Unit)×Int×Int×Unit
def zr3 (s:yG) (f:RowID) (t7:Int) (t8:Int):Wy zcO (Unit) (Int⊕Unit):=.i (decide (t8<t7)) (.i (decide (0≤t8)&&decide (t8<Int.ofNat s.length)) (.i ((zfV (s.getD t8.toNat default) f).2) (.k (.inl t8)) (.h (s,(f,()),t7,(IntKind.i64.wrap (t8+1)),()) ())) .d) (.k (.inr ()))
def zii (x:zcO) (y:Unit):Wy zcO (Unit) (Int⊕Unit):=zr3 x.1 x.2.1.1 x.2.2.1 x.2.2.2.1
def zrN (n:Nat) (s:yG) (f:RowID) (t7:Int) (t8:Int):Bool×(Int⊕Unit):=zI (zii) (.inl default) n (s,(f,()),t7,t8,()) ()
def zrL:LL ty zcO:=za (lSl 51) (za (lFn 86 (za (zny (zg1 (fun x=>(⟨x.1,x.2.1⟩:RowID)) (fun x=>(x.Table,x.Seq,())) (fun _=>rfl) (za lI64 (za lI64 zp))) 0) zp)) (za lI64 (za lI64 zp)))
def zqY (x:zcO) (y:Unit):Nat:=(x.1.length+Int.toNat x.2.2.1+Int.toNat x.2.2.2.1+1)
def zij:Cx ty:=mkCx base 19 [(86,zj0)] [] [(2,(kpL [0,1,7,8]))] [(2,1,[]),(2,0,(kpL [4]))] [(2,spW zrL z5G (zii) (.inl default) zsS zqY)] []
theorem zqR:zL zij (lp (body Tryz.f85) 0):=zw (id:=2) (hl:=rfl)
def zsr (s:yG) (f:RowID):Wy0 (Int):=.bn (zrN (s.length+(Int.ofNat s.length).toNat +Int.toNat 0+1) s f (Int.ofNat s.length) 0) fun r0=>.i (isL r0) (.k (getL r0)) (.k (-1:Int))
def zcz (s:yG) (f:RowID):Bool×Int:=(zsr s f).fin default
def zs5:AL base (yG×(RowID×Unit)×Unit):=zd (ze (vSl 51)) (zd (ze (vFn 86 (zdz (zze 49) vNil))) aNil)
def zho:Ab.Spec ty:=zh zs5 fun x=>((zcz x.1 x.2.1.1).1,zO3 (zcz x.1 x.2.1.1).2)
theorem zpy:SdP 85 zho:=
 sW (cx':=zij) zq zi zl (zj ⟨zpX,trivial⟩) Tryz.call85 Tryz.func85 (c:=body Tryz.f85) (lOK (aC zqR aN))
def zHq:Cx ty:=mkCx base 18 [(85,zho),(86,zj0),(87,annotation_copied_spec),(88,zEW)] [] [] [] [] []
def zxP (id:RowID) (p1:yG):Wy0 (yC):=.bn (zcz p1 id) fun r2=>.i (decide (r2≥0)) (.i (decide (0≤r2)&&decide (r2<Int.ofNat p1.length)) (.bn (zgE (p1.getD r2.toNat default).To) fun r0=>.k r0) .d) (.bn (zve id) fun r1=>.k r1)
def zhT (id:RowID) (p1:yG):Bool×yC:=(zxP id p1).fin default
def zH9:AL base (RowID×(yG×Unit)×Unit):=zd (ze (vAgg 49)) (zd (ze (vBox (zdz (vSl 51) vNil))) aNil)
def zhw:Ab.Spec ty:=zh zH9 fun x=>((zhT x.1 x.2.1.1).1,zOj (zhT x.1 x.2.1.1).2)
theorem zle:SdP 84 zhw:=
 sW (cx':=zHq) zq zi zl (zj ⟨zpy,zpX,ziH,zRZ,trivial⟩) Tryz.call84 Tryz.func84 (c:=body Tryz.f84) (lOK aN) (sg:=⟨[.own 28],[]⟩)
abbrev zks:=((yG×Unit)×Unit)×Unit×Unit×yC×Int×yC×Int×Int×yD×Int×Int×Int×Int×Unit
abbrev zdo:=yC×yC×Unit
abbrev zoc:=yG×Int×yC×Int×Int×yD×Int×Int×yC×yC
abbrev zkC:=((yG×Unit)×Unit)×Unit×Unit×yC×Int×Int×yD×Int×Int×Unit
abbrev zn8:=Int⊕(yG×yC×Int×Int×yC×yC)
abbrev zkd:=((yG×Unit)×Unit)×Unit×yC×Int×Int×Unit
abbrev zkq:=yC×Unit
abbrev znY:=Int⊕yC
def zrc (zn:Atom→yG→Bool×(yC×Int)) (to:yG) (b:yC) (e:Int) (t16:yC) (t17:Int) (t18:Int) (t26:yD) (t27:Int) (t28:Int) (t40:Int) (t41:Int) (sum:yC) (product:yC):Wy zks zdo zoc:=.i (decide (t41<t40)) (.i (e==0) (.bn (zvA product b) fun r6=>.h (((to,()),()),(),(),b,(r6.2),t16,t17,t18,t26,t27,t28,t40,(IntKind.i64.wrap (t41+1)),()) (sum,(r6.1),())) (.h (((to,()),()),(),(),b,e,t16,t17,t18,t26,t27,t28,t40,(IntKind.i64.wrap (t41+1)),()) (sum,product,()))) (.k (to,e,t16,t17,t18,t26,t27,t28,sum,product))
def zzT (zn:Atom→yG→Bool×(yC×Int)) (x:zks) (y:zdo):Wy zks zdo zoc:=zrc zn x.1.1.1 x.2.2.2.1 x.2.2.2.2.1 x.2.2.2.2.2.1 x.2.2.2.2.2.2.1 x.2.2.2.2.2.2.2.1 x.2.2.2.2.2.2.2.2.1 x.2.2.2.2.2.2.2.2.2.1 x.2.2.2.2.2.2.2.2.2.2.1 x.2.2.2.2.2.2.2.2.2.2.2.1 x.2.2.2.2.2.2.2.2.2.2.2.2.1 y.1 y.2.1
def zqB (zn:Atom→yG→Bool×(yC×Int)) (n:Nat) (to:yG) (b:yC) (e:Int) (t16:yC) (t17:Int) (t18:Int) (t26:yD) (t27:Int) (t28:Int) (t40:Int) (t41:Int) (sum:yC) (product:yC):Bool×zoc:=zI (zzT zn) default n (((to,()),()),(),(),b,e,t16,t17,t18,t26,t27,t28,t40,t41,()) (sum,product,())
def zJN (r:zoc):LTree ty:=.done (.exit 4) [.fn 84 ([.bptr ([.sl 51 r.1]) 0]),.own 272,.own 273,.lit (.int .i64 r.2.1),.sl 28 r.2.2.1,.lit (.int .i64 r.2.2.2.1),.lit (.int .i64 r.2.2.2.2.1),.sl 69 r.2.2.2.2.2.1,.lit (.int .i64 r.2.2.2.2.2.2.1),.lit (.int .i64 r.2.2.2.2.2.2.2.1)] [.arr 28 r.2.2.2.2.2.2.2.2.1 false,.arr 28 r.2.2.2.2.2.2.2.2.2 false]
def zLH:LL ty zks:=za (lFn 84 (za (zny (za (lSl 51) zp) 0) zp)) (za (lOwn 272) (za (lOwn 273) (za (lSl 28) (za lI64 (za (lSl 28) (za lI64 (za lI64 (za (lSl 69) (za lI64 (za lI64 (za lI64 (za lI64 zp))))))))))))
def zLA:BL ty zdo:=bArr 28 false (bArr 28 false (bNil))
def zss (zn:Atom→yG→Bool×(yC×Int)) (to:yG) (t16:yC) (t17:Int) (t18:Int) (t26:yD) (t27:Int) (t28:Int) (sum:yC) (product:yC):Wy zkC zdo zn8:=.i (decide (t28<t27)) (.i (decide (0≤t28)&&decide (t28<Int.ofNat t26.length)) (.bn (zn (Atom.mk (t26.getD t28.toNat default).Atom.Kind (t26.getD t28.toNat default).Atom.Row (t26.getD t28.toNat default).Atom.Args (t26.getD t28.toNat default).Atom.Func (t26.getD t28.toNat default).Atom.Items (t26.getD t28.toNat default).Atom.Op (t26.getD t28.toNat default).Atom.Bound) to) fun r9=>.bn (zqB zn (to.length+r9.1.length+r9.2.toNat +t16.length+t17.toNat +t18.toNat +t26.length+t27.toNat +t28.toNat +(t26.getD t28.toNat default).Exp.toNat +Int.toNat 0+sum.length+product.length+1) to r9.1 r9.2 t16 t17 t18 t26 t27 t28 (t26.getD t28.toNat default).Exp 0 sum product) fun r8=>.i (r8.2.1 != 0) (.k (.inl (r8.2.1))) (.h ((((r8.1),()),()),(),(),(r8.2.2.1),(r8.2.2.2.1),(r8.2.2.2.2.1),(r8.2.2.2.2.2.1),(r8.2.2.2.2.2.2.1),(IntKind.i64.wrap (r8.2.2.2.2.2.2.2.1+1)),()) ((r8.2.2.2.2.2.2.2.2.1),(r8.2.2.2.2.2.2.2.2.2),()))) .d) (.k (.inr (to,t16,t17,t18,sum,product)))
def zAX (zn:Atom→yG→Bool×(yC×Int)) (x:zkC) (y:zdo):Wy zkC zdo zn8:=zss zn x.1.1.1 x.2.2.2.1 x.2.2.2.2.1 x.2.2.2.2.2.1 x.2.2.2.2.2.2.1 x.2.2.2.2.2.2.2.1 x.2.2.2.2.2.2.2.2.1 y.1 y.2.1
def zs8 (zn:Atom→yG→Bool×(yC×Int)) (n:Nat) (to:yG) (t16:yC) (t17:Int) (t18:Int) (t26:yD) (t27:Int) (t28:Int) (sum:yC) (product:yC):Bool×zn8:=zI (zAX zn) (.inl default) n (((to,()),()),(),(),t16,t17,t18,t26,t27,t28,()) (sum,product,())
def zKG (r:zn8):LTree ty:=.ite (isL r) (.done .ret [.lit (.slice none 0 0),.lit (.int .i64 (getL r))] []) (.done (.exit 2) [.fn 84 ([.bptr ([.sl 51 (getR r).1]) 0]),.own 272,.own 273,.sl 28 (getR r).2.1,.lit (.int .i64 (getR r).2.2.1),.lit (.int .i64 (getR r).2.2.2.1)] [.arr 28 (getR r).2.2.2.2.1 false,.arr 28 (getR r).2.2.2.2.2 false])
def zMn:LL ty zkC:=za (lFn 84 (za (zny (za (lSl 51) zp) 0) zp)) (za (lOwn 272) (za (lOwn 273) (za (lSl 28) (za lI64 (za lI64 (za (lSl 69) (za lI64 (za lI64 zp))))))))
def zsI (zn:Atom→yG→Bool×(yC×Int)) (to:yG) (t16:yC) (t17:Int) (t18:Int) (sum:yC):Wy zkd zkq znY:=.i (decide (t18<t17)) (.i (decide (0≤t18)&&decide (t18<Int.ofNat t16.length)) (.bn (zqK (t16.getD t18.toNat default).Coeff) fun r14=>.bn (zs8 zn (to.length+t16.length+t17.toNat +t18.toNat +(t16.getD t18.toNat default).Factors.length+(Int.ofNat (t16.getD t18.toNat default).Factors.length).toNat +Int.toNat 0+sum.length+r14.length+1) to t16 t17 t18 (t16.getD t18.toNat default).Factors (Int.ofNat (t16.getD t18.toNat default).Factors.length) 0 sum r14) fun r13=>.i (isL r13) (.k (.inl (getL r13))) (.bn (zu2 (getR r13).2.2.2.2.1 (getR r13).2.2.2.2.2) fun r12=>.i (r12.2 != 0) (.k (.inl (r12.2))) (.h ((((getR r13).1,()),()),(),(getR r13).2.1,(getR r13).2.2.1,(IntKind.i64.wrap ((getR r13).2.2.2.1+1)),()) ((r12.1),())))) .d) (.k (.inr sum))
def zA8 (zn:Atom→yG→Bool×(yC×Int)) (x:zkd) (y:zkq):Wy zkd zkq znY:=zsI zn x.1.1.1 x.2.2.1 x.2.2.2.1 x.2.2.2.2.1 y.1
def zs7 (zn:Atom→yG→Bool×(yC×Int)) (n:Nat) (to:yG) (t16:yC) (t17:Int) (t18:Int) (sum:yC):Bool×znY:=zI (zA8 zn) (.inl default) n (((to,()),()),(),t16,t17,t18,()) (sum,())
def zLC (r:znY):LTree ty:=.ite (isL r) (.done .ret [.lit (.slice none 0 0),.lit (.int .i64 (getL r))] []) (.done (.exit 0) [.own 272] [.arr 28 (getR r) false])
def zMu:LL ty zkd:=za (lFn 84 (za (zny (za (lSl 51) zp) 0) zp)) (za (lOwn 272) (za (lSl 28) (za lI64 (za lI64 zp))))
def zMq:BL ty zkq:=bArr 28 false (bNil)
def zKd (x:zks) (y:zdo):Nat:=(x.1.1.1.length+x.2.2.2.1.length+Int.toNat x.2.2.2.2.1+x.2.2.2.2.2.1.length+Int.toNat x.2.2.2.2.2.2.1+Int.toNat x.2.2.2.2.2.2.2.1+x.2.2.2.2.2.2.2.2.1.length+Int.toNat x.2.2.2.2.2.2.2.2.2.1+Int.toNat x.2.2.2.2.2.2.2.2.2.2.1+Int.toNat x.2.2.2.2.2.2.2.2.2.2.2.1+Int.toNat x.2.2.2.2.2.2.2.2.2.2.2.2.1+y.1.length+y.2.1.length+1)
def zL2 (x:zkC) (y:zdo):Nat:=(x.1.1.1.length+x.2.2.2.1.length+Int.toNat x.2.2.2.2.1+Int.toNat x.2.2.2.2.2.1+x.2.2.2.2.2.2.1.length+Int.toNat x.2.2.2.2.2.2.2.1+Int.toNat x.2.2.2.2.2.2.2.2.1+y.1.length+y.2.1.length+1)
def zLz (x:zkd) (y:zkq):Nat:=(x.1.1.1.length+x.2.2.1.length+Int.toNat x.2.2.2.1+Int.toNat x.2.2.2.2.1+y.1.length+1)
def zl8 (zn:Atom→yG→Bool×(yC×Int)):Cx ty:=mkCx base0 68 [(23,zE6),(84,zhw),(92,zE9),(149,zCR),(150,(zls zn))] [] [(3,[(1,.keep),(6,.own 28),(16,.keep),(17,.keep),(18,.keep)]),(7,(kpL [1,6,9,16,17,18,26,27,28])),(11,[(1,.keep),(6,.keep),(9,.keep),(12,.sl 28),(13,.keep),(16,.keep),(17,.keep),(18,.keep),(26,.keep),(27,.keep),(28,.keep),(40,.keep),(41,.keep)])] [(3,1,(kpL [6])),(3,0,(kpL [4,5])),(7,3,(kpL [1,6,9,16,17,18])),(7,0,(kpL [4,5])),(11,5,(kpL [1,6,9,13,16,17,18,26,27,28]))] [(11,spW zLH zLA (zzT zn) default zJN zKd),(7,spW zMn zLA (zAX zn) (.inl default) zKG zL2),(3,spW zMu zMq (zA8 zn) (.inl default) zLC zLz)] []
theorem zJP (zn:Atom→yG→Bool×(yC×Int)):zL (zl8 zn) (lp (body Tryz.f83) 2):=zw (id:=11) (hl:=rfl)
theorem zKT (zn:Atom→yG→Bool×(yC×Int)):zL (zl8 zn) (lp (body Tryz.f83) 1):=zw (id:=7) (hl:=rfl)
theorem zK1 (zn:Atom→yG→Bool×(yC×Int)):zL (zl8 zn) (lp (body Tryz.f83) 0):=zw (id:=3) (hl:=rfl)
def zBH (zn:Atom→yG→Bool×(yC×Int)) (a:yC) (to:yG):Wy0 (yC×Int):=.bn (zs7 zn (to.length+a.length+(Int.ofNat a.length).toNat +Int.toNat 0+0+1) to a (Int.ofNat a.length) 0 []) fun r18=>.i (isL r18) (.k ([],getL r18)) (.k (getR r18,0))
def zlJ (zn:Atom→yG→Bool×(yC×Int)) (a:yC) (to:yG):Bool×(yC×Int):=(zBH zn a to).fin default
theorem zHY (zn:Atom→yG→Bool×(yC×Int)) (zH1:Sound Tryz.prog base0 150 (zls zn)):Sound Tryz.prog base0 83 (zll (zlJ zn)):=
 sW (cx':=(zl8 zn)) zq zi7 zl (zj ⟨zSq,zle.nodr,zRY,zOi.nodr,zH1,trivial⟩) Tryz.call83 Tryz.func83 (c:=body Tryz.f83) (lOK (aC (zK1 zn) (aC (zKT zn) (aC (zJP zn) aN)))) (sg:=⟨[.own 28,.pure],[]⟩)
def zXG:Cx ty:=mkCx base 3 [] [] [] [] [] []
def z0g:Wy0 (yC):=.k [TermOf.mk 1 []]
def zvP:Bool×yC:=(z0g).fin default
def zrJ:Ab.Spec ty:=zh zOZ fun x=>((zvP ).1,zOj (zvP ).2)
theorem zwM:SdP 36 zrJ:=
 sW (cx':=zXG) zq zi zl (zj trivial) Tryz.call36 Tryz.func36 (c:=body Tryz.f36) (lOK aN) (sg:=⟨[.own 28],[]⟩)
def zSd:Cx ty:=mkCx base 23 [(20,annotation_Valid_spec),(36,zrJ),(70,zeM),(131,znK),(152,zgv)] [] [] [] [] []
def zFg (a:yC):Wy0 (yC×Int):=.bn (zb2 a) fun r2=>.i (!r2) (.k ([],1)) (.i (Int.ofNat a.length==0) (.k (zvP.2,0)) (.bn (zeY a) fun r1=>.i (r1) (.k ([],0)) (.bn (zer (zfm (Atom.mk 3 (RowID.mk 0 0) [a] 0 [] 0 (Value.mk 0 0 (ByteArray.mk #[])))).2) fun r0=>.k (r0.1,r0.2))))
def zoP (a:yC):Bool×(yC×Int):=(zFg a).fin default
def zBY:Ab.Spec ty:=zh zVO fun x=>((zoP x.1).1,zOH (zoP x.1).2)
theorem zMC:SdP 179 zBY:=
 sW (cx':=zSd) zq zi zl (zj ⟨zcb,zwM,zfE,zvK,ziY,trivial⟩) Tryz.call179 Tryz.func179 (c:=body Tryz.f179) (lOK aN) (sg:=⟨[.own 28,.pure],[]⟩)
def zTj:Cx ty:=mkCx base 29 [(20,annotation_Valid_spec),(36,zrJ),(70,zeM),(87,annotation_copied_spec),(129,zow),(130,zuo),(152,zgv)] [] [] [] [] []
def zHm (a:yC):Wy0 (yC×Int):=.bn (zb2 a) fun r5=>.i (!r5) (.k ([],1)) (.i (Int.ofNat a.length==0) (.bn (zgE a) fun r0=>.k (r0,0)) (.bn (zlQ a) fun r4=>.i (r4) (.bn (zgE a) fun r1=>.k (r1,0)) (.bn (zhk a) fun r3=>.i (r3) (.k (zvP.2,0)) (.bn (zer (zfm (Atom.mk 2 (RowID.mk 0 0) [a] 0 [] 0 (Value.mk 0 0 (ByteArray.mk #[])))).2) fun r2=>.k (r2.1,r2.2)))))
def zrF (a:yC):Bool×(yC×Int):=(zHm a).fin default
def zDh:Ab.Spec ty:=zh zVO fun x=>((zrF x.1).1,zOH (zrF x.1).2)
theorem zOc:SdP 178 zDh:=
 sW (cx':=zTj) zq zi zl (zj ⟨zcb,zwM,zfE,ziH,zwC,zAV,ziY,trivial⟩) Tryz.call178 Tryz.func178 (c:=body Tryz.f178) (lOK aN) (sg:=⟨[.own 28,.pure],[]⟩)
def zTt:Cx ty:=mkCx base 38 [(20,annotation_Valid_spec),(21,zkw),(70,zeM),(87,annotation_copied_spec),(152,zgv)] [] [] [] [] []
def zHf (a:yC) (b:yC):Wy0 (yC×Int):=.bn (zb2 a) fun r4=>.i (!r4) (.k ([],1)) (.bn (zb2 b) fun r3=>.i (!r3) (.k ([],1)) (.i (Int.ofNat b.length==0) (.bn (zgE a) fun r0=>.k (r0,0)) (.i (Int.ofNat a.length==0) (.k ([],0)) (.bn (zeW a b) fun r2=>.i (r2) (.k ([],0)) (.bn (zer (zfm (Atom.mk 1 (RowID.mk 0 0) [a,b] 0 [] 0 (Value.mk 0 0 (ByteArray.mk #[])))).2) fun r1=>.k (r1.1,r1.2))))))
def zq0 (a:yC) (b:yC):Bool×(yC×Int):=(zHf a b).fin default
def zC0:Ab.Spec ty:=zh zSg fun x=>((zq0 x.1 x.2.1).1,zOH (zq0 x.1 x.2.1).2)
theorem zNW:SdP 177 zC0:=
 sW (cx':=zTt) zq zi zl (zj ⟨zcb,zm2,zfE,ziH,ziY,trivial⟩) Tryz.call177 Tryz.func177 (c:=body Tryz.f177) (lOK aN) (sg:=⟨[.own 28,.pure],[]⟩)
def zf9 (x:yE) (a b:Int):Bool×yE:=z3f zbe x a b
def slices_insertionSortCmpFunc_api_Weighted_spec:Ab.Spec ty:=zh (cx:=base) (zd (aOwn 100) (zd (ze (vInt .i64)) (zd (ze (vInt .i64)) (zd (ze (vFn 124 vNil)) aNil)))) fun x=>((zf9 x.1 x.2.1 x.2.2.1).1,⟨[],[some ⟨100,(zf9 x.1 x.2.1 x.2.2.1).2⟩]⟩)
theorem zuG (c:Unit) (x y:Weighted) (h:(zbe x y).1=true):annotation_compareItems_spec ((AV.agg (base.enc 100 x)::AV.agg (base.enc 100 y)::(vNil:VL base Unit).enc c).map Arg.pure)=some (true,⟨[.pure (.lit (.int .i64 (zbe x y).2))],[]⟩):=by
 rw [← h]; kernel_rfl
theorem zs0:SdP 281 slices_insertionSortCmpFunc_api_Weighted_spec:=by
 letI:DecidableEq (ty 100):=inferInstanceAs (DecidableEq Weighted)
 exact z9V (T:=100) zi rfl Go.Proofs.Tryz.insW Tryz.isAgg100 (by unfold szOf; exact Tryz.sizeOf100) Tryz.call281 zhz vNil (fun c=>zbe) zuG
end Go.Proofs.YtljlfiomikifjaaGreatDoor
end
