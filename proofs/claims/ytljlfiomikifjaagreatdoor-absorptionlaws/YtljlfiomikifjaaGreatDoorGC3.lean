/- Texts of this claim, joined (the program, its functions in plain words, and what they compute). -/
import Derived.WalkKit
import Derived.WalkSpells
import Derived.Test.YtljlfiomikifjaaGreatDoorGC2
set_option autoImplicit false
set_option linter.unusedVariables false
set_option linter.unusedSectionVars false
set_option linter.unusedSimpArgs false
set_option maxRecDepth 1000000
set_option maxHeartbeats 0
noncomputable section
namespace Go.Proofs.YtljlfiomikifjaaGreatDoor
open Go Go.Ab
open Go.Proofs.Tryz
def strings_ReplaceAll (s p q:ByteArray):Bool×ByteArray:=zpR s p q
def zBv:Ab.Spec ty:=zh (cx:=zbP) (zd (ze zyr) (zd (ze zyr) (zd (ze zyr) zr))) fun x=>((strings_ReplaceAll x.1 x.2.1 x.2.2.1).1,⟨[.pure (.lit (.string (strings_ReplaceAll x.1 x.2.1 x.2.2.1).2))],[]⟩)
theorem zK6:Sound Tryz.prog zbP 228 zBv:=z2o zLm rfl Go.Proofs.Tryz.lays155 Go.Proofs.Tryz.Builder_Extra_155 call228 (fun _ h=>h.2)
def z3C:=zbq zbP 27 [(164,zwM),(227,zus),(228,zBv)]
def zRg (v:Value):Wy0 (ByteArray):=.bn (zuF v) fun r2=>.i (!r2) (.k (ByteArray.mk #[])) (.i (v.Kind==0) (.bn (zjb v.Int 10) fun r0=>.k r0) (.i (v.Kind==1) (.bn (strings_ReplaceAll v.Text (ByteArray.mk #[(39:UInt8)]) (ByteArray.mk #[(39:UInt8),(39:UInt8)])) fun r1=>.i (decide ((ByteArray.mk #[(39:UInt8)]).size+r1.size≤9223372036854775807)) (.i (decide ((ByteArray.mk #[(39:UInt8)]++r1).size+(ByteArray.mk #[(39:UInt8)]).size≤9223372036854775807)) (.k (ByteArray.mk #[(39:UInt8)]++r1++ByteArray.mk #[(39:UInt8)])) .d) .d) (.i (v.Int==1) (.k (ByteArray.mk #[(84:UInt8),(82:UInt8),(85:UInt8),(69:UInt8)])) (.k (ByteArray.mk #[(70:UInt8),(65:UInt8),(76:UInt8),(83:UInt8),(69:UInt8)])))))
def zvq (v:Value):=(zRg v).fin default
def z5i:AL zbP (Value×Unit):=zd (ze (zcG 65)) zr
def zJF:=zh z5i fun x=>((zvq x.1).1,zVA (zvq x.1).2)
theorem zWZ:Sound Tryz.prog zbP 197 zJF:=
 sU (cx':=z3C) (zi ⟨zBW.nodr,zBd.nodr,zK6,trivial⟩) call197 func197 (lOK aN)
abbrev zlg:=Unit×Unit×yE×Int×Int×Unit
abbrev zlz:=At×List ByteArray×Unit
abbrev zzK:=At×List ByteArray
def zfY (zbx:yC→Bool×ByteArray) (t48:yE) (t49:Int) (t50:Int) (x_:At) (items:List ByteArray):Wy zlg zlz zzK:=.i (decide (t50<t49)) (.i (decide (0≤t50)&&decide (t50<Int.ofNat t48.length)) (.bn (zvq (t48.getD t50.toNat default).Value) fun r1=>.i (decide (r1.size+(ByteArray.mk #[(58:UInt8),(32:UInt8)]).size≤9223372036854775807)) (.bn (zbx (t48.getD t50.toNat default).Ann) fun r0=>.i (decide ((r1++ByteArray.mk #[(58:UInt8),(32:UInt8)]).size+r0.size≤9223372036854775807)) (.i (decide ((items.length+[r1++ByteArray.mk #[(58:UInt8),(32:UInt8)]++r0].length)*16≤zK)) (.h ((),(),t48,t49,(IntKind.i64.wrap (t50+1)),()) (x_,(items++[r1++ByteArray.mk #[(58:UInt8),(32:UInt8)]++r0]),())) .d) .d) .d) .d) (.k (x_,items))
def zny (zbx:yC→Bool×ByteArray) (x:zlg) (y:zlz):=zfY zbx x.2.2.1 x.2.2.2.1 x.2.2.2.2.1 y.1 y.2.1
def zwz (zbx:yC→Bool×ByteArray) (n:Nat) (t48:yE) (t49:Int) (t50:Int) (x_:At) (items:List ByteArray):=zH (zny zbx) default n ((),(),t48,t49,t50,()) (x_,items,())
def zF8 (r:zzK):LTree ty:=.done (.exit 1) [.ptr 360 0,.own 361] [.box (base.enc 67 r.1) false,.arr 9 r.2 false]
def zIf:LL ty zlg:=za (zft 360 0) (za (zd3 361) (za (lSl 100) (za zj (za zj zn))))
def zHm:BL ty zlz:=zjh (zhh (fun x=>(⟨x.1,⟨x.2.1,x.2.2.1⟩,x.2.2.2.1,x.2.2.2.2.1,x.2.2.2.2.2.1,x.2.2.2.2.2.2.1,⟨x.2.2.2.2.2.2.2.1,x.2.2.2.2.2.2.2.2.1,x.2.2.2.2.2.2.2.2.2.1⟩⟩:At)) (fun x=>(x.Kind,x.Row.Table,x.Row.Seq,x.Ag,x.Func,x.Items,x.Op,x.Bd.Kind,x.Bd.Int,x.Bd.Text,())) (fun _=>rfl) (za (zR .i64) (za (zR .i64) (za (zR .i64) (za (lSl 23) (za (zR .i64) (za (lSl 100) (za (zR .i64) (za (zR .i64) (za (zR .i64) (za zrl zn))))))))))) false (zed 9 false (zbl))
def zGM (x:zlg) (y:zlz):Nat:=(x.2.2.1.length+Int.toNat x.2.2.2.1+Int.toNat x.2.2.2.2.1+y.1.Ag.length+y.1.Items.length+y.2.1.length+1)
def zxP (zbx:yC→Bool×ByteArray):=zb5 zbP 90 [(169,zu1),(195,zIo),(196,(zu0 zbx)),(197,zJF),(198,zzk),(199,zy8)] [] [(12,[(1,.keep),(3,.own 9),(48,.keep),(49,.keep),(50,.keep)])] [(12,2,(kpL [1,3]))] [(12,spW zIf zHm (zny zbx) default zF8 zGM)] []
theorem zGa (zbx:yC→Bool×ByteArray):zM (zxP zbx) (lp (body f167) 0):=zw (id:=12) (hl:=rfl)
def zy7 (zbx:yC→Bool×ByteArray) (x_:At):Wy0 (ByteArray):=.i (x_.Kind==0) (.bn (zxH x_.Row) fun r4=>.k r4) (.i (x_.Kind==1) (.i (decide ((0:Int)≤(0:Int))&&decide (0<Int.ofNat x_.Ag.length)) (.bn (zbx (x_.Ag.getD (Int.toNat 0) default)) fun r6=>.i (decide ((ByteArray.mk #[(109:UInt8),(111:UInt8),(110:UInt8),(117:UInt8),(115:UInt8),(91:UInt8)]).size+r6.size≤9223372036854775807)) (.i (decide ((ByteArray.mk #[(109:UInt8),(111:UInt8),(110:UInt8),(117:UInt8),(115:UInt8),(91:UInt8)]++r6).size+(ByteArray.mk #[(44:UInt8),(32:UInt8)]).size≤9223372036854775807)) (.i (decide ((0:Int)≤(1:Int))&&decide (1<Int.ofNat x_.Ag.length)) (.bn (zbx (x_.Ag.getD (Int.toNat 1) default)) fun r5=>.i (decide ((ByteArray.mk #[(109:UInt8),(111:UInt8),(110:UInt8),(117:UInt8),(115:UInt8),(91:UInt8)]++r6++ByteArray.mk #[(44:UInt8),(32:UInt8)]).size+r5.size≤9223372036854775807)) (.i (decide ((ByteArray.mk #[(109:UInt8),(111:UInt8),(110:UInt8),(117:UInt8),(115:UInt8),(91:UInt8)]++r6++ByteArray.mk #[(44:UInt8),(32:UInt8)]++r5).size+(ByteArray.mk #[(93:UInt8)]).size≤9223372036854775807)) (.k (ByteArray.mk #[(109:UInt8),(111:UInt8),(110:UInt8),(117:UInt8),(115:UInt8),(91:UInt8)]++r6++ByteArray.mk #[(44:UInt8),(32:UInt8)]++r5++ByteArray.mk #[(93:UInt8)])) .d) .d) .d) .d) .d) .d) (.i (x_.Kind==2) (.i (decide ((0:Int)≤(0:Int))&&decide (0<Int.ofNat x_.Ag.length)) (.bn (zbx (x_.Ag.getD (Int.toNat 0) default)) fun r7=>.i (decide ((ByteArray.mk #[(100:UInt8),(101:UInt8),(108:UInt8),(116:UInt8),(97:UInt8),(91:UInt8)]).size+r7.size≤9223372036854775807)) (.i (decide ((ByteArray.mk #[(100:UInt8),(101:UInt8),(108:UInt8),(116:UInt8),(97:UInt8),(91:UInt8)]++r7).size+(ByteArray.mk #[(93:UInt8)]).size≤9223372036854775807)) (.k (ByteArray.mk #[(100:UInt8),(101:UInt8),(108:UInt8),(116:UInt8),(97:UInt8),(91:UInt8)]++r7++ByteArray.mk #[(93:UInt8)])) .d) .d) .d) (.i (x_.Kind==3) (.i (decide ((0:Int)≤(0:Int))&&decide (0<Int.ofNat x_.Ag.length)) (.bn (zbx (x_.Ag.getD (Int.toNat 0) default)) fun r8=>.i (decide ((ByteArray.mk #[(97:UInt8),(98:UInt8),(115:UInt8),(101:UInt8),(110:UInt8),(116:UInt8),(91:UInt8)]).size+r8.size≤9223372036854775807)) (.i (decide ((ByteArray.mk #[(97:UInt8),(98:UInt8),(115:UInt8),(101:UInt8),(110:UInt8),(116:UInt8),(91:UInt8)]++r8).size+(ByteArray.mk #[(93:UInt8)]).size≤9223372036854775807)) (.k (ByteArray.mk #[(97:UInt8),(98:UInt8),(115:UInt8),(101:UInt8),(110:UInt8),(116:UInt8),(91:UInt8)]++r8++ByteArray.mk #[(93:UInt8)])) .d) .d) .d) (.bn (zwz zbx (x_.Items.length+(Int.ofNat x_.Items.length).toNat +Int.toNat 0+x_.Ag.length+x_.Items.length+0+1) x_.Items (Int.ofNat x_.Items.length) 0 (At.mk x_.Kind x_.Row x_.Ag x_.Func x_.Items x_.Op x_.Bd) []) fun r11=>.i (decide (0≤r11.1.Func)&&decide (r11.1.Func<Int.ofNat zb8.2.length)) (.i (decide ((ByteArray.mk #[(116:UInt8),(101:UInt8),(115:UInt8),(116:UInt8),(91:UInt8)]).size+ByteArray.size (zb8.2.getD r11.1.Func.toNat default)≤9223372036854775807)) (.i (decide ((ByteArray.mk #[(116:UInt8),(101:UInt8),(115:UInt8),(116:UInt8),(91:UInt8)]++zb8.2.getD r11.1.Func.toNat default).size+(ByteArray.mk #[(123:UInt8)]).size≤9223372036854775807)) (.bn (strings_Join r11.2 (ByteArray.mk #[(59:UInt8),(32:UInt8)])) fun r10=>.i (decide ((ByteArray.mk #[(116:UInt8),(101:UInt8),(115:UInt8),(116:UInt8),(91:UInt8)]++zb8.2.getD r11.1.Func.toNat default++ByteArray.mk #[(123:UInt8)]).size+r10.size≤9223372036854775807)) (.i (decide ((ByteArray.mk #[(116:UInt8),(101:UInt8),(115:UInt8),(116:UInt8),(91:UInt8)]++zb8.2.getD r11.1.Func.toNat default++ByteArray.mk #[(123:UInt8)]++r10).size+(ByteArray.mk #[(125:UInt8),(32:UInt8)]).size≤9223372036854775807)) (.i (decide (0≤IntKind.i64.wrap (r11.1.Op - 5))&&decide (IntKind.i64.wrap (r11.1.Op - 5)<Int.ofNat zdJ.2.length)) (.i (decide ((ByteArray.mk #[(116:UInt8),(101:UInt8),(115:UInt8),(116:UInt8),(91:UInt8)]++zb8.2.getD r11.1.Func.toNat default++ByteArray.mk #[(123:UInt8)]++r10++ByteArray.mk #[(125:UInt8),(32:UInt8)]).size+ByteArray.size (zdJ.2.getD (IntKind.i64.wrap (r11.1.Op - 5)).toNat default)≤9223372036854775807)) (.i (decide ((ByteArray.mk #[(116:UInt8),(101:UInt8),(115:UInt8),(116:UInt8),(91:UInt8)]++zb8.2.getD r11.1.Func.toNat default++ByteArray.mk #[(123:UInt8)]++r10++ByteArray.mk #[(125:UInt8),(32:UInt8)]++zdJ.2.getD (IntKind.i64.wrap (r11.1.Op - 5)).toNat default).size+(ByteArray.mk #[(32:UInt8)]).size≤9223372036854775807)) (.bn (zvq r11.1.Bd) fun r9=>.i (decide ((ByteArray.mk #[(116:UInt8),(101:UInt8),(115:UInt8),(116:UInt8),(91:UInt8)]++zb8.2.getD r11.1.Func.toNat default++ByteArray.mk #[(123:UInt8)]++r10++ByteArray.mk #[(125:UInt8),(32:UInt8)]++zdJ.2.getD (IntKind.i64.wrap (r11.1.Op - 5)).toNat default++ByteArray.mk #[(32:UInt8)]).size+r9.size≤9223372036854775807)) (.i (decide ((ByteArray.mk #[(116:UInt8),(101:UInt8),(115:UInt8),(116:UInt8),(91:UInt8)]++zb8.2.getD r11.1.Func.toNat default++ByteArray.mk #[(123:UInt8)]++r10++ByteArray.mk #[(125:UInt8),(32:UInt8)]++zdJ.2.getD (IntKind.i64.wrap (r11.1.Op - 5)).toNat default++ByteArray.mk #[(32:UInt8)]++r9).size+(ByteArray.mk #[(93:UInt8)]).size≤9223372036854775807)) (.k (ByteArray.mk #[(116:UInt8),(101:UInt8),(115:UInt8),(116:UInt8),(91:UInt8)]++zb8.2.getD r11.1.Func.toNat default++ByteArray.mk #[(123:UInt8)]++r10++ByteArray.mk #[(125:UInt8),(32:UInt8)]++zdJ.2.getD (IntKind.i64.wrap (r11.1.Op - 5)).toNat default++ByteArray.mk #[(32:UInt8)]++r9++ByteArray.mk #[(93:UInt8)])) .d) .d) .d) .d) .d) .d) .d) .d) .d) .d))))
def zi4 (zbx:yC→Bool×ByteArray) (x_:At):=(zy7 zbx x_).fin default
theorem zFf (zbx:yC→Bool×ByteArray) (zVF:Sound Tryz.prog zbP 196 (zu0 zbx)):Sound Tryz.prog zbP 167 (zme (zi4 zbx)):=
 sU (cx':=(zxP zbx)) (zi ⟨zzF,zVf.nodr,zVF,zWZ,zJi.nodr,zJf.nodr,trivial⟩) call167 func167 (lOK (aC (zGa zbx) aN))
abbrev zjm:=Unit×yD×Int×Int×Unit
abbrev zjk:=List ByteArray×Unit
def zfj (zbi:At→Bool×ByteArray) (t7:yD) (t8:Int) (t9:Int) (out_:List ByteArray):Wy zjm zjk (List ByteArray):=.i (decide (t9<t8)) (.i (decide (0≤t9)&&decide (t9<Int.ofNat t7.length)) (.bn (zbi (At.mk (t7.getD t9.toNat default).At.Kind (t7.getD t9.toNat default).At.Row (t7.getD t9.toNat default).At.Ag (t7.getD t9.toNat default).At.Func (t7.getD t9.toNat default).At.Items (t7.getD t9.toNat default).At.Op (t7.getD t9.toNat default).At.Bd)) fun r1=>.i ((t7.getD t9.toNat default).Exp != 1) (.bn (strconv_Itoa (t7.getD t9.toNat default).Exp) fun r0=>.i (decide ((ByteArray.mk #[(94:UInt8)]).size+r0.size≤9223372036854775807)) (.i (decide (r1.size+(ByteArray.mk #[(94:UInt8)]++r0).size≤9223372036854775807)) (.i (decide ((out_.length+[r1++(ByteArray.mk #[(94:UInt8)]++r0)].length)*16≤zK)) (.h ((),t7,t8,(IntKind.i64.wrap (t9+1)),()) ((out_++[r1++(ByteArray.mk #[(94:UInt8)]++r0)]),())) .d) .d) .d) (.i (decide ((out_.length+[r1].length)*16≤zK)) (.h ((),t7,t8,(IntKind.i64.wrap (t9+1)),()) ((out_++[r1]),())) .d)) .d) (.k out_)
def zlY (zbi:At→Bool×ByteArray) (x:zjm) (y:zjk):=zfj zbi x.2.1 x.2.2.1 x.2.2.2.1 y.1
def zuK (zbi:At→Bool×ByteArray) (n:Nat) (t7:yD) (t8:Int) (t9:Int) (out_:List ByteArray):=zH (zlY zbi) default n ((),t7,t8,t9,()) (out_,())
def zD1 (r:List ByteArray):LTree ty:=.done (.exit 0) [.own 128] [.arr 9 r false]
def zFj:LL ty zjm:=za (zd3 128) (za (lSl 69) (za zj (za zj zn)))
def zFm:BL ty zjk:=zed 9 false (zbl)
def zED (x:zjm) (y:zjk):Nat:=(x.2.1.length+Int.toNat x.2.2.1+Int.toNat x.2.2.2.1+y.1.length+1)
def zuJ (zbi:At→Bool×ByteArray):=zb5 zbP 32 [(167,(zme zbi)),(168,zBH),(169,zu1)] [] [(3,[(3,.own 9),(7,.keep),(8,.keep),(9,.keep)])] [(3,1,(kpL [3]))] [(3,spW zFj zFm (zlY zbi) default zD1 zED)] []
theorem zDY (zbi:At→Bool×ByteArray):zM (zuJ zbi) (lp (body f139) 0):=zw (id:=3) (hl:=rfl)
def zvG (zbi:At→Bool×ByteArray) (l:yD):Wy0 (ByteArray):=.bn (zuK zbi (l.length+(Int.ofNat l.length).toNat +Int.toNat 0+0+1) l (Int.ofNat l.length) 0 []) fun r5=>.bn (strings_Join r5 (ByteArray.mk #[(42:UInt8)])) fun r4=>.k r4
def zgs (zbi:At→Bool×ByteArray) (l:yD):=(zvG zbi l).fin default
theorem zCJ (zbi:At→Bool×ByteArray) (zKm:Sound Tryz.prog zbP 167 (zme zbi)):Sound Tryz.prog zbP 139 (zgq (zgs zbi)):=
 sU (cx':=(zuJ zbi)) (zi ⟨zKm,zG6.nodr,zzF,trivial⟩) call139 func139 (lOK (aC (zDY zbi) aN))
abbrev ztm:=Unit×yC×Int×Int×Unit
abbrev ztN:=List ByteArray×Unit
def zlt (zY:yD→Bool×ByteArray) (t9:yC) (t10:Int) (t11:Int) (out_:List ByteArray):Wy ztm ztN (List ByteArray):=.i (decide (t11<t10)) (.i (decide (0≤t11)&&decide (t11<Int.ofNat t9.length)) (.i (Int.ofNat (t9.getD t11.toNat default).Fs.length==0) (.bn (zjb (t9.getD t11.toNat default).Cf 10) fun r0=>.i (decide ((out_.length+[r0].length)*16≤zK)) (.h ((),t9,t10,(IntKind.i64.wrap (t11+1)),()) ((out_++[r0]),())) .d) (.i ((t9.getD t11.toNat default).Cf==1) (.bn (zY (t9.getD t11.toNat default).Fs) fun r1=>.i (decide ((out_.length+[r1].length)*16≤zK)) (.h ((),t9,t10,(IntKind.i64.wrap (t11+1)),()) ((out_++[r1]),())) .d) (.bn (zjb (t9.getD t11.toNat default).Cf 10) fun r3=>.i (decide (r3.size+(ByteArray.mk #[(42:UInt8)]).size≤9223372036854775807)) (.bn (zY (t9.getD t11.toNat default).Fs) fun r2=>.i (decide ((r3++ByteArray.mk #[(42:UInt8)]).size+r2.size≤9223372036854775807)) (.i (decide ((out_.length+[r3++ByteArray.mk #[(42:UInt8)]++r2].length)*16≤zK)) (.h ((),t9,t10,(IntKind.i64.wrap (t11+1)),()) ((out_++[r3++ByteArray.mk #[(42:UInt8)]++r2]),())) .d) .d) .d))) .d) (.k out_)
def zwZ (zY:yD→Bool×ByteArray) (x:ztm) (y:ztN):=zlt zY x.2.1 x.2.2.1 x.2.2.2.1 y.1
def zEh (zY:yD→Bool×ByteArray) (n:Nat) (t9:yC) (t10:Int) (t11:Int) (out_:List ByteArray):=zH (zwZ zY) default n ((),t9,t10,t11,()) (out_,())
def zRw (r:List ByteArray):LTree ty:=.done (.exit 0) [.own 200] [.arr 9 r false]
def zSS:LL ty ztm:=za (zd3 200) (za (lSl 28) (za zj (za zj zn)))
def zSP:BL ty ztN:=zed 9 false (zbl)
def zSg (x:ztm) (y:ztN):Nat:=(x.2.1.length+Int.toNat x.2.2.1+Int.toNat x.2.2.2.1+y.1.length+1)
def zES (zY:yD→Bool×ByteArray):=zb5 zbP 50 [(139,(zgq zY)),(169,zu1),(227,zus)] [] [(5,[(3,.own 9),(9,.keep),(10,.keep),(11,.keep)])] [(5,1,(kpL [3]))] [(5,spW zSS zSP (zwZ zY) default zRw zSg)] []
theorem zR4 (zY:yD→Bool×ByteArray):zM (zES zY) (lp (body f196) 0):=zw (id:=5) (hl:=rfl)
def zFF (zY:yD→Bool×ByteArray) (a:yC):Wy0 (ByteArray):=.i (Int.ofNat a.length==0) (.k (ByteArray.mk #[(48:UInt8)])) (.bn (zEh zY (a.length+(Int.ofNat a.length).toNat +Int.toNat 0+0+1) a (Int.ofNat a.length) 0 []) fun r9=>.bn (strings_Join r9 (ByteArray.mk #[(32:UInt8),(43:UInt8),(32:UInt8)])) fun r8=>.k r8)
def zoP (zY:yD→Bool×ByteArray) (a:yC):=(zFF zY a).fin default
theorem zNw (zY:yD→Bool×ByteArray) (zFR:Sound Tryz.prog zbP 139 (zgq zY)):Sound Tryz.prog zbP 196 (zu0 (zoP zY)):=
 sU (cx':=(zES zY)) (zi ⟨zFR,zzF,zBd.nodr,trivial⟩) call196 func196 (lOK (aC (zR4 zY) aN))
def zGg:Nat→(yC→Bool×ByteArray)×(At→Bool×ByteArray)×(yD→Bool×ByteArray)
 | 0=>(fun _=>(false,default),fun _=>(false,default),fun _=>(false,default))
 | n+1=>(zoP ((zGg n).2.2),zi4 ((zGg n).1),zgs ((zGg n).2.1))
def zu6 (n:Nat):yC→Bool×ByteArray:=(zGg n).1
def zl3 (n:Nat):At→Bool×ByteArray:=(zGg n).2.1
def zgy (n:Nat):yD→Bool×ByteArray:=(zGg n).2.2
theorem zSv (n:Nat):zu6 (n+1)=zoP (zgy n):=rfl
theorem zJe (n:Nat):zl3 (n+1)=zi4 (zu6 n):=rfl
theorem zFg (n:Nat):zgy (n+1)=zgs (zl3 n):=rfl
theorem z30:∀ n,Sound Tryz.prog zbP 196 (zu0 (zu6 n))∧Sound Tryz.prog zbP 167 (zme (zl3 n))∧Sound Tryz.prog zbP 139 (zgq (zgy n))
 | 0=>⟨z8 call196 (fun _=>rfl),z8 call167 (fun _=>rfl),z8 call139 (fun _=>rfl)⟩
 | n+1=>by
  have ih:=z30 n;exact ⟨zNw _ (ih.2.2),zFf _ (ih.1),zCJ _ (ih.2.1)⟩
def zqP:yD→Bool×ByteArray:=zgy 1000
def zuI:Ab.Spec ty:=zgq zqP
theorem zEu:Sound Tryz.prog zbP 139 zuI:=(z30 1000).2.2
def zlC (x:yC) (a b lim:Int):Bool×yC:=z5T zb3 x a b lim
def zAR:Ab.Spec ty:=zh (cx:=base) (zd (zlZ 28) (zd (ze (zhQ .i64)) (zd (ze (zhQ .i64)) (zd (ze (zhQ .i64)) (zd (ze (vFn 63 zbW)) zr))))) fun x=>((zlC x.1 x.2.1 x.2.2.1 x.2.2.2.1).1,⟨[],[some ⟨28,(zlC x.1 x.2.1 x.2.2.1 x.2.2.2.1).2⟩]⟩)
theorem zBY (c:Unit) (x y:Term) (h:(zb3 x y).1=true):ziN ((AV.agg (base.enc 28 x)::AV.agg (base.enc 28 y)::(zbW:VL base Unit).enc c).map Arg.pure)=some (true,⟨[.pure (.lit (.int .i64 (zb3 x y).2))],[]⟩):=by
 rw [← h]; kernel_rfl
theorem zz1:SdP 155 zAR:=by
 letI:DecidableEq (ty 28):=inferInstanceAs (DecidableEq Term)
 exact zbbY (T:=28) zgL rfl Go.Proofs.Tryz.pdqTerm Tryz.isAgg28 (by unfold zq; exact Tryz.sizeOf28) call155 zlX zbW (fun c=>zb3) zBY
open Go.Proofs Go.RowKit
def zbR (x:yC):Bool×yC:=zz7 zb3 x
def ze3:Ab.Spec ty:=zh (cx:=base) (zd (zlZ 28) (zd (ze (vFn 63 zbW)) zr)) fun x=>((zbR x.1).1,⟨[],[some ⟨28,(zbR x.1).2⟩]⟩)
set_option maxHeartbeats 1000000 in
theorem ztu:SdP 96 ze3 where
 enters:=call96
 calls:=fun avs r hsp w F vs hF ha hsep=>by
  unfold ze3 zh at hsp;split at hsp
  ·rename_i x hx;simp only [qa,qb] at hsp;obtain ⟨hpre,rfl⟩:=hsp;have hk:=(zd (zlZ 28) (zd (ze (vFn 63 zbW)) zr):AL base _).kind vs avs x hx;have ha':=(zd (zlZ 28) (zd (ze (vFn 63 zbW)) zr):AL base _).ok Tryz.prog zgL F w vs avs x hx ha;rw [hk] at hsep ⊢;clear hk hx ha;obtain ⟨l0,c,u0⟩:=x;obtain ⟨l,rfl⟩:∃ l:yC,l=l0:=⟨l0,rfl⟩;obtain ⟨v,vs',rfl,hv,hv'⟩:=ha'.inv;obtain ⟨fv,vs'',rfl,hfv,h0⟩:=hv'.inv;obtain rfl:=h0.nil_left.1
   have hsl:∃ p cap,v=.slice p l.length cap:=by
    obtain ⟨⟨xs,hown,_⟩,_⟩:=(show zcW base F w v 28 l∧∀ b,zbg v=some b→¬ F b from hv)
    rcases hown.2 with ⟨h1,h2⟩ | ⟨g0,cap,cur,h1,_⟩
    ·exact ⟨none,0,by rw [h1,show l.length=0 from h2]⟩
    ·exact ⟨_,cap,h1⟩
   have hok:SortOK (α:=Term) zb3 l:=of_decide_eq_true (p:=SortOK (α:=Term) zb3 l) hpre;have hlen:l.length<4611686018427387904:=hok.size;have hbl:Lib.bitLen l.length<4611686018427387904:=Nat.lt_of_le_of_lt (Lib.bitLen_le l.length 62 (by omega) (by omega)) (by omega)
   have hpp:(zlC l 0 (l.length:Int) ((Lib.bitLen l.length:Nat):Int)).1=true:=by
    show (decide (SortOK (α:=Term) zb3 l)&&(decide ((0:Int)=0)&&(decide ((l.length:Int)=l.length)&&(decide ((0:Int)≤((Lib.bitLen l.length:Nat):Int))&&decide (((Lib.bitLen l.length:Nat):Int)<4611686018427387904)))))=true;simp only [qc,qe];exact ⟨hok,trivial,trivial,by omega,by omega⟩
   have hp:=(zz1).calls [.own 28 l,.pure (.lit (.int .i64 0)),.pure (.lit (.int .i64 (l.length:Int))),.pure (.lit (.int .i64 ((Lib.bitLen l.length:Nat):Int))),.pure (.fn 63 [])] ⟨[],[some ⟨28,(zbR l).2⟩]⟩
    (by rw [← hpp]; kernel_rfl) w F [v,.int .i64 0,.int .i64 (l.length:Int),.int .i64 ((Lib.bitLen l.length:Nat):Int),fv] hF (.cons hv (.cons (Rep.lit _) (.cons (Rep.lit _) (.cons (Rep.lit _) (.cons hfv .nil))))) hsep
   replace hp:Calls Tryz.prog 155 #[v,.int .i64 0,.int .i64 (l.length:Int),.int .i64 ((Lib.bitLen l.length:Nat):Int),fv] w fun e w'=>∃ u,e=.returned u∧Post base F w [v] ⟨[],[some ⟨28,(zbR l).2⟩]⟩ u w':=hp
   show Calls Tryz.prog 96 #[v,fv] w fun e w'=>∃ u,e=.returned u∧Post base F w [v] ⟨[],[some ⟨28,(zbR l).2⟩]⟩ u w'
   have hb:Calls Tryz.prog 156 #[.int .u64 (l.length:Int)] w fun e w'=>e=.returned (.int .i64 ((Lib.bitLen l.length:Nat):Int))∧w'=w:=by
    have h:=Any.bits_Len Go.Proofs.Tryz.lays125 (l.length:Int) w (by omega) (by omega)
    rwa [Int.toNat_natCast] at h
   have wr:IntKind.u64.wrap (l.length:Int)=l.length:=by simp [IntKind.wrap,IntKind.bits,IntKind.signed]; omega
   generalize (zbR l).2=res at hp ⊢;generalize hn:l.length=m at *;generalize Lib.bitLen m=bl at *;clear hpp hv hfv hsep hok hpre hF;obtain ⟨p,cap,rfl⟩:=hsl;clear hn
   go_enter func96,ntmps96
   go_wp2_with (first | (go_at_call 156; refine hb.mono ?_; rintro e w' ⟨rfl,rfl⟩) | (go_at_call 155; refine hp.mono ?_; rintro e w' ⟨u,rfl,hpost⟩; obtain rfl:=hpost.unit))
   go_end0
   exact ⟨_,rfl,hpost⟩
  ·cases hsp
end Go.Proofs.YtljlfiomikifjaaGreatDoor
namespace Go.Proofs.YtljlfiomikifjaaGreatDoor
open Go Go.Ab
open Go.Proofs.Tryz
abbrev zoc:=Unit×Unit×yC×Int×Int×Unit
abbrev znU:=(List (_root_.Go.Value×Int))×yC×Unit
def zkt (t11:yC) (t12:Int) (t13:Int) (at_:List (_root_.Go.Value×Int)) (out_:yC):Wy zoc znU (yC):=.i (decide (t13<t12)) (.i (decide (0≤t13)&&decide (t13<Int.ofNat t11.length)) (.bn (zqP (t11.getD t13.toNat default).Fs) fun r0=>.i (zbcz (Value.string r0) at_) (.i (decide (0≤(zD9 (Value.string r0) at_).getD 0)&&decide ((zD9 (Value.string r0) at_).getD 0<Int.ofNat out_.length)) (.i (decide (0≤(zD9 (Value.string r0) at_).getD 0)&&decide ((zD9 (Value.string r0) at_).getD 0<Int.ofNat out_.length)) (.i (decide (Int.toNat ((zD9 (Value.string r0) at_).getD 0)<out_.length)) (.h ((),(),t11,t12,(IntKind.i64.wrap (t13+1)),()) (at_,(out_.set (Int.toNat ((zD9 (Value.string r0) at_).getD 0)) (TO.mk (if 1152921504606846976<IntKind.i64.wrap ((out_.getD (Int.toNat ((zD9 (Value.string r0) at_).getD 0)) default).Cf+(t11.getD t13.toNat default).Cf) then 1152921504606846976 else IntKind.i64.wrap ((out_.getD (Int.toNat ((zD9 (Value.string r0) at_).getD 0)) default).Cf+(t11.getD t13.toNat default).Cf)) (out_.getD (Int.toNat ((zD9 (Value.string r0) at_).getD 0)) default).Fs)),())) .d) .d) .d) (.i (decide ((out_.length+[t11.getD t13.toNat default].length)*32≤zK)) (.h ((),(),t11,t12,(IntKind.i64.wrap (t13+1)),()) ((zbct (Value.string r0) (Int.ofNat out_.length) at_),(out_++[t11.getD t13.toNat default]),())) .d)) .d) (.k out_)
def zvJ (x:zoc) (y:znU):=zkt x.2.2.1 x.2.2.2.1 x.2.2.2.2.1 y.1 y.2.1
def zvD (n:Nat) (t11:yC) (t12:Int) (t13:Int) (at_:List (_root_.Go.Value×Int)) (out_:yC):=zH (zvJ) default n ((),(),t11,t12,t13,()) (at_,out_,())
def zPe (r:yC):LTree ty:=.done (.exit 0) [.own 208] [.arr 28 r false]
def zQt:LL ty zoc:=za (lMp 208) (za (zd3 209) (za (lSl 28) (za zj (za zj zn))))
def zQ9:BL ty znU:=bMp 9 3 false (zed 28 false (zbl))
def zP8 (x:zoc) (y:znU):Nat:=(x.2.2.1.length+Int.toNat x.2.2.2.1+Int.toNat x.2.2.2.2.1+y.1.length+y.2.1.length+1)
def zDF:=zb5 zbP 52 [(63,ziN),(96,ze3),(139,zuI)] [(96,[true,false])] [(4,[(3,.keep),(4,.own 28),(11,.keep),(12,.keep),(13,.keep)])] [(4,1,(kpL [4]))] [(4,spW zQt zQ9 (zvJ) default zPe zP8)] []
theorem zQp:zM zDF (lp (body f71) 0):=zw (id:=4) (hl:=rfl)
def zD4 (terms:yC):Wy0 (yC):=.bn (zvD (terms.length+(Int.ofNat terms.length).toNat +Int.toNat 0+0+0+1) terms (Int.ofNat terms.length) 0 [] []) fun r3=>.bn (zbR r3) fun r2=>.k r2
def zhL (terms:yC):=(zD4 terms).fin default
def zPo (r:yC):ARes ty:=⟨[.own 28 r],[]⟩
def zsO:=zh z0z fun x=>((zhL x.1).1,zPo (zhL x.1).2)
theorem zAc:Sound Tryz.prog zbP 71 zsO:=
 sU (cx':=zDF) (zi ⟨zlX.nodr,ztu.nodr,zEu,trivial⟩) call71 func71 (lOK (aC zQp aN)) (sg:=⟨[.own 28],[]⟩)
def zmq (F:yC→Bool×yC):Ab.Spec ty:=zh zXg fun x=>((F x.1).1,zPo (F x.1).2)
def zKb (r:At):ARes ty:=⟨[.pure (.agg (base.enc 67 r))],[]⟩
def zl8 (F:At→Bool×At):Ab.Spec ty:=zh zCb fun x=>((F x.1).1,zKb (F x.1).2)
def zeC:Cx ty:={ base with nt:=8 }
def zfb (s:yD):Bool×yD:=(decide (s.length*128≤zK),s)
def zk9:Ab.Spec ty:=zh (cx:=base) (zd (ze (vSl 69)) zr) fun x=>((zfb x.1).1,⟨[.own 69 (zfb x.1).2],[]⟩)
theorem zxD:zgk zeC f95 (body f95) ⟨[.own 69],[]⟩ [.pure (.lit (.slice none 0 0))]=some ⟨[.own 69 []],[]⟩:=by kernel_rfl
theorem zwk (p:Addr) (c:Nat):zgk zeC f95 (body f95) ⟨[.own 69],[]⟩ [.pure (.lit (.slice (some p) 0 c))]=some ⟨[.own 69 []],[]⟩:=by kernel_rfl
theorem zxz (l:yD):zgk zeC f95 (body f95) ⟨[.own 69],[]⟩ [.pure (.sl 69 l)]=bif !l.isEmpty then bif decide ((([]:List (ty 69)).length+l.length)*128≤zK) then some ⟨[.own 69 l],[]⟩ else none else none:=by kernel_rfl
theorem zwb:SdP 95 zk9:=
 zGV (cx':=zeC) (bytes:=128) zEi zgL ⟨⟨rfl,rfl,rfl,rfl,rfl,rfl⟩,rfl⟩ (fun g s h=>by cases h) call95 func95 (c:=body f95) (by kernel_rfl) (zA9 (l:=[]) (by kernel_rfl) trivial) zxD zwk zxz (by kernel_rfl)
abbrev zpb:=Unit×Unit×Unit×yC×Int×Int×Int×Int×Unit
abbrev zpG:=yC×Term×yD×Unit
abbrev zEW:=yC×Int×Int×yC×Term×yD
abbrev zpf:=Unit×yC×Int×Int×Unit
abbrev zpa:=yC×Unit
def zjO (zI:At→Bool×At) (t8:yC) (t9:Int) (t10:Int) (t18:Int) (t19:Int) (out_:yC) (t:Term) (factors:yD):Wy zpb zpG zEW:=.i (decide (t19<t18)) (.i (decide (0≤t19)&&decide (t19<Int.ofNat factors.length)) (.bn (zI (At.mk (factors.getD t19.toNat default).At.Kind (factors.getD t19.toNat default).At.Row (factors.getD t19.toNat default).At.Ag (factors.getD t19.toNat default).At.Func (factors.getD t19.toNat default).At.Items (factors.getD t19.toNat default).At.Op (factors.getD t19.toNat default).At.Bd)) fun r2=>.i (decide (0≤t19)&&decide (t19<Int.ofNat factors.length)) (.i (decide (t19.toNat<factors.length)) (.h ((),(),(),t8,t9,t10,t18,(IntKind.i64.wrap (t19+1)),()) (out_,t,(factors.set t19.toNat (FO.mk (At.mk r2.Kind r2.Row r2.Ag r2.Func r2.Items r2.Op r2.Bd) (factors.getD t19.toNat default).Exp)),())) .d) .d) .d) (.k (t8,t9,t10,out_,t,factors))
def zuB (zI:At→Bool×At) (x:zpb) (y:zpG):=zjO zI x.2.2.2.1 x.2.2.2.2.1 x.2.2.2.2.2.1 x.2.2.2.2.2.2.1 x.2.2.2.2.2.2.2.1 y.1 y.2.1 y.2.2.1
def zCs (zI:At→Bool×At) (n:Nat) (t8:yC) (t9:Int) (t10:Int) (t18:Int) (t19:Int) (out_:yC) (t:Term) (factors:yD):=zH (zuB zI) default n ((),(),(),t8,t9,t10,t18,t19,()) (out_,t,factors,())
def zN4 (r:zEW):LTree ty:=.done (.exit 2) [.own 168,.ptr 169 0,.own 170,.sl 28 r.1,.lit (.int .i64 r.2.1),.lit (.int .i64 r.2.2.1)] [.arr 28 r.2.2.2.1 false,.box (base.enc 28 r.2.2.2.2.1) false,.arr 69 r.2.2.2.2.2 false]
def zQm:LL ty zpb:=za (zd3 168) (za (zft 169 0) (za (zd3 170) (za (lSl 28) (za zj (za zj (za zj (za zj zn)))))))
def zPX:BL ty zpG:=zed 28 false (zjh (zhh (fun x=>(⟨x.1,x.2.1⟩:Term)) (fun x=>(x.Cf,x.Fs,())) (fun _=>rfl) (za (zR .i64) (za (lSl 69) zn))) false (zed 69 false (zbl)))
def zjV (zI:At→Bool×At) (t8:yC) (t9:Int) (t10:Int) (out_:yC):Wy zpf zpa (yC):=.i (decide (t10<t9)) (.i (decide (0≤t10)&&decide (t10<Int.ofNat t8.length)) (.bn (zfb (t8.getD t10.toNat default).Fs) fun r5=>.bn (zCs zI (t8.length+t9.toNat +t10.toNat +(Int.ofNat r5.length).toNat +Int.toNat 0+out_.length+(t8.getD t10.toNat default).Fs.length+r5.length+1) t8 t9 t10 (Int.ofNat r5.length) 0 out_ (t8.getD t10.toNat default) r5) fun r4=>.i (decide ((r4.2.2.2.1.length+[TO.mk r4.2.2.2.2.1.Cf r4.2.2.2.2.2].length)*32≤zK)) (.h ((),(r4.1),(r4.2.1),(IntKind.i64.wrap (r4.2.2.1+1)),()) ((r4.2.2.2.1++[TO.mk r4.2.2.2.2.1.Cf r4.2.2.2.2.2]),())) .d) .d) (.k out_)
def zuh (zI:At→Bool×At) (x:zpf) (y:zpa):=zjV zI x.2.1 x.2.2.1 x.2.2.2.1 y.1
def zB5 (zI:At→Bool×At) (n:Nat) (t8:yC) (t9:Int) (t10:Int) (out_:yC):=zH (zuh zI) default n ((),t8,t9,t10,()) (out_,())
def zNm (r:yC):LTree ty:=.done (.exit 0) [.own 168] [.arr 28 r false]
def zPj:LL ty zpf:=za (zd3 168) (za (lSl 28) (za zj (za zj zn)))
def zPb:BL ty zpa:=zed 28 false (zbl)
def zNp (x:zpb) (y:zpG):Nat:=(x.2.2.2.1.length+Int.toNat x.2.2.2.2.1+Int.toNat x.2.2.2.2.2.1+Int.toNat x.2.2.2.2.2.2.1+Int.toNat x.2.2.2.2.2.2.2.1+y.1.length+y.2.1.Fs.length+y.2.2.1.length+1)
def zNE (x:zpf) (y:zpa):Nat:=(x.2.1.length+Int.toNat x.2.2.1+Int.toNat x.2.2.2.1+y.1.length+1)
def zuf (zI:At→Bool×At):=zb5 base 42 [(95,zk9),(151,(zl8 zI))] [] [(3,[(3,.own 28),(8,.keep),(9,.keep),(10,.keep)]),(7,(kpL [3,5,6,8,9,10,18,19]))] [(3,1,(kpL [3])),(7,3,(kpL [3,5,6,8,9,10]))] [(7,spW zQm zPX (zuB zI) default zN4 zNp),(3,spW zPj zPb (zuh zI) default zNm zNE)] []
theorem zNW (zI:At→Bool×At):zM (zuf zI) (lp (body f87) 1):=zw (id:=7) (hl:=rfl)
theorem zND (zI:At→Bool×At):zM (zuf zI) (lp (body f87) 0):=zw (id:=3) (hl:=rfl)
def zC1 (zI:At→Bool×At) (a:yC):Wy0 (yC):=.bn (zB5 zI (a.length+(Int.ofNat a.length).toNat +Int.toNat 0+0+1) a (Int.ofNat a.length) 0 []) fun r8=>.k r8
def zmh (zI:At→Bool×At) (a:yC):=(zC1 zI a).fin default
theorem zKM (zI:At→Bool×At) (zKP:SdP 151 (zl8 zI)):SdP 87 (zmq (zmh zI)):=
 sT (cx':=(zuf zI)) (zi ⟨zwb,zKP,trivial⟩) call87 func87 (lOK (aC (zND zI) (aC (zNW zI) aN))) (sg:=⟨[.own 28],[]⟩)
def zdm:Cx ty:={ base with nt:=8 }
def zdR (s:yA):Bool×yA:=(decide (s.length*24≤zK),s)
def zhJ:Ab.Spec ty:=zh (cx:=base) (zd (ze (vSl 23)) zr) fun x=>((zdR x.1).1,⟨[.own 23 (zdR x.1).2],[]⟩)
theorem zrS:zgk zdm f181 (body f181) ⟨[.own 23],[]⟩ [.pure (.lit (.slice none 0 0))]=some ⟨[.own 23 []],[]⟩:=by kernel_rfl
theorem zpZ (p:Addr) (c:Nat):zgk zdm f181 (body f181) ⟨[.own 23],[]⟩ [.pure (.lit (.slice (some p) 0 c))]=some ⟨[.own 23 []],[]⟩:=by kernel_rfl
theorem zrs (l:yA):zgk zdm f181 (body f181) ⟨[.own 23],[]⟩ [.pure (.sl 23 l)]=bif !l.isEmpty then bif decide ((([]:List (ty 23)).length+l.length)*24≤zK) then some ⟨[.own 23 l],[]⟩ else none else none:=by kernel_rfl
theorem zp5:SdP 181 zhJ:=
 zGV (cx':=zdm) (bytes:=24) zEi zgL ⟨⟨rfl,rfl,rfl,rfl,rfl,rfl⟩,rfl⟩ (fun g s h=>by cases h) call181 func181 (c:=body f181) (by kernel_rfl) (zA9 (l:=[]) (by kernel_rfl) trivial) zrS zpZ zrs (by kernel_rfl)
def zd0:Cx ty:={ base with nt:=8 }
def zex (s:yE):Bool×yE:=(decide (s.length*56≤zK),s)
def zjJ:Ab.Spec ty:=zh (cx:=base) (zd (ze (vSl 100)) zr) fun x=>((zex x.1).1,⟨[.own 100 (zex x.1).2],[]⟩)
theorem zuT:zgk zd0 f182 (body f182) ⟨[.own 100],[]⟩ [.pure (.lit (.slice none 0 0))]=some ⟨[.own 100 []],[]⟩:=by kernel_rfl
theorem ztC (p:Addr) (c:Nat):zgk zd0 f182 (body f182) ⟨[.own 100],[]⟩ [.pure (.lit (.slice (some p) 0 c))]=some ⟨[.own 100 []],[]⟩:=by kernel_rfl
theorem zuw (l:yE):zgk zd0 f182 (body f182) ⟨[.own 100],[]⟩ [.pure (.sl 100 l)]=bif !l.isEmpty then bif decide ((([]:List (ty 100)).length+l.length)*56≤zK) then some ⟨[.own 100 l],[]⟩ else none else none:=by kernel_rfl
theorem ztL:SdP 182 zjJ:=
 zGV (cx':=zd0) (bytes:=56) zEi zgL ⟨⟨rfl,rfl,rfl,rfl,rfl,rfl⟩,rfl⟩ (fun g s h=>by cases h) call182 func182 (c:=body f182) (by kernel_rfl) (zA9 (l:=[]) (by kernel_rfl) trivial) zuT ztC zuw (by kernel_rfl)
abbrev zdO:=Unit×Unit×Int×Int×Unit
abbrev zli:=(Int×Int×Int×Unit×Int×yE×Int×Int×Int×ByteArray×Unit)×(Int×Int×Int×Unit×Int×Unit×Int×Int×Int×ByteArray×Unit)×yA×Unit
abbrev zzD:=Int×Int×Int×Int×yE×Int×Int×Int×ByteArray×Int×Int×Int×Int×Int×Int×Int×ByteArray×yA
abbrev zle:=(Int×Int×Int×Unit×Int×Unit×Int×Int×Int×ByteArray×Unit)×(Int×Int×Int×Unit×Int×Unit×Int×Int×Int×ByteArray×Unit)×yA×yE×Unit
abbrev zzT:=Int×Int×Int×Int×Int×Int×Int×ByteArray×Int×Int×Int×Int×Int×Int×Int×ByteArray×yA×yE
def zgn (zX:yC→Bool×yC) (t11:Int) (t12:Int) (x_0:Int) (x_1:Int) (x_2:Int) (x_3:Int) (x_4:yE) (x_5:Int) (x_6:Int) (x_7:Int) (x_8:ByteArray) (t2_0:Int) (t2_1:Int) (t2_2:Int) (t2_3:Int) (t2_4:Int) (t2_5:Int) (t2_6:Int) (t2_7:ByteArray) (b2:yA):Wy zdO zli zzD:=.i (decide (t12<t11)) (.i (decide (0≤t12)&&decide (t12<Int.ofNat b2.length)) (.bn (zX (b2.getD t12.toNat default)) fun r0=>.i (decide (0≤t12)&&decide (t12<Int.ofNat b2.length)) (.i (decide (t12.toNat<b2.length)) (.h ((),(),t11,(IntKind.i64.wrap (t12+1)),()) ((x_0,x_1,x_2,(),x_3,x_4,x_5,x_6,x_7,x_8,()),(t2_0,t2_1,t2_2,(),t2_3,(),t2_4,t2_5,t2_6,t2_7,()),(b2.set t12.toNat r0),())) .d) .d) .d) (.k (x_0,x_1,x_2,x_3,x_4,x_5,x_6,x_7,x_8,t2_0,t2_1,t2_2,t2_3,t2_4,t2_5,t2_6,t2_7,b2))
def zog (zX:yC→Bool×yC) (x:zdO) (y:zli):=zgn zX x.2.2.1 x.2.2.2.1 y.1.1 y.1.2.1 y.1.2.2.1 y.1.2.2.2.2.1 y.1.2.2.2.2.2.1 y.1.2.2.2.2.2.2.1 y.1.2.2.2.2.2.2.2.1 y.1.2.2.2.2.2.2.2.2.1 y.1.2.2.2.2.2.2.2.2.2.1 y.2.1.1 y.2.1.2.1 y.2.1.2.2.1 y.2.1.2.2.2.2.1 y.2.1.2.2.2.2.2.2.1 y.2.1.2.2.2.2.2.2.2.1 y.2.1.2.2.2.2.2.2.2.2.1 y.2.1.2.2.2.2.2.2.2.2.2.1 y.2.2.1
def zx2 (zX:yC→Bool×yC) (n:Nat) (t11:Int) (t12:Int) (x_0:Int) (x_1:Int) (x_2:Int) (x_3:Int) (x_4:yE) (x_5:Int) (x_6:Int) (x_7:Int) (x_8:ByteArray) (t2_0:Int) (t2_1:Int) (t2_2:Int) (t2_3:Int) (t2_4:Int) (t2_5:Int) (t2_6:Int) (t2_7:ByteArray) (b2:yA):=zH (zog zX) default n ((),(),t11,t12,()) ((x_0,x_1,x_2,(),x_3,x_4,x_5,x_6,x_7,x_8,()),(t2_0,t2_1,t2_2,(),t2_3,(),t2_4,t2_5,t2_6,t2_7,()),b2,())
def zIi (r:zzD):LTree ty:=.done (.exit 0) [.ptr 200 0,.ptr 201 0] [.box ([.lit (.int .i64 r.1),.lit (.int .i64 r.2.1),.lit (.int .i64 r.2.2.1),.own 202,.lit (.int .i64 r.2.2.2.1),.sl 100 r.2.2.2.2.1,.lit (.int .i64 r.2.2.2.2.2.1),.lit (.int .i64 r.2.2.2.2.2.2.1),.lit (.int .i64 r.2.2.2.2.2.2.2.1),.lit (.string r.2.2.2.2.2.2.2.2.1)]) false,.box ([.lit (.int .i64 r.2.2.2.2.2.2.2.2.2.1),.lit (.int .i64 r.2.2.2.2.2.2.2.2.2.2.1),.lit (.int .i64 r.2.2.2.2.2.2.2.2.2.2.2.1),.lit (.slice none 0 0),.lit (.int .i64 r.2.2.2.2.2.2.2.2.2.2.2.2.1),.lit (.slice none 0 0),.lit (.int .i64 r.2.2.2.2.2.2.2.2.2.2.2.2.2.1),.lit (.int .i64 r.2.2.2.2.2.2.2.2.2.2.2.2.2.2.1),.lit (.int .i64 r.2.2.2.2.2.2.2.2.2.2.2.2.2.2.2.1),.lit (.string r.2.2.2.2.2.2.2.2.2.2.2.2.2.2.2.2.1)]) false,.arr 23 r.2.2.2.2.2.2.2.2.2.2.2.2.2.2.2.2.2 false]
def zIL:LL ty zdO:=za (zft 200 0) (za (zft 201 0) (za zj (za zj zn)))
def zIX:BL ty zli:=zjh (za (zR .i64) (za (zR .i64) (za (zR .i64) (za (zd3 202) (za (zR .i64) (za (lSl 100) (za (zR .i64) (za (zR .i64) (za (zR .i64) (za zrl zn)))))))))) false (zjh (za (zR .i64) (za (zR .i64) (za (zR .i64) (za zbcX (za (zR .i64) (za zbcX (za (zR .i64) (za (zR .i64) (za (zR .i64) (za zrl zn)))))))))) false (zed 23 false (zbl)))
def zgt (zX:yC→Bool×yC) (t32:Int) (t33:Int) (x_0:Int) (x_1:Int) (x_2:Int) (x_3:Int) (x_4:Int) (x_5:Int) (x_6:Int) (x_7:ByteArray) (t2_0:Int) (t2_1:Int) (t2_2:Int) (t2_3:Int) (t2_4:Int) (t2_5:Int) (t2_6:Int) (t2_7:ByteArray) (b2:yA) (b3:yE):Wy zdO zle zzT:=.i (decide (t33<t32)) (.i (decide (0≤t33)&&decide (t33<Int.ofNat b3.length)) (.bn (zX (b3.getD t33.toNat default).Ann) fun r2=>.i (decide (0≤t33)&&decide (t33<Int.ofNat b3.length)) (.i (decide (t33.toNat<b3.length)) (.h ((),(),t32,(IntKind.i64.wrap (t33+1)),()) ((x_0,x_1,x_2,(),x_3,(),x_4,x_5,x_6,x_7,()),(t2_0,t2_1,t2_2,(),t2_3,(),t2_4,t2_5,t2_6,t2_7,()),b2,(b3.set t33.toNat (WO.mk (b3.getD t33.toNat default).Value r2)),())) .d) .d) .d) (.k (x_0,x_1,x_2,x_3,x_4,x_5,x_6,x_7,t2_0,t2_1,t2_2,t2_3,t2_4,t2_5,t2_6,t2_7,b2,b3))
def zoz (zX:yC→Bool×yC) (x:zdO) (y:zle):=zgt zX x.2.2.1 x.2.2.2.1 y.1.1 y.1.2.1 y.1.2.2.1 y.1.2.2.2.2.1 y.1.2.2.2.2.2.2.1 y.1.2.2.2.2.2.2.2.1 y.1.2.2.2.2.2.2.2.2.1 y.1.2.2.2.2.2.2.2.2.2.1 y.2.1.1 y.2.1.2.1 y.2.1.2.2.1 y.2.1.2.2.2.2.1 y.2.1.2.2.2.2.2.2.1 y.2.1.2.2.2.2.2.2.2.1 y.2.1.2.2.2.2.2.2.2.2.1 y.2.1.2.2.2.2.2.2.2.2.2.1 y.2.2.1 y.2.2.2.1
def zxK (zX:yC→Bool×yC) (n:Nat) (t32:Int) (t33:Int) (x_0:Int) (x_1:Int) (x_2:Int) (x_3:Int) (x_4:Int) (x_5:Int) (x_6:Int) (x_7:ByteArray) (t2_0:Int) (t2_1:Int) (t2_2:Int) (t2_3:Int) (t2_4:Int) (t2_5:Int) (t2_6:Int) (t2_7:ByteArray) (b2:yA) (b3:yE):=zH (zoz zX) default n ((),(),t32,t33,()) ((x_0,x_1,x_2,(),x_3,(),x_4,x_5,x_6,x_7,()),(t2_0,t2_1,t2_2,(),t2_3,(),t2_4,t2_5,t2_6,t2_7,()),b2,b3,())
def zG8 (r:zzT):LTree ty:=.done (.exit 2) [.ptr 200 0,.ptr 201 0] [.box ([.lit (.int .i64 r.1),.lit (.int .i64 r.2.1),.lit (.int .i64 r.2.2.1),.own 202,.lit (.int .i64 r.2.2.2.1),.own 203,.lit (.int .i64 r.2.2.2.2.1),.lit (.int .i64 r.2.2.2.2.2.1),.lit (.int .i64 r.2.2.2.2.2.2.1),.lit (.string r.2.2.2.2.2.2.2.1)]) false,.box ([.lit (.int .i64 r.2.2.2.2.2.2.2.2.1),.lit (.int .i64 r.2.2.2.2.2.2.2.2.2.1),.lit (.int .i64 r.2.2.2.2.2.2.2.2.2.2.1),.lit (.slice none 0 0),.lit (.int .i64 r.2.2.2.2.2.2.2.2.2.2.2.1),.lit (.slice none 0 0),.lit (.int .i64 r.2.2.2.2.2.2.2.2.2.2.2.2.1),.lit (.int .i64 r.2.2.2.2.2.2.2.2.2.2.2.2.2.1),.lit (.int .i64 r.2.2.2.2.2.2.2.2.2.2.2.2.2.2.1),.lit (.string r.2.2.2.2.2.2.2.2.2.2.2.2.2.2.2.1)]) false,.arr 23 r.2.2.2.2.2.2.2.2.2.2.2.2.2.2.2.2.1 false,.arr 100 r.2.2.2.2.2.2.2.2.2.2.2.2.2.2.2.2.2 false]
def zIA:BL ty zle:=zjh (za (zR .i64) (za (zR .i64) (za (zR .i64) (za (zd3 202) (za (zR .i64) (za (zd3 203) (za (zR .i64) (za (zR .i64) (za (zR .i64) (za zrl zn)))))))))) false (zjh (za (zR .i64) (za (zR .i64) (za (zR .i64) (za zbcX (za (zR .i64) (za zbcX (za (zR .i64) (za (zR .i64) (za (zR .i64) (za zrl zn)))))))))) false (zed 23 false (zed 100 false (zbl))))
def zHt (x:zdO) (y:zli):Nat:=(Int.toNat x.2.2.1+Int.toNat x.2.2.2.1+Int.toNat y.1.1+Int.toNat y.1.2.1+Int.toNat y.1.2.2.1+Int.toNat y.1.2.2.2.2.1+y.1.2.2.2.2.2.1.length+Int.toNat y.1.2.2.2.2.2.2.1+Int.toNat y.1.2.2.2.2.2.2.2.1+Int.toNat y.1.2.2.2.2.2.2.2.2.1+y.1.2.2.2.2.2.2.2.2.2.1.size+Int.toNat y.2.1.1+Int.toNat y.2.1.2.1+Int.toNat y.2.1.2.2.1+Int.toNat y.2.1.2.2.2.2.1+Int.toNat y.2.1.2.2.2.2.2.2.1+Int.toNat y.2.1.2.2.2.2.2.2.2.1+Int.toNat y.2.1.2.2.2.2.2.2.2.2.1+y.2.1.2.2.2.2.2.2.2.2.2.1.size+y.2.2.1.length+1)
def zHf (x:zdO) (y:zle):Nat:=(Int.toNat x.2.2.1+Int.toNat x.2.2.2.1+Int.toNat y.1.1+Int.toNat y.1.2.1+Int.toNat y.1.2.2.1+Int.toNat y.1.2.2.2.2.1+Int.toNat y.1.2.2.2.2.2.2.1+Int.toNat y.1.2.2.2.2.2.2.2.1+Int.toNat y.1.2.2.2.2.2.2.2.2.1+y.1.2.2.2.2.2.2.2.2.2.1.size+Int.toNat y.2.1.1+Int.toNat y.2.1.2.1+Int.toNat y.2.1.2.2.1+Int.toNat y.2.1.2.2.2.2.1+Int.toNat y.2.1.2.2.2.2.2.2.1+Int.toNat y.2.1.2.2.2.2.2.2.2.1+Int.toNat y.2.1.2.2.2.2.2.2.2.2.1+y.2.1.2.2.2.2.2.2.2.2.2.1.size+y.2.2.1.length+y.2.2.2.1.length+1)
def zoq (zX:yC→Bool×yC):=zb5 base 50 [(87,(zmq zX)),(181,zhJ),(182,zjJ)] [] [(3,(kpL [1,2,11,12])),(9,(kpL [1,2,32,33]))] [(3,1,(kpL [1,2])),(9,3,(kpL [1,2]))] [(3,spW zIL zIX (zog zX) default zIi zHt),(9,spW zIL zIA (zoz zX) default zG8 zHf)] []
theorem zIe (zX:yC→Bool×yC):zM (zoq zX) (lp (body f151) 0):=zw (id:=3) (hl:=rfl)
theorem zHQ (zX:yC→Bool×yC):zM (zoq zX) (lp (body f151) 1):=zw (id:=9) (hl:=rfl)
def zyU (zX:yC→Bool×yC) (x_:At):Wy0 (At):=.bn (zdR x_.Ag) fun r7=>.bn (zx2 zX ((Int.ofNat r7.length).toNat +Int.toNat 0+x_.Kind.toNat +x_.Row.Table.toNat +x_.Row.Seq.toNat +x_.Func.toNat +x_.Items.length+x_.Op.toNat +x_.Bd.Kind.toNat +x_.Bd.Int.toNat +x_.Bd.Text.size+Int.toNat 0+Int.toNat 0+Int.toNat 0+Int.toNat 0+Int.toNat 0+Int.toNat 0+Int.toNat 0+(ByteArray.mk #[]).size+r7.length+1) (Int.ofNat r7.length) 0 x_.Kind x_.Row.Table x_.Row.Seq x_.Func x_.Items x_.Op x_.Bd.Kind x_.Bd.Int x_.Bd.Text 0 0 0 0 0 0 0 (ByteArray.mk #[]) r7) fun r6=>.bn (zex r6.2.2.2.2.1) fun r5=>.bn (zxK zX ((Int.ofNat r5.length).toNat +Int.toNat 0+r6.1.toNat +r6.2.1.toNat +r6.2.2.1.toNat +r6.2.2.2.1.toNat +r6.2.2.2.2.2.1.toNat +r6.2.2.2.2.2.2.1.toNat +r6.2.2.2.2.2.2.2.1.toNat +r6.2.2.2.2.2.2.2.2.1.size+r6.2.2.2.2.2.2.2.2.2.1.toNat +r6.2.2.2.2.2.2.2.2.2.2.1.toNat +r6.2.2.2.2.2.2.2.2.2.2.2.1.toNat +r6.2.2.2.2.2.2.2.2.2.2.2.2.1.toNat +r6.2.2.2.2.2.2.2.2.2.2.2.2.2.1.toNat +r6.2.2.2.2.2.2.2.2.2.2.2.2.2.2.1.toNat +r6.2.2.2.2.2.2.2.2.2.2.2.2.2.2.2.1.toNat +r6.2.2.2.2.2.2.2.2.2.2.2.2.2.2.2.2.1.size+r6.2.2.2.2.2.2.2.2.2.2.2.2.2.2.2.2.2.length+r5.length+1) (Int.ofNat r5.length) 0 r6.1 r6.2.1 r6.2.2.1 r6.2.2.2.1 r6.2.2.2.2.2.1 r6.2.2.2.2.2.2.1 r6.2.2.2.2.2.2.2.1 r6.2.2.2.2.2.2.2.2.1 r6.2.2.2.2.2.2.2.2.2.1 r6.2.2.2.2.2.2.2.2.2.2.1 r6.2.2.2.2.2.2.2.2.2.2.2.1 r6.2.2.2.2.2.2.2.2.2.2.2.2.1 r6.2.2.2.2.2.2.2.2.2.2.2.2.2.1 r6.2.2.2.2.2.2.2.2.2.2.2.2.2.2.1 r6.2.2.2.2.2.2.2.2.2.2.2.2.2.2.2.1 r6.2.2.2.2.2.2.2.2.2.2.2.2.2.2.2.2.1 r6.2.2.2.2.2.2.2.2.2.2.2.2.2.2.2.2.2 r5) fun r4=>.k (⟨r4.1,(⟨r4.2.1,r4.2.2.1⟩:RowID),r4.2.2.2.2.2.2.2.2.2.2.2.2.2.2.2.2.1,r4.2.2.2.1,r4.2.2.2.2.2.2.2.2.2.2.2.2.2.2.2.2.2,r4.2.2.2.2.1,(⟨r4.2.2.2.2.2.1,r4.2.2.2.2.2.2.1,r4.2.2.2.2.2.2.2.1⟩:Value)⟩:At)
def zi1 (zX:yC→Bool×yC) (x_:At):=(zyU zX x_).fin default
theorem zFk (zX:yC→Bool×yC) (zQW:SdP 87 (zmq zX)):SdP 151 (zl8 (zi1 zX)):=
 sT (cx':=(zoq zX)) (zi ⟨zQW,zp5,ztL,trivial⟩) call151 func151 (lOK (aC (zIe zX) (aC (zHQ zX) aN)))
def zJ9:Nat→(yC→Bool×yC)×(At→Bool×At)
 | 0=>(fun _=>(false,default),fun _=>(false,default))
 | n+1=>(zmh ((zJ9 n).2),zi1 ((zJ9 n).1))
def zmg (n:Nat):yC→Bool×yC:=(zJ9 n).1
def zl2 (n:Nat):At→Bool×At:=(zJ9 n).2
theorem zP5 (n:Nat):zmg (n+1)=zmh (zl2 n):=rfl
theorem zIJ (n:Nat):zl2 (n+1)=zi1 (zmg n):=rfl
theorem zX1:∀ n,SdP 87 (zmq (zmg n))∧SdP 151 (zl8 (zl2 n))
 | 0=>⟨z8 call87 (fun _=>rfl),z8 call151 (fun _=>rfl)⟩
 | n+1=>by
  have ih:=zX1 n;exact ⟨zKM _ (ih.2),zFk _ (ih.1)⟩
def zgM:yC→Bool×yC:=zmg 1000
def zgI:Ab.Spec ty:=zmq zgM
theorem zi7:SdP 87 zgI:=(zX1 1000).1
def zQG:=zbq base 9 [(62,zuj),(87,zgI)]
def zD7 (a:yC):Wy0 (yC×Int):=.bn (zlE a) fun r1=>.i (!r1) (.k ([],6)) (.bn (zgM a) fun r0=>.k (r0,0))
def zeu (a:yC):=(zD7 a).fin default
def zeM:=zh zXg fun x=>((zeu x.1).1,zPN (zeu x.1).2)
theorem zfN:SdP 70 zeM:=
 sT (cx':=zQG) (zi ⟨zBu,zi7,trivial⟩) call70 func70 (lOK aN) (sg:=⟨[.own 28,.pure],[]⟩)
def zyJ:=zbq base 27 []
def zmQ (n_:Int):Wy0 (yC):=.i (decide (n_<0)) .d (.i (decide (IntKind.i64.wrap (n_ - IntKind.i64.wrap (0 - 0))>0)) (.i (decide (0<IntKind.i64.wrap (n_ - IntKind.i64.wrap (0 - 0)))&&(decide (IntKind.i64.wrap (n_ - IntKind.i64.wrap (0 - 0))*Int.ofNat 32≤Int.ofNat zK)&&(decide (IntKind.i64.wrap (n_ - IntKind.i64.wrap (0 - 0))≤Int.ofNat zK)&& !Nat.beq 2 0))) (.k (List.take (Int.toNat 0 - Int.toNat 0) (List.replicate (IntKind.i64.wrap (n_ - IntKind.i64.wrap (0 - 0))).toNat (TO.mk 0 [])))) .d) (.k []))
def zd2 (n_:Int):=(zmQ n_).fin default
def zzz:AL base (Unit×Int×Unit):=zd (ze zbfn) (zd (ze zhl) zr)
def zln:=zh zzz fun x=>((zd2 x.2.1).1,zPo (zd2 x.2.1).2)
theorem zws:SdP 140 zln:=
 sT (cx':=zyJ) (zi trivial) call140 func140 (lOK aN) (sg:=⟨[.own 28],[]⟩)
abbrev zeW:=yA×Int×yA×Int×Int×Unit
abbrev zne:=yA×Int
abbrev zeU:=Unit×yA×Int×Int×Unit
abbrev zeP:=yC×Unit
def zc7 (slices:yA) (size:Int) (t9:yA) (t10:Int) (t11:Int):Wy zeW (Unit) zne:=.i (decide (t11<t10)) (.i (decide (0≤t11)&&decide (t11<Int.ofNat t9.length)) (.i (decide (IntKind.i64.wrap (size+Int.ofNat (List.length (t9.getD t11.toNat default)))<0)) .d (.h (slices,(IntKind.i64.wrap (size+Int.ofNat (List.length (t9.getD t11.toNat default)))),t9,t10,(IntKind.i64.wrap (t11+1)),()) ())) .d) (.k (slices,size))
def zgc (x:zeW) (y:Unit):=zc7 x.1 x.2.1 x.2.2.1 x.2.2.2.1 x.2.2.2.2.1
def zk6 (n:Nat) (slices:yA) (size:Int) (t9:yA) (t10:Int) (t11:Int):=zH (zgc) default n (slices,size,t9,t10,t11,()) ()
def zwn (r:zne):LTree ty:=.done (.exit 0) [.sl 23 r.1,.lit (.int .i64 r.2)] []
def zw3:LL ty zeW:=za (lSl 23) (za zj (za (lSl 23) (za zj (za zj zn))))
def zc0 (t25:yA) (t26:Int) (t27:Int) (newslice:yC):Wy zeU zeP (yC):=.i (decide (t27<t26)) (.i (decide (0≤t27)&&decide (t27<Int.ofNat t25.length)) (.i (decide ((newslice.length+List.length (t25.getD t27.toNat default))*32≤zK)) (.h ((),t25,t26,(IntKind.i64.wrap (t27+1)),()) ((newslice++t25.getD t27.toNat default),())) .d) .d) (.k newslice)
def zfV (x:zeU) (y:zeP):=zc0 x.2.1 x.2.2.1 x.2.2.2.1 y.1
def zkU (n:Nat) (t25:yA) (t26:Int) (t27:Int) (newslice:yC):=zH (zfV) default n ((),t25,t26,t27,()) (newslice,())
def zvP (r:yC):LTree ty:=.done (.exit 2) [.own 144] [.arr 28 r false]
def zwq:LL ty zeU:=za (zd3 144) (za (lSl 23) (za zj (za zj zn)))
def zwo:BL ty zeP:=zed 28 false (zbl)
def zwt (x:zeW) (y:Unit):Nat:=(x.1.length+Int.toNat x.2.1+x.2.2.1.length+Int.toNat x.2.2.2.1+Int.toNat x.2.2.2.2.1+1)
def zv8 (x:zeU) (y:zeP):Nat:=(x.2.1.length+Int.toNat x.2.2.1+Int.toNat x.2.2.2.1+y.1.length+1)
def zgb:=zb5 base 36 [(140,zln)] [] [(3,(kpL [0,3,9,10,11])),(11,(kpL [6,25,26,27]))] [(3,1,(kpL [0,3])),(11,3,(kpL [6]))] [(3,spW zw3 z7V (zgc) default zwn zwt),(11,spW zwq zwo (zfV) default zvP zv8)] [140]
theorem zwm:zM zgb (lp (body f72) 0):=zw (id:=3) (hl:=rfl)
theorem zv2:zM zgb (lp (body f72) 1):=zw (id:=11) (hl:=rfl)
def zlM (slices:yA):Wy0 (yC):=.bn (zk6 (slices.length+Int.toNat 0+slices.length+(Int.ofNat slices.length).toNat +Int.toNat 0+1) slices 0 slices (Int.ofNat slices.length) 0) fun r2=>.bn (zd2 r2.2) fun r1=>.bn (zkU (r2.1.length+(Int.ofNat r2.1.length).toNat +Int.toNat 0+r1.length+1) r2.1 (Int.ofNat r2.1.length) 0 r1) fun r0=>.k r0
def zdE (slices:yA):=(zlM slices).fin default
def zx0:AL base (yA×Unit):=zd (ze (vSl 23)) zr
def zko:=zh zx0 fun x=>((zdE x.1).1,zPo (zdE x.1).2)
theorem zuS:SdP 72 zko:=
 sT (cx':=zgb) (zi ⟨zws,trivial⟩) call72 func72 (lOK (aC zwm (aC zv2 aN))) (sg:=⟨[.own 28],[]⟩)
def z0l:=zbq zbP 22 [(20,zcb),(70,zeM),(71,zsO),(72,zko)]
def zMa (a:yC) (b:yC):Wy0 (yC×Int):=.bn (zbX a) fun r4=>.i (!r4) (.k ([],1)) (.bn (zbX b) fun r3=>.i (!r3) (.k ([],1)) (.bn (zdE [a,b]) fun r2=>.bn (zhL r2) fun r1=>.bn (zeu r1) fun r0=>.k (r0.1,r0.2)))
def zqw (a:yC) (b:yC):=(zMa a b).fin default
def z1v:AL zbP (yC×yC×Unit):=zd (ze (vSl 28)) (zd (ze (vSl 28)) zr)
def zyB:=zh z1v fun x=>((zqw x.1 x.2.1).1,zPN (zqw x.1 x.2.1).2)
theorem zEe:Sound Tryz.prog zbP 23 zyB:=
 sU (cx':=z0l) (zi ⟨zci.nodr,zfN.nodr,zAc,zuS.nodr,trivial⟩) call23 func23 (lOK aN) (sg:=⟨[.own 28,.pure],[]⟩)
def zV2:=zbq base 9 []
def zIa (n_:Int):Wy0 (yC):=.i (decide (n_<1)) (.k []) (.k [TO.mk (if 1152921504606846976<n_ then 1152921504606846976 else n_) []])
def zrz (n_:Int):=(zIa n_).fin default
def zDr:=zh zZE fun x=>((zrz x.1).1,zPo (zrz x.1).2)
theorem zPG:SdP 149 zDr:=
 sT (cx':=zV2) (zi trivial) call149 func149 (lOK aN) (sg:=⟨[.own 28],[]⟩)
def zzw:=zbq base 27 []
def znp (n_:Int):Wy0 (yD):=.i (decide (n_<0)) .d (.i (decide (IntKind.i64.wrap (n_ - IntKind.i64.wrap (0 - 0))>0)) (.i (decide (0<IntKind.i64.wrap (n_ - IntKind.i64.wrap (0 - 0)))&&(decide (IntKind.i64.wrap (n_ - IntKind.i64.wrap (0 - 0))*Int.ofNat 128≤Int.ofNat zK)&&(decide (IntKind.i64.wrap (n_ - IntKind.i64.wrap (0 - 0))≤Int.ofNat zK)&& !Nat.beq 11 0))) (.k (List.take (Int.toNat 0 - Int.toNat 0) (List.replicate (IntKind.i64.wrap (n_ - IntKind.i64.wrap (0 - 0))).toNat (FO.mk (At.mk 0 (RowID.mk 0 0) [] 0 [] 0 (Value.mk 0 0 (ByteArray.mk #[]))) 0)))) .d) (.k []))
def zeg (n_:Int):=(znp n_).fin default
def zyD (r:yD):ARes ty:=⟨[.own 69 r],[]⟩
def zlP:=zh zzz fun x=>((zeg x.2.1).1,zyD (zeg x.2.1).2)
theorem zw5:SdP 220 zlP:=
 sT (cx':=zzw) (zi trivial) call220 func220 (lOK aN) (sg:=⟨[.own 69],[]⟩)
abbrev zfi:=List (yD)×Int×List (yD)×Int×Int×Unit
abbrev znY:=List (yD)×Int
abbrev zfh:=Unit×List (yD)×Int×Int×Unit
abbrev ze9:=yD×Unit
def zdf (slices:List (yD)) (size:Int) (t9:List (yD)) (t10:Int) (t11:Int):Wy zfi (Unit) znY:=.i (decide (t11<t10)) (.i (decide (0≤t11)&&decide (t11<Int.ofNat t9.length)) (.i (decide (IntKind.i64.wrap (size+Int.ofNat (List.length (t9.getD t11.toNat default)))<0)) .d (.h (slices,(IntKind.i64.wrap (size+Int.ofNat (List.length (t9.getD t11.toNat default)))),t9,t10,(IntKind.i64.wrap (t11+1)),()) ())) .d) (.k (slices,size))
def zgp (x:zfi) (y:Unit):=zdf x.1 x.2.1 x.2.2.1 x.2.2.2.1 x.2.2.2.2.1
def zlO (n:Nat) (slices:List (yD)) (size:Int) (t9:List (yD)) (t10:Int) (t11:Int):=zH (zgp) default n (slices,size,t9,t10,t11,()) ()
def zxk (r:znY):LTree ty:=.done (.exit 0) [.sl 26 r.1,.lit (.int .i64 r.2)] []
def zye:LL ty zfi:=za (lSl 26) (za zj (za (lSl 26) (za zj (za zj zn))))
def zc6 (t25:List (yD)) (t26:Int) (t27:Int) (newslice:yD):Wy zfh ze9 (yD):=.i (decide (t27<t26)) (.i (decide (0≤t27)&&decide (t27<Int.ofNat t25.length)) (.i (decide ((newslice.length+List.length (t25.getD t27.toNat default))*128≤zK)) (.h ((),t25,t26,(IntKind.i64.wrap (t27+1)),()) ((newslice++t25.getD t27.toNat default),())) .d) .d) (.k newslice)
def zgh (x:zfh) (y:ze9):=zc6 x.2.1 x.2.2.1 x.2.2.2.1 y.1
def zlj (n:Nat) (t25:List (yD)) (t26:Int) (t27:Int) (newslice:yD):=zH (zgh) default n ((),t25,t26,t27,()) (newslice,())
def zwg (r:yD):LTree ty:=.done (.exit 2) [.own 144] [.arr 69 r false]
def zxx:LL ty zfh:=za (zd3 144) (za (lSl 26) (za zj (za zj zn)))
def zxj:BL ty ze9:=zed 69 false (zbl)
def zwK (x:zfi) (y:Unit):Nat:=(x.1.length+Int.toNat x.2.1+x.2.2.1.length+Int.toNat x.2.2.2.1+Int.toNat x.2.2.2.2.1+1)
def zwl (x:zfh) (y:ze9):Nat:=(x.2.1.length+Int.toNat x.2.2.1+Int.toNat x.2.2.2.1+y.1.length+1)
def zgo:=zb5 base 36 [(220,zlP)] [] [(3,(kpL [0,3,9,10,11])),(11,(kpL [6,25,26,27]))] [(3,1,(kpL [0,3])),(11,3,(kpL [6]))] [(3,spW zye z7V (zgp) default zxk zwK),(11,spW zxx zxj (zgh) default zwg zwl)] [220]
theorem zw8:zM zgo (lp (body f183) 0):=zw (id:=3) (hl:=rfl)
theorem zwp:zM zgo (lp (body f183) 1):=zw (id:=11) (hl:=rfl)
def zmz (slices:List (yD)):Wy0 (yD):=.bn (zlO (slices.length+Int.toNat 0+slices.length+(Int.ofNat slices.length).toNat +Int.toNat 0+1) slices 0 slices (Int.ofNat slices.length) 0) fun r2=>.bn (zeg r2.2) fun r1=>.bn (zlj (r2.1.length+(Int.ofNat r2.1.length).toNat +Int.toNat 0+r1.length+1) r2.1 (Int.ofNat r2.1.length) 0 r1) fun r0=>.k r0
def zdP (slices:List (yD)):=(zmz slices).fin default
def zyO:AL base (List (yD)×Unit):=zd (ze (vSl 26)) zr
def zkS:=zh zyO fun x=>((zdP x.1).1,zyD (zdP x.1).2)
theorem zvL:SdP 183 zkS:=
 sT (cx':=zgo) (zi ⟨zw5,trivial⟩) call183 func183 (lOK (aC zw8 (aC zwp aN))) (sg:=⟨[.own 69],[]⟩)
abbrev zt3:=yD×yD×Unit×Unit
abbrev ztK:=yD×Unit
abbrev zHR:=yD×yD×yD
def zAb (a:yD) (b:yD) (out_:yD):Wy zt3 ztK zHR:=.i (decide (Int.ofNat a.length>0)) (.i (decide (Int.ofNat b.length>0)) (.i (decide ((0:Int)≤(0:Int))&&decide (0<Int.ofNat a.length)) (.i (decide ((0:Int)≤(0:Int))&&decide (0<Int.ofNat b.length)) (.bn (zi2 (At.mk (a.getD (Int.toNat 0) default).At.Kind (a.getD (Int.toNat 0) default).At.Row (a.getD (Int.toNat 0) default).At.Ag (a.getD (Int.toNat 0) default).At.Func (a.getD (Int.toNat 0) default).At.Items (a.getD (Int.toNat 0) default).At.Op (a.getD (Int.toNat 0) default).At.Bd) (At.mk (b.getD (Int.toNat 0) default).At.Kind (b.getD (Int.toNat 0) default).At.Row (b.getD (Int.toNat 0) default).At.Ag (b.getD (Int.toNat 0) default).At.Func (b.getD (Int.toNat 0) default).At.Items (b.getD (Int.toNat 0) default).At.Op (b.getD (Int.toNat 0) default).At.Bd)) fun r1=>.i (decide (r1<0)) (.i (decide ((0:Int)≤(0:Int))&&decide (0<Int.ofNat a.length)) (.i (decide ((out_.length+[FO.mk (At.mk (a.getD (Int.toNat 0) default).At.Kind (a.getD (Int.toNat 0) default).At.Row (a.getD (Int.toNat 0) default).At.Ag (a.getD (Int.toNat 0) default).At.Func (a.getD (Int.toNat 0) default).At.Items (a.getD (Int.toNat 0) default).At.Op (a.getD (Int.toNat 0) default).At.Bd) (a.getD (Int.toNat 0) default).Exp].length)*128≤zK)) (.i (decide ((0:Int)≤(1:Int))&&decide (1≤Int.ofNat a.length)&&decide (Int.ofNat a.length≤Int.ofNat a.length)) (.h ((List.take ((Int.ofNat a.length).toNat - Int.toNat 1) (List.drop (Int.toNat 1) a)),b,(),()) ((out_++[FO.mk (At.mk (a.getD (Int.toNat 0) default).At.Kind (a.getD (Int.toNat 0) default).At.Row (a.getD (Int.toNat 0) default).At.Ag (a.getD (Int.toNat 0) default).At.Func (a.getD (Int.toNat 0) default).At.Items (a.getD (Int.toNat 0) default).At.Op (a.getD (Int.toNat 0) default).At.Bd) (a.getD (Int.toNat 0) default).Exp]),())) .d) .d) .d) (.i (decide (r1>0)) (.i (decide ((0:Int)≤(0:Int))&&decide (0<Int.ofNat b.length)) (.i (decide ((out_.length+[FO.mk (At.mk (b.getD (Int.toNat 0) default).At.Kind (b.getD (Int.toNat 0) default).At.Row (b.getD (Int.toNat 0) default).At.Ag (b.getD (Int.toNat 0) default).At.Func (b.getD (Int.toNat 0) default).At.Items (b.getD (Int.toNat 0) default).At.Op (b.getD (Int.toNat 0) default).At.Bd) (b.getD (Int.toNat 0) default).Exp].length)*128≤zK)) (.i (decide ((0:Int)≤(1:Int))&&decide (1≤Int.ofNat b.length)&&decide (Int.ofNat b.length≤Int.ofNat b.length)) (.h (a,(List.take ((Int.ofNat b.length).toNat - Int.toNat 1) (List.drop (Int.toNat 1) b)),(),()) ((out_++[FO.mk (At.mk (b.getD (Int.toNat 0) default).At.Kind (b.getD (Int.toNat 0) default).At.Row (b.getD (Int.toNat 0) default).At.Ag (b.getD (Int.toNat 0) default).At.Func (b.getD (Int.toNat 0) default).At.Items (b.getD (Int.toNat 0) default).At.Op (b.getD (Int.toNat 0) default).At.Bd) (b.getD (Int.toNat 0) default).Exp]),())) .d) .d) .d) (.i (decide ((0:Int)≤(0:Int))&&decide (0<Int.ofNat a.length)) (.bn (zfJ (At.mk (a.getD (Int.toNat 0) default).At.Kind (a.getD (Int.toNat 0) default).At.Row (a.getD (Int.toNat 0) default).At.Ag (a.getD (Int.toNat 0) default).At.Func (a.getD (Int.toNat 0) default).At.Items (a.getD (Int.toNat 0) default).At.Op (a.getD (Int.toNat 0) default).At.Bd)) fun r0=>.i (!r0) (.i (decide ((0:Int)≤(0:Int))&&decide (0<Int.ofNat b.length)) (.i (decide ((out_.length+[FO.mk (At.mk (a.getD (Int.toNat 0) default).At.Kind (a.getD (Int.toNat 0) default).At.Row (a.getD (Int.toNat 0) default).At.Ag (a.getD (Int.toNat 0) default).At.Func (a.getD (Int.toNat 0) default).At.Items (a.getD (Int.toNat 0) default).At.Op (a.getD (Int.toNat 0) default).At.Bd) (IntKind.i64.wrap ((a.getD (Int.toNat 0) default).Exp+(b.getD (Int.toNat 0) default).Exp))].length)*128≤zK)) (.i (decide ((0:Int)≤(1:Int))&&decide (1≤Int.ofNat a.length)&&decide (Int.ofNat a.length≤Int.ofNat a.length)) (.i (decide ((0:Int)≤(1:Int))&&decide (1≤Int.ofNat b.length)&&decide (Int.ofNat b.length≤Int.ofNat b.length)) (.h ((List.take ((Int.ofNat a.length).toNat - Int.toNat 1) (List.drop (Int.toNat 1) a)),(List.take ((Int.ofNat b.length).toNat - Int.toNat 1) (List.drop (Int.toNat 1) b)),(),()) ((out_++[FO.mk (At.mk (a.getD (Int.toNat 0) default).At.Kind (a.getD (Int.toNat 0) default).At.Row (a.getD (Int.toNat 0) default).At.Ag (a.getD (Int.toNat 0) default).At.Func (a.getD (Int.toNat 0) default).At.Items (a.getD (Int.toNat 0) default).At.Op (a.getD (Int.toNat 0) default).At.Bd) (IntKind.i64.wrap ((a.getD (Int.toNat 0) default).Exp+(b.getD (Int.toNat 0) default).Exp))]),())) .d) .d) .d) .d) (.i (decide ((out_.length+[FO.mk (At.mk (a.getD (Int.toNat 0) default).At.Kind (a.getD (Int.toNat 0) default).At.Row (a.getD (Int.toNat 0) default).At.Ag (a.getD (Int.toNat 0) default).At.Func (a.getD (Int.toNat 0) default).At.Items (a.getD (Int.toNat 0) default).At.Op (a.getD (Int.toNat 0) default).At.Bd) (a.getD (Int.toNat 0) default).Exp].length)*128≤zK)) (.i (decide ((0:Int)≤(1:Int))&&decide (1≤Int.ofNat a.length)&&decide (Int.ofNat a.length≤Int.ofNat a.length)) (.i (decide ((0:Int)≤(1:Int))&&decide (1≤Int.ofNat b.length)&&decide (Int.ofNat b.length≤Int.ofNat b.length)) (.h ((List.take ((Int.ofNat a.length).toNat - Int.toNat 1) (List.drop (Int.toNat 1) a)),(List.take ((Int.ofNat b.length).toNat - Int.toNat 1) (List.drop (Int.toNat 1) b)),(),()) ((out_++[FO.mk (At.mk (a.getD (Int.toNat 0) default).At.Kind (a.getD (Int.toNat 0) default).At.Row (a.getD (Int.toNat 0) default).At.Ag (a.getD (Int.toNat 0) default).At.Func (a.getD (Int.toNat 0) default).At.Items (a.getD (Int.toNat 0) default).At.Op (a.getD (Int.toNat 0) default).At.Bd) (a.getD (Int.toNat 0) default).Exp]),())) .d) .d) .d)) .d))) .d) .d) (.k (a,b,out_))) (.k (a,b,out_))
def zHA (x:zt3) (y:ztK):=zAb x.1 x.2.1 y.1
def zAv (n:Nat) (a:yD) (b:yD) (out_:yD):=zH (zHA) default n (a,b,(),()) (out_,())
def zVR (r:zHR):LTree ty:=.done (.exit 0) [.sl 69 r.1,.sl 69 r.2.1,.own 300] [.arr 69 r.2.2 false]
def zWx:LL ty zt3:=za (lSl 69) (za (lSl 69) (za (zd3 300) zn))
def zWG:BL ty ztK:=zed 69 false (zbl)
def zVh (x:zt3) (y:ztK):Nat:=(x.1.length+x.2.1.length+y.1.length+1)
def zHu:=zb5 base 75 [(64,zj5),(65,zmJ),(183,zkS)] [] [(2,[(0,.keep),(1,.keep),(5,.own 69)])] [(2,1,(kpL [0,1,5]))] [(2,spW zWx zWG (zHA) default zVR zVh)] []
theorem zVd:zM zHu (lp (body f154) 0):=zw (id:=2) (hl:=rfl)
def zJB (a:yD) (b:yD):Wy0 (yD):=.bn (zAv (a.length+b.length+0+1) a b []) fun r5=>.bn (zdP [r5.2.2,r5.1,r5.2.1]) fun r4=>.k r4
def znT (a:yD) (b:yD):=(zJB a b).fin default
def zZ4:AL base (yD×yD×Unit):=zd (ze (vSl 69)) (zd (ze (vSl 69)) zr)
def zEH:=zh zZ4 fun x=>((znT x.1 x.2.1).1,zyD (znT x.1 x.2.1).2)
theorem zSi:SdP 154 zEH:=
 sT (cx':=zHu) (zi ⟨znt,zuM,zvL,trivial⟩) call154 func154 (lOK (aC zVd aN)) (sg:=⟨[.own 69],[]⟩)
def zVo:=zbq base 12 []
def zH9 (a:Int) (b:Int):Wy0 (Int):=.i (!decide (b=0)) (.i (decide (a>IntKind.i64.wrap (Int.tdiv 1152921504606846976 b))) (.k 1152921504606846976) (.k (IntKind.i64.wrap (a*b)))) .d
def zrn (a:Int) (b:Int):=(zH9 a b).fin default
def zDc:=zh zVI fun x=>((zrn x.1 x.2.1).1,zPQ (zrn x.1 x.2.1).2)
theorem zP9:SdP 153 zDc:=
 sT (cx':=zVo) (zi trivial) call153 func153 (lOK aN)
abbrev zva:=yC×Unit×Unit×yC×Int×Int×yC×Int×Int×Unit
abbrev zu7:=yC×Term×Unit
abbrev zJx:=yC×yC×Int×Int×yC
abbrev zu8:=yC×Unit×yC×Int×Int×Unit
abbrev zu4:=yC×Unit
def zoG (b:yC) (t19:yC) (t20:Int) (t21:Int) (t25:yC) (t26:Int) (t27:Int) (terms:yC) (x_:Term):Wy zva zu7 zJx:=.i (decide (t27<t26)) (.i (decide (0≤t27)&&decide (t27<Int.ofNat t25.length)) (.bn (zrn x_.Cf (t25.getD t27.toNat default).Cf) fun r5=>.bn (znT x_.Fs (t25.getD t27.toNat default).Fs) fun r4=>.i (decide ((terms.length+[TO.mk r5 r4].length)*32≤zK)) (.h (b,(),(),t19,t20,t21,t25,t26,(IntKind.i64.wrap (t27+1)),()) ((terms++[TO.mk r5 r4]),x_,())) .d) .d) (.k (b,t19,t20,t21,terms))
def zBS (x:zva) (y:zu7):=zoG x.1 x.2.2.2.1 x.2.2.2.2.1 x.2.2.2.2.2.1 x.2.2.2.2.2.2.1 x.2.2.2.2.2.2.2.1 x.2.2.2.2.2.2.2.2.1 y.1 y.2.1
def zJH (n:Nat) (b:yC) (t19:yC) (t20:Int) (t21:Int) (t25:yC) (t26:Int) (t27:Int) (terms:yC) (x_:Term):=zH (zBS) default n (b,(),(),t19,t20,t21,t25,t26,t27,()) (terms,x_,())
def zYj (r:zJx):LTree ty:=.done (.exit 2) [.sl 28 r.1,.own 208,.sl 28 r.2.1,.lit (.int .i64 r.2.2.1),.lit (.int .i64 r.2.2.2.1)] [.arr 28 r.2.2.2.2 false]
def z0A:LL ty zva:=za (lSl 28) (za (zd3 208) (za (zft 209 0) (za (lSl 28) (za zj (za zj (za (lSl 28) (za zj (za zj zn))))))))
def z0G:BL ty zu7:=zed 28 false (zjh (zhh (fun x=>(⟨x.1,x.2.1⟩:Term)) (fun x=>(x.Cf,x.Fs,())) (fun _=>rfl) (za (zR .i64) (za (lSl 69) zn))) false (zbl))
def zo1 (b:yC) (t19:yC) (t20:Int) (t21:Int) (terms:yC):Wy zu8 zu4 (yC):=.i (decide (t21<t20)) (.i (decide (0≤t21)&&decide (t21<Int.ofNat t19.length)) (.bn (zJH (b.length+t19.length+t20.toNat +t21.toNat +b.length+(Int.ofNat b.length).toNat +Int.toNat 0+terms.length+(t19.getD t21.toNat default).Fs.length+1) b t19 t20 t21 b (Int.ofNat b.length) 0 terms (t19.getD t21.toNat default)) fun r8=>.h ((r8.1),(),(r8.2.1),(r8.2.2.1),(IntKind.i64.wrap (r8.2.2.2.1+1)),()) ((r8.2.2.2.2),())) .d) (.k terms)
def zBC (x:zu8) (y:zu4):=zo1 x.1 x.2.2.1 x.2.2.2.1 x.2.2.2.2.1 y.1
def zBQ (n:Nat) (b:yC) (t19:yC) (t20:Int) (t21:Int) (terms:yC):=zH (zBC) default n (b,(),t19,t20,t21,()) (terms,())
def zZ2:LL ty zu8:=za (lSl 28) (za (zd3 208) (za (lSl 28) (za zj (za zj zn))))
def zZy:BL ty zu4:=zed 28 false (zbl)
def zYy (x:zva) (y:zu7):Nat:=(x.1.length+x.2.2.2.1.length+Int.toNat x.2.2.2.2.1+Int.toNat x.2.2.2.2.2.1+x.2.2.2.2.2.2.1.length+Int.toNat x.2.2.2.2.2.2.2.1+Int.toNat x.2.2.2.2.2.2.2.2.1+y.1.length+y.2.1.Fs.length+1)
def zWH (x:zu8) (y:zu4):Nat:=(x.1.length+x.2.2.1.length+Int.toNat x.2.2.2.1+Int.toNat x.2.2.2.2.1+y.1.length+1)
def zBM:=zb5 zbP 52 [(20,zcb),(70,zeM),(71,zsO),(153,zDc),(154,zEH)] [] [(5,[(1,.keep),(6,.own 28),(19,.keep),(20,.keep),(21,.keep)]),(8,[(1,.keep),(6,.own 28),(8,.keep),(19,.keep),(20,.keep),(21,.keep),(25,.keep),(26,.keep),(27,.keep)])] [(5,1,(kpL [6])),(8,3,(kpL [1,6,19,20,21]))] [(8,spW z0A z0G (zBS) default zYj zYy),(5,spW zZ2 zZy (zBC) default zPe zWH)] []
theorem zYV:zM zBM (lp (body f92) 1):=zw (id:=8) (hl:=rfl)
theorem zYS:zM zBM (lp (body f92) 0):=zw (id:=5) (hl:=rfl)
def zLl (a:yC) (b:yC):Wy0 (yC×Int):=.bn (zbX a) fun r14=>.i (!r14) (.k ([],1)) (.bn (zbX b) fun r13=>.i (!r13) (.k ([],1)) (.bn (zBQ (b.length+a.length+(Int.ofNat a.length).toNat +Int.toNat 0+0+1) b a (Int.ofNat a.length) 0 []) fun r12=>.bn (zhL r12) fun r11=>.bn (zeu r11) fun r10=>.k (r10.1,r10.2)))
def zqu (a:yC) (b:yC):=(zLl a b).fin default
def zyR:=zh z1v fun x=>((zqu x.1 x.2.1).1,zPN (zqu x.1 x.2.1).2)
theorem zDT:Sound Tryz.prog zbP 92 zyR:=
 sU (cx':=zBM) (zi ⟨zci.nodr,zfN.nodr,zAc,zP9.nodr,zSi.nodr,trivial⟩) call92 func92 (lOK (aC zYS (aC zYV aN))) (sg:=⟨[.own 28,.pure],[]⟩)
def zDR:=zbq base 8 []
def zuL (b:Bg) (p1:RowID):Wy0 (Bool):=.k (b.Row.Table==p1.Table&&(b.Row.Seq==p1.Seq&&true))
def zf5 (b:Bg) (p1:RowID):=(zuL b p1).fin default
def zFh:AL base (Bg×RowID×Unit):=zd (ze (zcG 51)) (zd (ze (zzh 49)) zr)
def zkb:=zh zFh fun x=>((zf5 x.1 x.2.1).1,zVj (zf5 x.1 x.2.1).2)
theorem zpT:SdP 86 zkb:=
 sT (cx':=zDR) (zi trivial) call86 func86 (lOK aN)
def zSD:=zbq base 8 []
def zFq (x_:At):Wy0 (yC):=.k [TO.mk 1 [FO.mk (At.mk x_.Kind x_.Row x_.Ag x_.Func x_.Items x_.Op x_.Bd) 1]]
def zfr (x_:At):=(zFq x_).fin default
def zgD:=zh zCb fun x=>((zfr x.1).1,zPo (zfr x.1).2)
theorem ziU:SdP 152 zgD:=
 sT (cx':=zSD) (zi trivial) call152 func152 (lOK aN) (sg:=⟨[.own 28],[]⟩)
def zZv:=zbq base 9 [(128,zu3),(152,zgD)]
def zL7 (id:RowID):Wy0 (yC):=.bn (zqX id) fun r0=>.i (!r0) (.k []) (.k ((zfr (At.mk 0 id [] 0 [] 0 (Value.mk 0 0 (ByteArray.mk #[])))).2))
def zvw (id:RowID):=(zL7 id).fin default
def zFL:=zh z4Y fun x=>((zvw x.1).1,zPo (zvw x.1).2)
theorem zUa:SdP 88 zFL:=
 sT (cx':=zZv) (zi ⟨zAA,ziU,trivial⟩) call88 func88 (lOK aN) (sg:=⟨[.own 28],[]⟩)
abbrev zdY:=yG×(RowID×Unit)×Int×Int×Unit
def zrX (s:yG) (f:RowID) (t7:Int) (t8:Int):Wy zdY (Unit) (Int⊕Unit):=.i (decide (t8<t7)) (.i (decide (0≤t8)&&decide (t8<Int.ofNat s.length)) (.i ((zf5 (s.getD t8.toNat default) f).2) (.k (.inl t8)) (.h (s,(f,()),t7,(IntKind.i64.wrap (t8+1)),()) ())) .d) (.k (.inr ()))
def zis (x:zdY) (y:Unit):=zrX x.1 x.2.1.1 x.2.2.1 x.2.2.2.1
def zrQ (n:Nat) (s:yG) (f:RowID) (t7:Int) (t8:Int):=zH (zis) (.inl default) n (s,(f,()),t7,t8,()) ()
def zrY:LL ty zdY:=za (lSl 51) (za (lFn 86 (za (znx (zhh (fun x=>(⟨x.1,x.2.1⟩:RowID)) (fun x=>(x.Table,x.Seq,())) (fun _=>rfl) (za zj (za zj zn))) 0) zn)) (za zj (za zj zn)))
def zqz (x:zdY) (y:Unit):Nat:=(x.1.length+Int.toNat x.2.2.1+Int.toNat x.2.2.2.1+1)
def ziu:=zb5 base 19 [(86,zkb)] [] [(2,(kpL [0,1,7,8]))] [(2,1,[]),(2,0,(kpL [4]))] [(2,spW zrY z7V (zis) (.inl default) zsk zqz)] []
theorem zq6:zM ziu (lp (body f85) 0):=zw (id:=2) (hl:=rfl)
def zsv (s:yG) (f:RowID):Wy0 (Int):=.bn (zrQ (s.length+(Int.ofNat s.length).toNat +Int.toNat 0+1) s f (Int.ofNat s.length) 0) fun r0=>.i (isL r0) (.k (getL r0)) (.k (-1:Int))
def zcz (s:yG) (f:RowID):=(zsv s f).fin default
def zsT:AL base (yG×(RowID×Unit)×Unit):=zd (ze (vSl 51)) (zd (ze (vFn 86 (zdA (zzh 49) zbW))) zr)
def zhn:=zh zsT fun x=>((zcz x.1 x.2.1.1).1,zPQ (zcz x.1 x.2.1.1).2)
theorem zpi:SdP 85 zhn:=
 sT (cx':=ziu) (zi ⟨zpT,trivial⟩) call85 func85 (lOK (aC zq6 aN))
def zH3:=zbq base 18 [(85,zhn),(86,zkb),(87,zgI),(88,zFL)]
def zxV (id:RowID) (p1:yG):Wy0 (yC):=.bn (zcz p1 id) fun r2=>.i (decide (r2≥0)) (.i (decide (0≤r2)&&decide (r2<Int.ofNat p1.length)) (.bn (zgM (p1.getD r2.toNat default).To) fun r0=>.k r0) .d) (.bn (zvw id) fun r1=>.k r1)
def zhW (id:RowID) (p1:yG):=(zxV id p1).fin default
def zJa:AL base (RowID×(yG×Unit)×Unit):=zd (ze (zcG 49)) (zd (ze (zue (zdA (vSl 51) zbW))) zr)
def zhD:=zh zJa fun x=>((zhW x.1 x.2.1.1).1,zPo (zhW x.1 x.2.1.1).2)
theorem zlo:SdP 84 zhD:=
 sT (cx':=zH3) (zi ⟨zpi,zpT,zi7,zUa,trivial⟩) call84 func84 (lOK aN) (sg:=⟨[.own 28],[]⟩)
abbrev znQ:=((yG×Unit)×Unit)×Unit×Unit×yC×Int×yC×Int×Int×yD×Int×Int×Int×Int×Unit
abbrev zeE:=yC×yC×Unit
abbrev zDz:=yG×Int×yC×Int×Int×yD×Int×Int×yC×yC
abbrev zn2:=((yG×Unit)×Unit)×Unit×Unit×yC×Int×Int×yD×Int×Int×Unit
abbrev zCX:=Int⊕(yG×yC×Int×Int×yC×yC)
abbrev znR:=((yG×Unit)×Unit)×Unit×yC×Int×Int×Unit
abbrev znW:=yC×Unit
abbrev zDm:=Int⊕yC
def zqI (zm:At→yG→Bool×(yC×Int)) (to:yG) (b:yC) (e:Int) (t16:yC) (t17:Int) (t18:Int) (t26:yD) (t27:Int) (t28:Int) (t40:Int) (t41:Int) (sum:yC) (product:yC):Wy znQ zeE zDz:=.i (decide (t41<t40)) (.i (e==0) (.bn (zqu product b) fun r6=>.h (((to,()),()),(),(),b,(r6.2),t16,t17,t18,t26,t27,t28,t40,(IntKind.i64.wrap (t41+1)),()) (sum,(r6.1),())) (.h (((to,()),()),(),(),b,e,t16,t17,t18,t26,t27,t28,t40,(IntKind.i64.wrap (t41+1)),()) (sum,product,()))) (.k (to,e,t16,t17,t18,t26,t27,t28,sum,product))
def zzE (zm:At→yG→Bool×(yC×Int)) (x:znQ) (y:zeE):=zqI zm x.1.1.1 x.2.2.2.1 x.2.2.2.2.1 x.2.2.2.2.2.1 x.2.2.2.2.2.2.1 x.2.2.2.2.2.2.2.1 x.2.2.2.2.2.2.2.2.1 x.2.2.2.2.2.2.2.2.2.1 x.2.2.2.2.2.2.2.2.2.2.1 x.2.2.2.2.2.2.2.2.2.2.2.1 x.2.2.2.2.2.2.2.2.2.2.2.2.1 y.1 y.2.1
def zqK (zm:At→yG→Bool×(yC×Int)) (n:Nat) (to:yG) (b:yC) (e:Int) (t16:yC) (t17:Int) (t18:Int) (t26:yD) (t27:Int) (t28:Int) (t40:Int) (t41:Int) (sum:yC) (product:yC):=zH (zzE zm) default n (((to,()),()),(),(),b,e,t16,t17,t18,t26,t27,t28,t40,t41,()) (sum,product,())
def zKr (r:zDz):LTree ty:=.done (.exit 4) [.fn 84 ([.bptr ([.sl 51 r.1]) 0]),.own 272,.own 273,.lit (.int .i64 r.2.1),.sl 28 r.2.2.1,.lit (.int .i64 r.2.2.2.1),.lit (.int .i64 r.2.2.2.2.1),.sl 69 r.2.2.2.2.2.1,.lit (.int .i64 r.2.2.2.2.2.2.1),.lit (.int .i64 r.2.2.2.2.2.2.2.1)] [.arr 28 r.2.2.2.2.2.2.2.2.1 false,.arr 28 r.2.2.2.2.2.2.2.2.2 false]
def zMP:LL ty znQ:=za (lFn 84 (za (znx (za (lSl 51) zn) 0) zn)) (za (zd3 272) (za (zd3 273) (za (lSl 28) (za zj (za (lSl 28) (za zj (za zj (za (lSl 69) (za zj (za zj (za zj (za zj zn))))))))))))
def zLA:BL ty zeE:=zed 28 false (zed 28 false (zbl))
def zsy (zm:At→yG→Bool×(yC×Int)) (to:yG) (t16:yC) (t17:Int) (t18:Int) (t26:yD) (t27:Int) (t28:Int) (sum:yC) (product:yC):Wy zn2 zeE zCX:=.i (decide (t28<t27)) (.i (decide (0≤t28)&&decide (t28<Int.ofNat t26.length)) (.bn (zm (At.mk (t26.getD t28.toNat default).At.Kind (t26.getD t28.toNat default).At.Row (t26.getD t28.toNat default).At.Ag (t26.getD t28.toNat default).At.Func (t26.getD t28.toNat default).At.Items (t26.getD t28.toNat default).At.Op (t26.getD t28.toNat default).At.Bd) to) fun r9=>.bn (zqK zm (to.length+r9.1.length+r9.2.toNat +t16.length+t17.toNat +t18.toNat +t26.length+t27.toNat +t28.toNat +(t26.getD t28.toNat default).Exp.toNat +Int.toNat 0+sum.length+product.length+1) to r9.1 r9.2 t16 t17 t18 t26 t27 t28 (t26.getD t28.toNat default).Exp 0 sum product) fun r8=>.i (r8.2.1 != 0) (.k (.inl (r8.2.1))) (.h ((((r8.1),()),()),(),(),(r8.2.2.1),(r8.2.2.2.1),(r8.2.2.2.2.1),(r8.2.2.2.2.2.1),(r8.2.2.2.2.2.2.1),(IntKind.i64.wrap (r8.2.2.2.2.2.2.2.1+1)),()) ((r8.2.2.2.2.2.2.2.2.1),(r8.2.2.2.2.2.2.2.2.2),()))) .d) (.k (.inr (to,t16,t17,t18,sum,product)))
def zBh (zm:At→yG→Bool×(yC×Int)) (x:zn2) (y:zeE):=zsy zm x.1.1.1 x.2.2.2.1 x.2.2.2.2.1 x.2.2.2.2.2.1 x.2.2.2.2.2.2.1 x.2.2.2.2.2.2.2.1 x.2.2.2.2.2.2.2.2.1 y.1 y.2.1
def zst (zm:At→yG→Bool×(yC×Int)) (n:Nat) (to:yG) (t16:yC) (t17:Int) (t18:Int) (t26:yD) (t27:Int) (t28:Int) (sum:yC) (product:yC):=zH (zBh zm) (.inl default) n (((to,()),()),(),(),t16,t17,t18,t26,t27,t28,()) (sum,product,())
def zL8 (r:zCX):LTree ty:=.ite (isL r) (.done .ret [.lit (.slice none 0 0),.lit (.int .i64 (getL r))] []) (.done (.exit 2) [.fn 84 ([.bptr ([.sl 51 (getR r).1]) 0]),.own 272,.own 273,.sl 28 (getR r).2.1,.lit (.int .i64 (getR r).2.2.1),.lit (.int .i64 (getR r).2.2.2.1)] [.arr 28 (getR r).2.2.2.2.1 false,.arr 28 (getR r).2.2.2.2.2 false])
def zNF:LL ty zn2:=za (lFn 84 (za (znx (za (lSl 51) zn) 0) zn)) (za (zd3 272) (za (zd3 273) (za (lSl 28) (za zj (za zj (za (lSl 69) (za zj (za zj zn))))))))
def zs6 (zm:At→yG→Bool×(yC×Int)) (to:yG) (t16:yC) (t17:Int) (t18:Int) (sum:yC):Wy znR znW zDm:=.i (decide (t18<t17)) (.i (decide (0≤t18)&&decide (t18<Int.ofNat t16.length)) (.bn (zrz (t16.getD t18.toNat default).Cf) fun r14=>.bn (zst zm (to.length+t16.length+t17.toNat +t18.toNat +(t16.getD t18.toNat default).Fs.length+(Int.ofNat (t16.getD t18.toNat default).Fs.length).toNat +Int.toNat 0+sum.length+r14.length+1) to t16 t17 t18 (t16.getD t18.toNat default).Fs (Int.ofNat (t16.getD t18.toNat default).Fs.length) 0 sum r14) fun r13=>.i (isL r13) (.k (.inl (getL r13))) (.bn (zqw (getR r13).2.2.2.2.1 (getR r13).2.2.2.2.2) fun r12=>.i (r12.2 != 0) (.k (.inl (r12.2))) (.h ((((getR r13).1,()),()),(),(getR r13).2.1,(getR r13).2.2.1,(IntKind.i64.wrap ((getR r13).2.2.2.1+1)),()) ((r12.1),())))) .d) (.k (.inr sum))
def zBm (zm:At→yG→Bool×(yC×Int)) (x:znR) (y:znW):=zs6 zm x.1.1.1 x.2.2.1 x.2.2.2.1 x.2.2.2.2.1 y.1
def zsW (zm:At→yG→Bool×(yC×Int)) (n:Nat) (to:yG) (t16:yC) (t17:Int) (t18:Int) (sum:yC):=zH (zBm zm) (.inl default) n (((to,()),()),(),t16,t17,t18,()) (sum,())
def zNk (r:zDm):LTree ty:=.ite (isL r) (.done .ret [.lit (.slice none 0 0),.lit (.int .i64 (getL r))] []) (.done (.exit 0) [.own 272] [.arr 28 (getR r) false])
def zNA:LL ty znR:=za (lFn 84 (za (znx (za (lSl 51) zn) 0) zn)) (za (zd3 272) (za (lSl 28) (za zj (za zj zn))))
def zNK:BL ty znW:=zed 28 false (zbl)
def zJ0 (x:znQ) (y:zeE):Nat:=(x.1.1.1.length+x.2.2.2.1.length+Int.toNat x.2.2.2.2.1+x.2.2.2.2.2.1.length+Int.toNat x.2.2.2.2.2.2.1+Int.toNat x.2.2.2.2.2.2.2.1+x.2.2.2.2.2.2.2.2.1.length+Int.toNat x.2.2.2.2.2.2.2.2.2.1+Int.toNat x.2.2.2.2.2.2.2.2.2.2.1+Int.toNat x.2.2.2.2.2.2.2.2.2.2.2.1+Int.toNat x.2.2.2.2.2.2.2.2.2.2.2.2.1+y.1.length+y.2.1.length+1)
def zMg (x:zn2) (y:zeE):Nat:=(x.1.1.1.length+x.2.2.2.1.length+Int.toNat x.2.2.2.2.1+Int.toNat x.2.2.2.2.2.1+x.2.2.2.2.2.2.1.length+Int.toNat x.2.2.2.2.2.2.2.1+Int.toNat x.2.2.2.2.2.2.2.2.1+y.1.length+y.2.1.length+1)
def zMx (x:znR) (y:znW):Nat:=(x.1.1.1.length+x.2.2.1.length+Int.toNat x.2.2.2.1+Int.toNat x.2.2.2.2.1+y.1.length+1)
def zmd (zm:At→yG→Bool×(yC×Int)):=zb5 zbP 68 [(23,zyB),(84,zhD),(92,zyR),(149,zDr),(150,(zlu zm))] [] [(3,[(1,.keep),(6,.own 28),(16,.keep),(17,.keep),(18,.keep)]),(7,(kpL [1,6,9,16,17,18,26,27,28])),(11,[(1,.keep),(6,.keep),(9,.keep),(12,.sl 28),(13,.keep),(16,.keep),(17,.keep),(18,.keep),(26,.keep),(27,.keep),(28,.keep),(40,.keep),(41,.keep)])] [(3,1,(kpL [6])),(3,0,(kpL [4,5])),(7,3,(kpL [1,6,9,16,17,18])),(7,0,(kpL [4,5])),(11,5,(kpL [1,6,9,13,16,17,18,26,27,28]))] [(11,spW zMP zLA (zzE zm) default zKr zJ0),(7,spW zNF zLA (zBh zm) (.inl default) zL8 zMg),(3,spW zNA zNK (zBm zm) (.inl default) zNk zMx)] []
theorem zKv (zm:At→yG→Bool×(yC×Int)):zM (zmd zm) (lp (body f83) 2):=zw (id:=11) (hl:=rfl)
theorem zM7 (zm:At→yG→Bool×(yC×Int)):zM (zmd zm) (lp (body f83) 1):=zw (id:=7) (hl:=rfl)
theorem zMn (zm:At→yG→Bool×(yC×Int)):zM (zmd zm) (lp (body f83) 0):=zw (id:=3) (hl:=rfl)
def zB7 (zm:At→yG→Bool×(yC×Int)) (a:yC) (to:yG):Wy0 (yC×Int):=.bn (zsW zm (to.length+a.length+(Int.ofNat a.length).toNat +Int.toNat 0+0+1) to a (Int.ofNat a.length) 0 []) fun r18=>.i (isL r18) (.k ([],getL r18)) (.k (getR r18,0))
def zlw (zm:At→yG→Bool×(yC×Int)) (a:yC) (to:yG):=(zB7 zm a to).fin default
theorem zIs (zm:At→yG→Bool×(yC×Int)) (zI8:Sound Tryz.prog zbP 150 (zlu zm)):Sound Tryz.prog zbP 83 (zlp (zlw zm)):=
 sU (cx':=(zmd zm)) (zi ⟨zEe,zlo.nodr,zDT,zPG.nodr,zI8,trivial⟩) call83 func83 (lOK (aC (zMn zm) (aC (zM7 zm) (aC (zKv zm) aN)))) (sg:=⟨[.own 28,.pure],[]⟩)
def zZR:=zbq base 3 []
def z14:Wy0 (yC):=.k [TO.mk 1 []]
def zki:Bool×yC:=(z14).fin default
def zms:=zh zPh fun x=>((zki ).1,zPo (zki ).2)
theorem zpm:SdP 36 zms:=
 sT (cx':=zZR) (zi trivial) call36 func36 (lOK aN) (sg:=⟨[.own 28],[]⟩)
def zS5:=zbq base 23 [(20,zcb),(36,zms),(70,zeM),(131,znF),(152,zgD)]
def zFK (a:yC):Wy0 (yC×Int):=.bn (zbX a) fun r2=>.i (!r2) (.k ([],1)) (.i (Int.ofNat a.length==0) (.k (zki.2,0)) (.bn (ze6 a) fun r1=>.i (r1) (.k ([],0)) (.bn (zeu (zfr (At.mk 3 (RowID.mk 0 0) [a] 0 [] 0 (Value.mk 0 0 (ByteArray.mk #[])))).2) fun r0=>.k (r0.1,r0.2))))
def zoM (a:yC):=(zFK a).fin default
def zCm:=zh zXg fun x=>((zoM x.1).1,zPN (zoM x.1).2)
theorem zNy:SdP 179 zCm:=
 sT (cx':=zS5) (zi ⟨zci,zpm,zfN,zvz,ziU,trivial⟩) call179 func179 (lOK aN) (sg:=⟨[.own 28,.pure],[]⟩)
def zV5:=zbq base 29 [(20,zcb),(36,zms),(70,zeM),(87,zgI),(129,zow),(130,zuE),(152,zgD)]
def zH1 (a:yC):Wy0 (yC×Int):=.bn (zbX a) fun r5=>.i (!r5) (.k ([],1)) (.i (Int.ofNat a.length==0) (.bn (zgM a) fun r0=>.k (r0,0)) (.bn (zlG a) fun r4=>.i (r4) (.bn (zgM a) fun r1=>.k (r1,0)) (.bn (zhy a) fun r3=>.i (r3) (.k (zki.2,0)) (.bn (zeu (zfr (At.mk 2 (RowID.mk 0 0) [a] 0 [] 0 (Value.mk 0 0 (ByteArray.mk #[])))).2) fun r2=>.k (r2.1,r2.2)))))
def zqy (a:yC):=(zH1 a).fin default
def zDD:=zh zXg fun x=>((zqy x.1).1,zPN (zqy x.1).2)
theorem zPB:SdP 178 zDD:=
 sT (cx':=zV5) (zi ⟨zci,zpm,zfN,zi7,zwG,zBl,ziU,trivial⟩) call178 func178 (lOK aN) (sg:=⟨[.own 28,.pure],[]⟩)
def zVp:=zbq base 38 [(20,zcb),(21,zkv),(70,zeM),(87,zgI),(152,zgD)]
def zG3 (a:yC) (b:yC):Wy0 (yC×Int):=.bn (zbX a) fun r4=>.i (!r4) (.k ([],1)) (.bn (zbX b) fun r3=>.i (!r3) (.k ([],1)) (.i (Int.ofNat b.length==0) (.bn (zgM a) fun r0=>.k (r0,0)) (.i (Int.ofNat a.length==0) (.k ([],0)) (.bn (zcv a b) fun r2=>.i (r2) (.k ([],0)) (.bn (zeu (zfr (At.mk 1 (RowID.mk 0 0) [a,b] 0 [] 0 (Value.mk 0 0 (ByteArray.mk #[])))).2) fun r1=>.k (r1.1,r1.2))))))
def zqE (a:yC) (b:yC):=(zG3 a b).fin default
def zDu:=zh zTM fun x=>((zqE x.1 x.2.1).1,zPN (zqE x.1 x.2.1).2)
theorem zO4:SdP 177 zDu:=
 sT (cx':=zVp) (zi ⟨zci,zm7,zfN,zi7,ziU,trivial⟩) call177 func177 (lOK aN) (sg:=⟨[.own 28,.pure],[]⟩)
def zgg (x:yE) (a b:Int):Bool×yE:=z59 zbh x a b
def zts:Ab.Spec ty:=zh (cx:=base) (zd (zlZ 100) (zd (ze (zhQ .i64)) (zd (ze (zhQ .i64)) (zd (ze (vFn 124 zbW)) zr)))) fun x=>((zgg x.1 x.2.1 x.2.2.1).1,⟨[],[some ⟨100,(zgg x.1 x.2.1 x.2.2.1).2⟩]⟩)
theorem zuv (c:Unit) (x y:Wd) (h:(zbh x y).1=true):zfE ((AV.agg (base.enc 100 x)::AV.agg (base.enc 100 y)::(zbW:VL base Unit).enc c).map Arg.pure)=some (true,⟨[.pure (.lit (.int .i64 (zbh x y).2))],[]⟩):=by
 rw [← h]; kernel_rfl
theorem zs1:SdP 281 zts:=by
 letI:DecidableEq (ty 100):=inferInstanceAs (DecidableEq Wd)
 exact zbcv (T:=100) zgL rfl Go.Proofs.Tryz.insW Tryz.isAgg100 (by unfold zq; exact Tryz.sizeOf100) call281 zhE zbW (fun c=>zbh) zuv
open Go.Proofs Go.RowKit
def zcA (x:yE) (m:Int):Bool×yE:=(decide (SortOK zbh x)&&(decide (m=x.length)&&decide (m<20)),ziH zbh x)
def zmf:Ab.Spec ty:=zh (cx:=base) (zd (zlZ 100) (zd (ze (zhQ .i64)) (zd (ze (vFn 124 zbW)) zr))) fun x=>((zcA x.1 x.2.1).1,⟨[],[some ⟨100,(zcA x.1 x.2.1).2⟩]⟩)
set_option maxHeartbeats 1000000 in
theorem zyh:SdP 262 zmf where
 enters:=call262
 calls:=fun avs r hsp w F vs hF ha hsep=>by
  unfold zmf zh at hsp;split at hsp
  ·rename_i x hx;simp only [qa,qb] at hsp;obtain ⟨hpre,rfl⟩:=hsp;have hk:=(zd (zlZ 100) (zd (ze (zhQ .i64)) (zd (ze (vFn 124 zbW)) zr)):AL base _).kind vs avs x hx;have ha':=(zd (zlZ 100) (zd (ze (zhQ .i64)) (zd (ze (vFn 124 zbW)) zr)):AL base _).ok Tryz.prog zgL F w vs avs x hx ha;rw [hk] at hsep ⊢;clear hk hx ha;obtain ⟨l0,m,c,u0⟩:=x;obtain ⟨l,rfl⟩:∃ l:yE,l=l0:=⟨l0,rfl⟩;obtain ⟨v,vs',rfl,hv,hv'⟩:=ha'.inv;obtain ⟨mv,vs1,rfl,hm,hv1⟩:=hv'.inv;obtain ⟨fv,vs'',rfl,hfv,h0⟩:=hv1.inv;obtain rfl:=h0.nil_left.1;have hm:Rep base F w mv (.lit (.int .i64 m)):=hm;obtain rfl:mv=.int .i64 m:=by cases hm; rfl
   have hsl:∃ p cap,v=.slice p l.length cap:=by
    obtain ⟨⟨xs,hown,_⟩,_⟩:=(show zcW base F w v 100 l∧∀ b,zbg v=some b→¬ F b from hv)
    rcases hown.2 with ⟨h1,h2⟩ | ⟨g0,cap,cur,h1,_⟩
    ·exact ⟨none,0,by rw [h1,show l.length=0 from h2]⟩
    ·exact ⟨_,cap,h1⟩
   have hpre:(decide (SortOK (α:=Wd) zbh l)&&(decide (m=l.length)&&decide (m<20)))=true:=hpre;simp only [qc,qe] at hpre;obtain ⟨hok,rfl,h20⟩:=hpre
   have hpp:(zgg l 0 (l.length:Int)).1=true:=by
    show (decide (SortOK (α:=Wd) zbh l)&&(decide ((0:Int)=0)&&decide ((l.length:Int)=l.length)))=true;simp only [qc,qe];exact ⟨hok,trivial,trivial⟩
   have hp:=(zs1).calls [.own 100 l,.pure (.lit (.int .i64 0)),.pure (.lit (.int .i64 (l.length:Int))),.pure (.fn 124 [])] ⟨[],[some ⟨100,(zcA l (l.length:Int)).2⟩]⟩
    (by rw [← hpp]; kernel_rfl) w F [v,.int .i64 0,.int .i64 (l.length:Int),fv] hF (.cons hv (.cons (Rep.lit _) (.cons (Rep.lit _) (.cons hfv .nil)))) hsep
   replace hp:Calls Tryz.prog 281 #[v,.int .i64 0,.int .i64 (l.length:Int),fv] w fun e w'=>∃ u,e=.returned u∧Post base F w [v] ⟨[],[some ⟨100,(zcA l (l.length:Int)).2⟩]⟩ u w':=hp
   show Calls Tryz.prog 262 #[v,.int .i64 (l.length:Int),fv] w fun e w'=>∃ u,e=.returned u∧Post base F w [v] ⟨[],[some ⟨100,(zcA l (l.length:Int)).2⟩]⟩ u w'
   generalize (zcA l (l.length:Int)).2=res at hp ⊢;generalize hn:l.length=m at *;clear hpp hv hfv hsep hok hF hm;obtain ⟨p,cap,rfl⟩:=hsl;clear hn
   go_enter func262,ntmps262
   go_wp2
   refine wp_loop_rounds 1 ?_;rw [rounds_succ]
   go_wp2_with (go_at_call 281; refine hp.mono ?_; rintro e w' ⟨u,rfl,hpost⟩; obtain rfl:=hpost.unit)
   refine wp_loop_rounds 1 ?_;rw [rounds_succ]
   go_wp2
   all_goals first | (exfalso; omega) | (go_end0; exact ⟨_,rfl,hpost⟩)
  ·cases hsp
end Go.Proofs.YtljlfiomikifjaaGreatDoor
end
