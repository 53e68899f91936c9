/- Texts of this claim, joined (the program, its functions in plain words, and what they compute). -/
import Derived.WalkKit
import Derived.WalkSpells
import Derived.Test.YtljlfiomikifjaaGreatDoorGC2
set_option autoImplicit false
set_option linter.unusedVariables false
set_option linter.unusedSectionVars false
set_option linter.unusedSimpArgs false
set_option maxRecDepth 1000000
set_option maxHeartbeats 0
noncomputable section
namespace Go.Proofs.YtljlfiomikifjaaGreatDoor
open Go Go.Ab
def zZ6:Cx ty:=mkCx base 15 [(128,zuY),(168,strconv_Itoa_spec)] [] [] [] [] []
def zNA (id:RowID):Wy0 (ByteArray):=.bn (zq6 id) fun r2=>.i (!r2) (.k (ByteArray.mk #[])) (.bn (strconv_Itoa id.Table) fun r1=>.i (decide ((ByteArray.mk #[(116:UInt8)]).size+r1.size≤9223372036854775807)) (.i (decide ((ByteArray.mk #[(116:UInt8)]++r1).size+(ByteArray.mk #[(46:UInt8)]).size≤9223372036854775807)) (.bn (strconv_Itoa id.Seq) fun r0=>.i (decide ((ByteArray.mk #[(116:UInt8)]++r1++ByteArray.mk #[(46:UInt8)]).size+r0.size≤9223372036854775807)) (.k (ByteArray.mk #[(116:UInt8)]++r1++ByteArray.mk #[(46:UInt8)]++r0)) .d) .d) .d)
def zxm (id:RowID):Bool×ByteArray:=(zNA id).fin default
def zHo:Ab.Spec ty:=zh z4J fun x=>((zxm x.1).1,zUv (zxm x.1).2)
theorem zUx:SdP 195 zHo:=
 sW (cx':=zZ6) zr zi zk (zj ⟨zzX,zGs,trivial⟩) Tryz.call195 Tryz.func195 (c:=body Tryz.f195) (lOK aN)
def zi8 (m b:Int):Bool×ByteArray:=zwV m b
def strconv_FormatInt_spec:Ab.Spec ty:=zh (cx:=base) (zd (ze (vInt .i64)) (zd (ze (vInt .i64)) aNil)) fun x=>((zi8 x.1 x.2.1).1,⟨[.pure (.lit (.string (zi8 x.1 x.2.1).2))],[]⟩)
theorem zBb:SdP 227 strconv_FormatInt_spec:=z3o zi Go.Proofs.Tryz.laysM173 Tryz.call227 (fun _ h=>h.1)
def strings_ReplaceAll (s p q:ByteArray):Bool×ByteArray:=zpU s p q
def strings_ReplaceAll_spec:Ab.Spec ty:=zh (cx:=base0) (zd (ze vStr) (zd (ze vStr) (zd (ze vStr) aNil))) fun x=>((strings_ReplaceAll x.1 x.2.1 x.2.2.1).1,⟨[.pure (.lit (.string (strings_ReplaceAll x.1 x.2.1 x.2.2.1).2))],[]⟩)
theorem zLB:Sound Tryz.prog base0 228 strings_ReplaceAll_spec:=z1p zja rfl Go.Proofs.Tryz.lays155 Go.Proofs.Tryz.Builder_Extra_155 Tryz.call228 (fun _ h=>h.2)
def z2E:Cx ty:=mkCx base0 27 [(164,zwI),(227,strconv_FormatInt_spec),(228,strings_ReplaceAll_spec)] [] [] [] [] []
def zQK (v:Value):Wy0 (ByteArray):=.bn (zua v) fun r2=>.i (!r2) (.k (ByteArray.mk #[])) (.i (v.Kind==0) (.bn (zi8 v.Int 10) fun r0=>.k r0) (.i (v.Kind==1) (.bn (strings_ReplaceAll v.Text (ByteArray.mk #[(39:UInt8)]) (ByteArray.mk #[(39:UInt8),(39:UInt8)])) fun r1=>.i (decide ((ByteArray.mk #[(39:UInt8)]).size+r1.size≤9223372036854775807)) (.i (decide ((ByteArray.mk #[(39:UInt8)]++r1).size+(ByteArray.mk #[(39:UInt8)]).size≤9223372036854775807)) (.k (ByteArray.mk #[(39:UInt8)]++r1++ByteArray.mk #[(39:UInt8)])) .d) .d) (.i (v.Int==1) (.k (ByteArray.mk #[(84:UInt8),(82:UInt8),(85:UInt8),(69:UInt8)])) (.k (ByteArray.mk #[(70:UInt8),(65:UInt8),(76:UInt8),(83:UInt8),(69:UInt8)])))))
def zvh (v:Value):Bool×ByteArray:=(zQK v).fin default
def z3Z:AL base0 (Value×Unit):=zd (ze (vAgg 65)) aNil
def zIQ:Ab.Spec ty:=zh z3Z fun x=>((zvh x.1).1,zUv (zvh x.1).2)
theorem zVg:Sound Tryz.prog base0 197 zIQ:=
 sW (cx':=z2E) zr zja zk (zj ⟨zBs.nodr,zBb.nodr,zLB,trivial⟩) Tryz.call197 Tryz.func197 (c:=body Tryz.f197) (lOK aN)
abbrev zhR:=Unit×Unit×yE×Int×Int×Unit
abbrev zhS:=Atom×List ByteArray×Unit
abbrev zk3:=Atom×List ByteArray
def zfZ (zbr:yC→Bool×ByteArray) (t48:yE) (t49:Int) (t50:Int) (x_:Atom) (items:List ByteArray):Wy zhR zhS zk3:=.i (decide (t50<t49)) (.i (decide (0≤t50)&&decide (t50<Int.ofNat t48.length)) (.bn (zvh (t48.getD t50.toNat default).Value) fun r1=>.i (decide (r1.size+(ByteArray.mk #[(58:UInt8),(32:UInt8)]).size≤9223372036854775807)) (.bn (zbr (t48.getD t50.toNat default).Ann) fun r0=>.i (decide ((r1++ByteArray.mk #[(58:UInt8),(32:UInt8)]).size+r0.size≤9223372036854775807)) (.i (decide ((items.length+[r1++ByteArray.mk #[(58:UInt8),(32:UInt8)]++r0].length)*16≤reach)) (.h ((),(),t48,t49,(IntKind.i64.wrap (t50+1)),()) (x_,(items++[r1++ByteArray.mk #[(58:UInt8),(32:UInt8)]++r0]),())) .d) .d) .d) .d) (.k (x_,items))
def zni (zbr:yC→Bool×ByteArray) (x:zhR) (y:zhS):Wy zhR zhS zk3:=zfZ zbr x.2.2.1 x.2.2.2.1 x.2.2.2.2.1 y.1 y.2.1
def zwp (zbr:yC→Bool×ByteArray) (n:Nat) (t48:yE) (t49:Int) (t50:Int) (x_:Atom) (items:List ByteArray):Bool×zk3:=zF (zni zbr) default n ((),(),t48,t49,t50,()) (x_,items,())
def zFW (r:zk3):LTree ty:=.done (.exit 1) [.ptr 360 0,.own 361] [.box (base.enc 67 r.1) false,.arr 9 r.2 false]
def zHx:LL ty zhR:=za (zeJ 360 0) (za (lOwn 361) (za (lSl 100) (za lI64 (za lI64 zn))))
def zGt:BL ty zhS:=bBox (zfl (fun x=>(⟨x.1,⟨x.2.1,x.2.2.1⟩,x.2.2.2.1,x.2.2.2.2.1,x.2.2.2.2.2.1,x.2.2.2.2.2.2.1,⟨x.2.2.2.2.2.2.2.1,x.2.2.2.2.2.2.2.2.1,x.2.2.2.2.2.2.2.2.2.1⟩⟩:Atom)) (fun x=>(x.Kind,x.Row.Table,x.Row.Seq,x.Args,x.Func,x.Items,x.Op,x.Bound.Kind,x.Bound.Int,x.Bound.Text,())) (fun _=>rfl) (za (lInt .i64) (za (lInt .i64) (za (lInt .i64) (za (lSl 23) (za (lInt .i64) (za (lSl 100) (za (lInt .i64) (za (lInt .i64) (za (lInt .i64) (za lStr zn))))))))))) false (bArr 9 false (bNil))
def zGc (x:zhR) (y:zhS):Nat:=(x.2.2.1.length+Int.toNat x.2.2.2.1+Int.toNat x.2.2.2.2.1+y.1.Args.length+y.1.Items.length+y.2.1.length+1)
def zxE (zbr:yC→Bool×ByteArray):Cx ty:=mkCx base0 90 [(169,strings_Join_spec),(195,zHo),(196,(zuZ zbr)),(197,zIQ),(198,zyS),(199,zza)] [] [(12,[(1,.keep),(3,.own 9),(48,.keep),(49,.keep),(50,.keep)])] [(12,2,(kpL [1,3]))] [(12,spW zHx zGt (zni zbr) default zFW zGc)] []
theorem zF6 (zbr:yC→Bool×ByteArray):zK (zxE zbr) (lp (body Tryz.f167) 0):=zu (id:=12) (hl:=rfl)
def zyW (zbr:yC→Bool×ByteArray) (x_:Atom):Wy0 (ByteArray):=.i (x_.Kind==0) (.bn (zxm x_.Row) fun r4=>.k r4) (.i (x_.Kind==1) (.i (decide ((0:Int)≤(0:Int))&&decide (0<Int.ofNat x_.Args.length)) (.bn (zbr (x_.Args.getD (Int.toNat 0) default)) fun r6=>.i (decide ((ByteArray.mk #[(109:UInt8),(111:UInt8),(110:UInt8),(117:UInt8),(115:UInt8),(91:UInt8)]).size+r6.size≤9223372036854775807)) (.i (decide ((ByteArray.mk #[(109:UInt8),(111:UInt8),(110:UInt8),(117:UInt8),(115:UInt8),(91:UInt8)]++r6).size+(ByteArray.mk #[(44:UInt8),(32:UInt8)]).size≤9223372036854775807)) (.i (decide ((0:Int)≤(1:Int))&&decide (1<Int.ofNat x_.Args.length)) (.bn (zbr (x_.Args.getD (Int.toNat 1) default)) fun r5=>.i (decide ((ByteArray.mk #[(109:UInt8),(111:UInt8),(110:UInt8),(117:UInt8),(115:UInt8),(91:UInt8)]++r6++ByteArray.mk #[(44:UInt8),(32:UInt8)]).size+r5.size≤9223372036854775807)) (.i (decide ((ByteArray.mk #[(109:UInt8),(111:UInt8),(110:UInt8),(117:UInt8),(115:UInt8),(91:UInt8)]++r6++ByteArray.mk #[(44:UInt8),(32:UInt8)]++r5).size+(ByteArray.mk #[(93:UInt8)]).size≤9223372036854775807)) (.k (ByteArray.mk #[(109:UInt8),(111:UInt8),(110:UInt8),(117:UInt8),(115:UInt8),(91:UInt8)]++r6++ByteArray.mk #[(44:UInt8),(32:UInt8)]++r5++ByteArray.mk #[(93:UInt8)])) .d) .d) .d) .d) .d) .d) (.i (x_.Kind==2) (.i (decide ((0:Int)≤(0:Int))&&decide (0<Int.ofNat x_.Args.length)) (.bn (zbr (x_.Args.getD (Int.toNat 0) default)) fun r7=>.i (decide ((ByteArray.mk #[(100:UInt8),(101:UInt8),(108:UInt8),(116:UInt8),(97:UInt8),(91:UInt8)]).size+r7.size≤9223372036854775807)) (.i (decide ((ByteArray.mk #[(100:UInt8),(101:UInt8),(108:UInt8),(116:UInt8),(97:UInt8),(91:UInt8)]++r7).size+(ByteArray.mk #[(93:UInt8)]).size≤9223372036854775807)) (.k (ByteArray.mk #[(100:UInt8),(101:UInt8),(108:UInt8),(116:UInt8),(97:UInt8),(91:UInt8)]++r7++ByteArray.mk #[(93:UInt8)])) .d) .d) .d) (.i (x_.Kind==3) (.i (decide ((0:Int)≤(0:Int))&&decide (0<Int.ofNat x_.Args.length)) (.bn (zbr (x_.Args.getD (Int.toNat 0) default)) fun r8=>.i (decide ((ByteArray.mk #[(97:UInt8),(98:UInt8),(115:UInt8),(101:UInt8),(110:UInt8),(116:UInt8),(91:UInt8)]).size+r8.size≤9223372036854775807)) (.i (decide ((ByteArray.mk #[(97:UInt8),(98:UInt8),(115:UInt8),(101:UInt8),(110:UInt8),(116:UInt8),(91:UInt8)]++r8).size+(ByteArray.mk #[(93:UInt8)]).size≤9223372036854775807)) (.k (ByteArray.mk #[(97:UInt8),(98:UInt8),(115:UInt8),(101:UInt8),(110:UInt8),(116:UInt8),(91:UInt8)]++r8++ByteArray.mk #[(93:UInt8)])) .d) .d) .d) (.bn (zwp zbr (x_.Items.length+(Int.ofNat x_.Items.length).toNat +Int.toNat 0+x_.Args.length+x_.Items.length+0+1) x_.Items (Int.ofNat x_.Items.length) 0 (Atom.mk x_.Kind x_.Row x_.Args x_.Func x_.Items x_.Op x_.Bound) []) fun r11=>.i (decide (0≤r11.1.Func)&&decide (r11.1.Func<Int.ofNat zb2.2.length)) (.i (decide ((ByteArray.mk #[(116:UInt8),(101:UInt8),(115:UInt8),(116:UInt8),(91:UInt8)]).size+ByteArray.size (zb2.2.getD r11.1.Func.toNat default)≤9223372036854775807)) (.i (decide ((ByteArray.mk #[(116:UInt8),(101:UInt8),(115:UInt8),(116:UInt8),(91:UInt8)]++zb2.2.getD r11.1.Func.toNat default).size+(ByteArray.mk #[(123:UInt8)]).size≤9223372036854775807)) (.bn (strings_Join r11.2 (ByteArray.mk #[(59:UInt8),(32:UInt8)])) fun r10=>.i (decide ((ByteArray.mk #[(116:UInt8),(101:UInt8),(115:UInt8),(116:UInt8),(91:UInt8)]++zb2.2.getD r11.1.Func.toNat default++ByteArray.mk #[(123:UInt8)]).size+r10.size≤9223372036854775807)) (.i (decide ((ByteArray.mk #[(116:UInt8),(101:UInt8),(115:UInt8),(116:UInt8),(91:UInt8)]++zb2.2.getD r11.1.Func.toNat default++ByteArray.mk #[(123:UInt8)]++r10).size+(ByteArray.mk #[(125:UInt8),(32:UInt8)]).size≤9223372036854775807)) (.i (decide (0≤IntKind.i64.wrap (r11.1.Op - 5))&&decide (IntKind.i64.wrap (r11.1.Op - 5)<Int.ofNat zdQ.2.length)) (.i (decide ((ByteArray.mk #[(116:UInt8),(101:UInt8),(115:UInt8),(116:UInt8),(91:UInt8)]++zb2.2.getD r11.1.Func.toNat default++ByteArray.mk #[(123:UInt8)]++r10++ByteArray.mk #[(125:UInt8),(32:UInt8)]).size+ByteArray.size (zdQ.2.getD (IntKind.i64.wrap (r11.1.Op - 5)).toNat default)≤9223372036854775807)) (.i (decide ((ByteArray.mk #[(116:UInt8),(101:UInt8),(115:UInt8),(116:UInt8),(91:UInt8)]++zb2.2.getD r11.1.Func.toNat default++ByteArray.mk #[(123:UInt8)]++r10++ByteArray.mk #[(125:UInt8),(32:UInt8)]++zdQ.2.getD (IntKind.i64.wrap (r11.1.Op - 5)).toNat default).size+(ByteArray.mk #[(32:UInt8)]).size≤9223372036854775807)) (.bn (zvh r11.1.Bound) fun r9=>.i (decide ((ByteArray.mk #[(116:UInt8),(101:UInt8),(115:UInt8),(116:UInt8),(91:UInt8)]++zb2.2.getD r11.1.Func.toNat default++ByteArray.mk #[(123:UInt8)]++r10++ByteArray.mk #[(125:UInt8),(32:UInt8)]++zdQ.2.getD (IntKind.i64.wrap (r11.1.Op - 5)).toNat default++ByteArray.mk #[(32:UInt8)]).size+r9.size≤9223372036854775807)) (.i (decide ((ByteArray.mk #[(116:UInt8),(101:UInt8),(115:UInt8),(116:UInt8),(91:UInt8)]++zb2.2.getD r11.1.Func.toNat default++ByteArray.mk #[(123:UInt8)]++r10++ByteArray.mk #[(125:UInt8),(32:UInt8)]++zdQ.2.getD (IntKind.i64.wrap (r11.1.Op - 5)).toNat default++ByteArray.mk #[(32:UInt8)]++r9).size+(ByteArray.mk #[(93:UInt8)]).size≤9223372036854775807)) (.k (ByteArray.mk #[(116:UInt8),(101:UInt8),(115:UInt8),(116:UInt8),(91:UInt8)]++zb2.2.getD r11.1.Func.toNat default++ByteArray.mk #[(123:UInt8)]++r10++ByteArray.mk #[(125:UInt8),(32:UInt8)]++zdQ.2.getD (IntKind.i64.wrap (r11.1.Op - 5)).toNat default++ByteArray.mk #[(32:UInt8)]++r9++ByteArray.mk #[(93:UInt8)])) .d) .d) .d) .d) .d) .d) .d) .d) .d) .d))))
def zi4 (zbr:yC→Bool×ByteArray) (x_:Atom):Bool×ByteArray:=(zyW zbr x_).fin default
theorem zEG (zbr:yC→Bool×ByteArray) (zTE:Sound Tryz.prog base0 196 (zuZ zbr)):Sound Tryz.prog base0 167 (zl3 (zi4 zbr)):=
 sW (cx':=(zxE zbr)) zr zja zk (zj ⟨zAu,zUx.nodr,zTE,zVg,zIJ.nodr,zH8.nodr,trivial⟩) Tryz.call167 Tryz.func167 (c:=body Tryz.f167) (lOK (aC (zF6 zbr) aN))
abbrev zfW:=Unit×yD×Int×Int×Unit
abbrev zfP:=List ByteArray×Unit
def zfe (zbe:Atom→Bool×ByteArray) (t7:yD) (t8:Int) (t9:Int) (out_:List ByteArray):Wy zfW zfP (List ByteArray):=.i (decide (t9<t8)) (.i (decide (0≤t9)&&decide (t9<Int.ofNat t7.length)) (.bn (zbe (Atom.mk (t7.getD t9.toNat default).Atom.Kind (t7.getD t9.toNat default).Atom.Row (t7.getD t9.toNat default).Atom.Args (t7.getD t9.toNat default).Atom.Func (t7.getD t9.toNat default).Atom.Items (t7.getD t9.toNat default).Atom.Op (t7.getD t9.toNat default).Atom.Bound)) fun r1=>.i ((t7.getD t9.toNat default).Exp != 1) (.bn (strconv_Itoa (t7.getD t9.toNat default).Exp) fun r0=>.i (decide ((ByteArray.mk #[(94:UInt8)]).size+r0.size≤9223372036854775807)) (.i (decide (r1.size+(ByteArray.mk #[(94:UInt8)]++r0).size≤9223372036854775807)) (.i (decide ((out_.length+[r1++(ByteArray.mk #[(94:UInt8)]++r0)].length)*16≤reach)) (.h ((),t7,t8,(IntKind.i64.wrap (t9+1)),()) ((out_++[r1++(ByteArray.mk #[(94:UInt8)]++r0)]),())) .d) .d) .d) (.i (decide ((out_.length+[r1].length)*16≤reach)) (.h ((),t7,t8,(IntKind.i64.wrap (t9+1)),()) ((out_++[r1]),())) .d)) .d) (.k out_)
def zlU (zbe:Atom→Bool×ByteArray) (x:zfW) (y:zfP):Wy zfW zfP (List ByteArray):=zfe zbe x.2.1 x.2.2.1 x.2.2.2.1 y.1
def zuJ (zbe:Atom→Bool×ByteArray) (n:Nat) (t7:yD) (t8:Int) (t9:Int) (out_:List ByteArray):Bool×List ByteArray:=zF (zlU zbe) default n ((),t7,t8,t9,()) (out_,())
def zEn (r:List ByteArray):LTree ty:=.done (.exit 0) [.own 128] [.arr 9 r false]
def zEK:LL ty zfW:=za (lOwn 128) (za (lSl 69) (za lI64 (za lI64 zn)))
def zEF:BL ty zfP:=bArr 9 false (bNil)
def zDp (x:zfW) (y:zfP):Nat:=(x.2.1.length+Int.toNat x.2.2.1+Int.toNat x.2.2.2.1+y.1.length+1)
def zuF (zbe:Atom→Bool×ByteArray):Cx ty:=mkCx base0 32 [(167,(zl3 zbe)),(168,strconv_Itoa_spec),(169,strings_Join_spec)] [] [(3,[(3,.own 9),(7,.keep),(8,.keep),(9,.keep)])] [(3,1,(kpL [3]))] [(3,spW zEK zEF (zlU zbe) default zEn zDp)] []
theorem zDO (zbe:Atom→Bool×ByteArray):zK (zuF zbe) (lp (body Tryz.f139) 0):=zu (id:=3) (hl:=rfl)
def zvo (zbe:Atom→Bool×ByteArray) (l:yD):Wy0 (ByteArray):=.bn (zuJ zbe (l.length+(Int.ofNat l.length).toNat +Int.toNat 0+0+1) l (Int.ofNat l.length) 0 []) fun r5=>.bn (strings_Join r5 (ByteArray.mk #[(42:UInt8)])) fun r4=>.k r4
def zgg (zbe:Atom→Bool×ByteArray) (l:yD):Bool×ByteArray:=(zvo zbe l).fin default
theorem zCv (zbe:Atom→Bool×ByteArray) (zJD:Sound Tryz.prog base0 167 (zl3 zbe)):Sound Tryz.prog base0 139 (zge (zgg zbe)):=
 sW (cx':=(zuF zbe)) zr zja zk (zj ⟨zJD,zGs.nodr,zAu,trivial⟩) Tryz.call139 Tryz.func139 (c:=body Tryz.f139) (lOK (aC (zDO zbe) aN))
abbrev zm7:=Unit×yC×Int×Int×Unit
abbrev zm8:=List ByteArray×Unit
def zkZ (zW:yD→Bool×ByteArray) (t9:yC) (t10:Int) (t11:Int) (out_:List ByteArray):Wy zm7 zm8 (List ByteArray):=.i (decide (t11<t10)) (.i (decide (0≤t11)&&decide (t11<Int.ofNat t9.length)) (.i (Int.ofNat (t9.getD t11.toNat default).Factors.length==0) (.bn (zi8 (t9.getD t11.toNat default).Coeff 10) fun r0=>.i (decide ((out_.length+[r0].length)*16≤reach)) (.h ((),t9,t10,(IntKind.i64.wrap (t11+1)),()) ((out_++[r0]),())) .d) (.i ((t9.getD t11.toNat default).Coeff==1) (.bn (zW (t9.getD t11.toNat default).Factors) fun r1=>.i (decide ((out_.length+[r1].length)*16≤reach)) (.h ((),t9,t10,(IntKind.i64.wrap (t11+1)),()) ((out_++[r1]),())) .d) (.bn (zi8 (t9.getD t11.toNat default).Coeff 10) fun r3=>.i (decide (r3.size+(ByteArray.mk #[(42:UInt8)]).size≤9223372036854775807)) (.bn (zW (t9.getD t11.toNat default).Factors) fun r2=>.i (decide ((r3++ByteArray.mk #[(42:UInt8)]).size+r2.size≤9223372036854775807)) (.i (decide ((out_.length+[r3++ByteArray.mk #[(42:UInt8)]++r2].length)*16≤reach)) (.h ((),t9,t10,(IntKind.i64.wrap (t11+1)),()) ((out_++[r3++ByteArray.mk #[(42:UInt8)]++r2]),())) .d) .d) .d))) .d) (.k out_)
def zw0 (zW:yD→Bool×ByteArray) (x:zm7) (y:zm8):Wy zm7 zm8 (List ByteArray):=zkZ zW x.2.1 x.2.2.1 x.2.2.2.1 y.1
def zDt (zW:yD→Bool×ByteArray) (n:Nat) (t9:yC) (t10:Int) (t11:Int) (out_:List ByteArray):Bool×List ByteArray:=zF (zw0 zW) default n ((),t9,t10,t11,()) (out_,())
def zPX (r:List ByteArray):LTree ty:=.done (.exit 0) [.own 200] [.arr 9 r false]
def zRV:LL ty zm7:=za (lOwn 200) (za (lSl 28) (za lI64 (za lI64 zn)))
def zSs:BL ty zm8:=bArr 9 false (bNil)
def zP9 (x:zm7) (y:zm8):Nat:=(x.2.1.length+Int.toNat x.2.2.1+Int.toNat x.2.2.2.1+y.1.length+1)
def zDE (zW:yD→Bool×ByteArray):Cx ty:=mkCx base0 50 [(139,(zge zW)),(169,strings_Join_spec),(227,strconv_FormatInt_spec)] [] [(5,[(3,.own 9),(9,.keep),(10,.keep),(11,.keep)])] [(5,1,(kpL [3]))] [(5,spW zRV zSs (zw0 zW) default zPX zP9)] []
theorem zPR (zW:yD→Bool×ByteArray):zK (zDE zW) (lp (body Tryz.f196) 0):=zu (id:=5) (hl:=rfl)
def zE5 (zW:yD→Bool×ByteArray) (a:yC):Wy0 (ByteArray):=.i (Int.ofNat a.length==0) (.k (ByteArray.mk #[(48:UInt8)])) (.bn (zDt zW (a.length+(Int.ofNat a.length).toNat +Int.toNat 0+0+1) a (Int.ofNat a.length) 0 []) fun r9=>.bn (strings_Join r9 (ByteArray.mk #[(32:UInt8),(43:UInt8),(32:UInt8)])) fun r8=>.k r8)
def zoU (zW:yD→Bool×ByteArray) (a:yC):Bool×ByteArray:=(zE5 zW a).fin default
theorem zMB (zW:yD→Bool×ByteArray) (zF8:Sound Tryz.prog base0 139 (zge zW)):Sound Tryz.prog base0 196 (zuZ (zoU zW)):=
 sW (cx':=(zDE zW)) zr zja zk (zj ⟨zF8,zAu,zBb.nodr,trivial⟩) Tryz.call196 Tryz.func196 (c:=body Tryz.f196) (lOK (aC (zPR zW) aN))
def zFM:Nat→(yC→Bool×ByteArray)×(Atom→Bool×ByteArray)×(yD→Bool×ByteArray)
 | 0=>(fun _=>(false,default),fun _=>(false,default),fun _=>(false,default))
 | n+1=>(zoU ((zFM n).2.2),zi4 ((zFM n).1),zgg ((zFM n).2.1))
def zuW (n:Nat):yC→Bool×ByteArray:=(zFM n).1
def zl5 (n:Nat):Atom→Bool×ByteArray:=(zFM n).2.1
def zgm (n:Nat):yD→Bool×ByteArray:=(zFM n).2.2
theorem zRo (n:Nat):zuW (n+1)=zoU (zgm n):=rfl
theorem zIp (n:Nat):zl5 (n+1)=zi4 (zuW n):=rfl
theorem zEJ (n:Nat):zgm (n+1)=zgg (zl5 n):=rfl
theorem z2k:∀ n,Sound Tryz.prog base0 196 (zuZ (zuW n))∧Sound Tryz.prog base0 167 (zl3 (zl5 n))∧Sound Tryz.prog base0 139 (zge (zgm n))
 | 0=>⟨z6 Tryz.call196 (fun _=>rfl),z6 Tryz.call167 (fun _=>rfl),z6 Tryz.call139 (fun _=>rfl)⟩
 | n+1=>by
  have ih:=z2k n;exact ⟨zMB _ (ih.2.2),zEG _ (ih.1),zCv _ (ih.2.1)⟩
def zrD:yD→Bool×ByteArray:=zgm 1000
def annotation_formatFactors_spec:Ab.Spec ty:=zge zrD
theorem zEj:Sound Tryz.prog base0 139 annotation_formatFactors_spec:=(z2k 1000).2.2
def zlA (x:yC) (a b lim:Int):Bool×yC:=z3W zb0 x a b lim
def slices_pdqsortCmpFunc_api_Term_spec:Ab.Spec ty:=zh (cx:=base) (zd (aOwn 28) (zd (ze (vInt .i64)) (zd (ze (vInt .i64)) (zd (ze (vInt .i64)) (zd (ze (vFn 63 vNil)) aNil))))) fun x=>((zlA x.1 x.2.1 x.2.2.1 x.2.2.2.1).1,⟨[],[some ⟨28,(zlA x.1 x.2.1 x.2.2.1 x.2.2.2.1).2⟩]⟩)
theorem zBi (c:Unit) (x y:Term) (h:(zb0 x y).1=true):annotation_compareLists_spec ((AV.agg (base.enc 28 x)::AV.agg (base.enc 28 y)::(vNil:VL base Unit).enc c).map Arg.pure)=some (true,⟨[.pure (.lit (.int .i64 (zb0 x y).2))],[]⟩):=by
 rw [← h]; kernel_rfl
theorem zzS:SdP 155 slices_pdqsortCmpFunc_api_Term_spec:=by
 letI:DecidableEq (ty 28):=inferInstanceAs (DecidableEq Term)
 exact z99 (T:=28) zi rfl Go.Proofs.Tryz.pdqTerm Tryz.isAgg28 (by unfold szOf; exact Tryz.sizeOf28) Tryz.call155 zlY vNil (fun c=>zb0) zBi
open Go.Proofs Go.RowKit
def zbP (x:yC):Bool×yC:=zzu zb0 x
def ze5:Ab.Spec ty:=zh (cx:=base) (zd (aOwn 28) (zd (ze (vFn 63 vNil)) aNil)) fun x=>((zbP x.1).1,⟨[],[some ⟨28,(zbP x.1).2⟩]⟩)
set_option maxHeartbeats 1000000 in
theorem ztL:SdP 96 ze5 where
 enters:=Tryz.call96
 calls:=fun avs r hsp w F vs hF ha hsep=>by
  unfold ze5 zh at hsp;split at hsp
  ·rename_i x hx;simp only [qa,qb] at hsp;obtain ⟨hpre,rfl⟩:=hsp;have hk:=(zd (aOwn 28) (zd (ze (vFn 63 vNil)) aNil):AL base _).kind vs avs x hx;have ha':=(zd (aOwn 28) (zd (ze (vFn 63 vNil)) aNil):AL base _).ok Tryz.prog zi F w vs avs x hx ha;rw [hk] at hsep ⊢;clear hk hx ha;obtain ⟨l0,c,u0⟩:=x;obtain ⟨l,rfl⟩:∃ l:yC,l=l0:=⟨l0,rfl⟩;obtain ⟨v,vs',rfl,hv,hv'⟩:=ha'.inv;obtain ⟨fv,vs'',rfl,hfv,h0⟩:=hv'.inv;obtain rfl:=h0.nil_left.1
   have hsl:∃ p cap,v=.slice p l.length cap:=by
    obtain ⟨⟨xs,hown,_⟩,_⟩:=(show zcS base F w v 28 l∧∀ b,zbf v=some b→¬ F b from hv)
    rcases hown.2 with ⟨h1,h2⟩ | ⟨g0,cap,cur,h1,_⟩
    ·exact ⟨none,0,by rw [h1,show l.length=0 from h2]⟩
    ·exact ⟨_,cap,h1⟩
   have hok:SortOK (α:=Term) zb0 l:=of_decide_eq_true (p:=SortOK (α:=Term) zb0 l) hpre;have hlen:l.length<4611686018427387904:=hok.size;have hbl:Lib.bitLen l.length<4611686018427387904:=Nat.lt_of_le_of_lt (Lib.bitLen_le l.length 62 (by omega) (by omega)) (by omega)
   have hpp:(zlA l 0 (l.length:Int) ((Lib.bitLen l.length:Nat):Int)).1=true:=by
    show (decide (SortOK (α:=Term) zb0 l)&&(decide ((0:Int)=0)&&(decide ((l.length:Int)=l.length)&&(decide ((0:Int)≤((Lib.bitLen l.length:Nat):Int))&&decide (((Lib.bitLen l.length:Nat):Int)<4611686018427387904)))))=true;simp only [qc,qe];exact ⟨hok,trivial,trivial,by omega,by omega⟩
   have hp:=(zzS).calls [.own 28 l,.pure (.lit (.int .i64 0)),.pure (.lit (.int .i64 (l.length:Int))),.pure (.lit (.int .i64 ((Lib.bitLen l.length:Nat):Int))),.pure (.fn 63 [])] ⟨[],[some ⟨28,(zbP l).2⟩]⟩
    (by rw [← hpp]; kernel_rfl) w F [v,.int .i64 0,.int .i64 (l.length:Int),.int .i64 ((Lib.bitLen l.length:Nat):Int),fv] hF (.cons hv (.cons (Rep.lit _) (.cons (Rep.lit _) (.cons (Rep.lit _) (.cons hfv .nil))))) hsep
   replace hp:Calls Tryz.prog 155 #[v,.int .i64 0,.int .i64 (l.length:Int),.int .i64 ((Lib.bitLen l.length:Nat):Int),fv] w fun e w'=>∃ u,e=.returned u∧Post base F w [v] ⟨[],[some ⟨28,(zbP l).2⟩]⟩ u w':=hp
   show Calls Tryz.prog 96 #[v,fv] w fun e w'=>∃ u,e=.returned u∧Post base F w [v] ⟨[],[some ⟨28,(zbP l).2⟩]⟩ u w'
   have hb:Calls Tryz.prog 156 #[.int .u64 (l.length:Int)] w fun e w'=>e=.returned (.int .i64 ((Lib.bitLen l.length:Nat):Int))∧w'=w:=by
    have h:=Any.bits_Len Go.Proofs.Tryz.lays125 (l.length:Int) w (by omega) (by omega)
    rwa [Int.toNat_natCast] at h
   have wr:IntKind.u64.wrap (l.length:Int)=l.length:=by simp [IntKind.wrap,IntKind.bits,IntKind.signed]; omega
   generalize (zbP l).2=res at hp ⊢;generalize hn:l.length=m at *;generalize Lib.bitLen m=bl at *;clear hpp hv hfv hsep hok hpre hF;obtain ⟨p,cap,rfl⟩:=hsl;clear hn
   go_enter Tryz.func96,Tryz.ntmps96
   go_wp2_with (first | (go_at_call 156; refine hb.mono ?_; rintro e w' ⟨rfl,rfl⟩) | (go_at_call 155; refine hp.mono ?_; rintro e w' ⟨u,rfl,hpost⟩; obtain rfl:=hpost.unit))
   go_end0
   exact ⟨_,rfl,hpost⟩
  ·cases hsp
end Go.Proofs.YtljlfiomikifjaaGreatDoor
namespace Go.Proofs.YtljlfiomikifjaaGreatDoor
open Go Go.Ab
abbrev zky:=Unit×Unit×yC×Int×Int×Unit
abbrev zkh:=(List (_root_.Go.Value×Int))×yC×Unit
def zkk (t11:yC) (t12:Int) (t13:Int) (at_:List (_root_.Go.Value×Int)) (out_:yC):Wy zky zkh (yC):=.i (decide (t13<t12)) (.i (decide (0≤t13)&&decide (t13<Int.ofNat t11.length)) (.bn (zrD (t11.getD t13.toNat default).Factors) fun r0=>.i (zbaM (Value.string r0) at_) (.i (decide (0≤(zD6 (Value.string r0) at_).getD 0)&&decide ((zD6 (Value.string r0) at_).getD 0<Int.ofNat out_.length)) (.i (decide (0≤(zD6 (Value.string r0) at_).getD 0)&&decide ((zD6 (Value.string r0) at_).getD 0<Int.ofNat out_.length)) (.i (decide (Int.toNat ((zD6 (Value.string r0) at_).getD 0)<out_.length)) (.h ((),(),t11,t12,(IntKind.i64.wrap (t13+1)),()) (at_,(out_.set (Int.toNat ((zD6 (Value.string r0) at_).getD 0)) (TermOf.mk (if 1152921504606846976<IntKind.i64.wrap ((out_.getD (Int.toNat ((zD6 (Value.string r0) at_).getD 0)) default).Coeff+(t11.getD t13.toNat default).Coeff) then 1152921504606846976 else IntKind.i64.wrap ((out_.getD (Int.toNat ((zD6 (Value.string r0) at_).getD 0)) default).Coeff+(t11.getD t13.toNat default).Coeff)) (out_.getD (Int.toNat ((zD6 (Value.string r0) at_).getD 0)) default).Factors)),())) .d) .d) .d) (.i (decide ((out_.length+[t11.getD t13.toNat default].length)*32≤reach)) (.h ((),(),t11,t12,(IntKind.i64.wrap (t13+1)),()) ((zbaQ (Value.string r0) (Int.ofNat out_.length) at_),(out_++[t11.getD t13.toNat default]),())) .d)) .d) (.k out_)
def zvq (x:zky) (y:zkh):Wy zky zkh (yC):=zkk x.2.2.1 x.2.2.2.1 x.2.2.2.2.1 y.1 y.2.1
def zvl (n:Nat) (t11:yC) (t12:Int) (t13:Int) (at_:List (_root_.Go.Value×Int)) (out_:yC):Bool×yC:=zF (zvq) default n ((),(),t11,t12,t13,()) (at_,out_,())
def zPd (r:yC):LTree ty:=.done (.exit 0) [.own 208] [.arr 28 r false]
def zPC:LL ty zky:=za (lMp 208) (za (lOwn 209) (za (lSl 28) (za lI64 (za lI64 zn))))
def zPv:BL ty zkh:=bMp 9 3 false (bArr 28 false (bNil))
def zOW (x:zky) (y:zkh):Nat:=(x.2.2.1.length+Int.toNat x.2.2.2.1+Int.toNat x.2.2.2.2.1+y.1.length+y.2.1.length+1)
def zCW:Cx ty:=mkCx base0 52 [(63,annotation_compareLists_spec),(96,ze5),(139,annotation_formatFactors_spec)] [(96,[true,false])] [(4,[(3,.keep),(4,.own 28),(11,.keep),(12,.keep),(13,.keep)])] [(4,1,(kpL [4]))] [(4,spW zPC zPv (zvq) default zPd zOW)] []
theorem zOL:zK zCW (lp (body Tryz.f71) 0):=zu (id:=4) (hl:=rfl)
def zDP (terms:yC):Wy0 (yC):=.bn (zvl (terms.length+(Int.ofNat terms.length).toNat +Int.toNat 0+0+0+1) terms (Int.ofNat terms.length) 0 [] []) fun r3=>.bn (zbP r3) fun r2=>.k r2
def zhP (terms:yC):Bool×yC:=(zDP terms).fin default
def zO1 (r:yC):ARes ty:=⟨[.own 28 r],[]⟩
def zsL:Ab.Spec ty:=zh zY8 fun x=>((zhP x.1).1,zO1 (zhP x.1).2)
theorem zzU:Sound Tryz.prog base0 71 zsL:=
 sW (cx':=zCW) zr zja zk (zj ⟨zlY.nodr,ztL.nodr,zEj,trivial⟩) Tryz.call71 Tryz.func71 (c:=body Tryz.f71) (lOK (aC zOL aN)) (sg:=⟨[.own 28],[]⟩)
def zms (F:yC→Bool×yC):Ab.Spec ty:=zh zU2 fun x=>((F x.1).1,zO1 (F x.1).2)
def zJJ (r:Atom):ARes ty:=⟨[.pure (.agg (base.enc 67 r))],[]⟩
def zl7 (F:Atom→Bool×Atom):Ab.Spec ty:=zh zBK fun x=>((F x.1).1,zJJ (F x.1).2)
def zeI:Cx ty:={ base with nt:=8 }
def zfb (s:yD):Bool×yD:=(decide (s.length*128≤reach),s)
def zlv:Ab.Spec ty:=zh (cx:=base) (zd (ze (vSl 69)) aNil) fun x=>((zfb x.1).1,⟨[.own 69 (zfb x.1).2],[]⟩)
theorem zxN:zg5 zeI Tryz.f95 (body Tryz.f95) ⟨[.own 69],[]⟩ [.pure (.lit (.slice none 0 0))]=some ⟨[.own 69 []],[]⟩:=by kernel_rfl
theorem zv0 (p:Addr) (c:Nat):zg5 zeI Tryz.f95 (body Tryz.f95) ⟨[.own 69],[]⟩ [.pure (.lit (.slice (some p) 0 c))]=some ⟨[.own 69 []],[]⟩:=by kernel_rfl
theorem zxd (l:yD):zg5 zeI Tryz.f95 (body Tryz.f95) ⟨[.own 69],[]⟩ [.pure (.sl 69 l)]=bif !l.isEmpty then bif decide ((([]:List (ty 69)).length+l.length)*128≤reach) then some ⟨[.own 69 l],[]⟩ else none else none:=by kernel_rfl
theorem zwg:SdP 95 zlv:=
 zGk (cx':=zeI) (bytes:=128) zr zi ⟨⟨rfl,rfl,rfl,rfl,rfl,rfl⟩,rfl⟩ (fun g s h=>by cases h) Tryz.call95 Tryz.func95 (c:=body Tryz.f95) (by kernel_rfl) (zAS (l:=[]) (by kernel_rfl) trivial) zxN zv0 zxd (by kernel_rfl)
abbrev zk1:=Unit×Unit×Unit×yC×Int×Int×Int×Int×Unit
abbrev zk0:=yC×Term×yD×Unit
abbrev zpF:=yC×Int×Int×yC×Term×yD
abbrev zll:=Unit×yC×Int×Int×Unit
abbrev zlu:=yC×Unit
def zjK (zJ:Atom→Bool×Atom) (t8:yC) (t9:Int) (t10:Int) (t18:Int) (t19:Int) (out_:yC) (t:Term) (factors:yD):Wy zk1 zk0 zpF:=.i (decide (t19<t18)) (.i (decide (0≤t19)&&decide (t19<Int.ofNat factors.length)) (.bn (zJ (Atom.mk (factors.getD t19.toNat default).Atom.Kind (factors.getD t19.toNat default).Atom.Row (factors.getD t19.toNat default).Atom.Args (factors.getD t19.toNat default).Atom.Func (factors.getD t19.toNat default).Atom.Items (factors.getD t19.toNat default).Atom.Op (factors.getD t19.toNat default).Atom.Bound)) fun r2=>.i (decide (0≤t19)&&decide (t19<Int.ofNat factors.length)) (.i (decide (t19.toNat<factors.length)) (.h ((),(),(),t8,t9,t10,t18,(IntKind.i64.wrap (t19+1)),()) (out_,t,(factors.set t19.toNat (FactorOf.mk (Atom.mk r2.Kind r2.Row r2.Args r2.Func r2.Items r2.Op r2.Bound) (factors.getD t19.toNat default).Exp)),())) .d) .d) .d) (.k (t8,t9,t10,out_,t,factors))
def zt8 (zJ:Atom→Bool×Atom) (x:zk1) (y:zk0):Wy zk1 zk0 zpF:=zjK zJ x.2.2.2.1 x.2.2.2.2.1 x.2.2.2.2.2.1 x.2.2.2.2.2.2.1 x.2.2.2.2.2.2.2.1 y.1 y.2.1 y.2.2.1
def zB3 (zJ:Atom→Bool×Atom) (n:Nat) (t8:yC) (t9:Int) (t10:Int) (t18:Int) (t19:Int) (out_:yC) (t:Term) (factors:yD):Bool×zpF:=zF (zt8 zJ) default n ((),(),(),t8,t9,t10,t18,t19,()) (out_,t,factors,())
def zMK (r:zpF):LTree ty:=.done (.exit 2) [.own 168,.ptr 169 0,.own 170,.sl 28 r.1,.lit (.int .i64 r.2.1),.lit (.int .i64 r.2.2.1)] [.arr 28 r.2.2.2.1 false,.box (base.enc 28 r.2.2.2.2.1) false,.arr 69 r.2.2.2.2.2 false]
def zO3:LL ty zk1:=za (lOwn 168) (za (zeJ 169 0) (za (lOwn 170) (za (lSl 28) (za lI64 (za lI64 (za lI64 (za lI64 zn)))))))
def zO5:BL ty zk0:=bArr 28 false (bBox (zfl (fun x=>(⟨x.1,x.2.1⟩:Term)) (fun x=>(x.Coeff,x.Factors,())) (fun _=>rfl) (za (lInt .i64) (za (lSl 69) zn))) false (bArr 69 false (bNil)))
def zjQ (zJ:Atom→Bool×Atom) (t8:yC) (t9:Int) (t10:Int) (out_:yC):Wy zll zlu (yC):=.i (decide (t10<t9)) (.i (decide (0≤t10)&&decide (t10<Int.ofNat t8.length)) (.bn (zfb (t8.getD t10.toNat default).Factors) fun r5=>.bn (zB3 zJ (t8.length+t9.toNat +t10.toNat +(Int.ofNat r5.length).toNat +Int.toNat 0+out_.length+(t8.getD t10.toNat default).Factors.length+r5.length+1) t8 t9 t10 (Int.ofNat r5.length) 0 out_ (t8.getD t10.toNat default) r5) fun r4=>.i (decide ((r4.2.2.2.1.length+[TermOf.mk r4.2.2.2.2.1.Coeff r4.2.2.2.2.2].length)*32≤reach)) (.h ((),(r4.1),(r4.2.1),(IntKind.i64.wrap (r4.2.2.1+1)),()) ((r4.2.2.2.1++[TermOf.mk r4.2.2.2.2.1.Coeff r4.2.2.2.2.2]),())) .d) .d) (.k out_)
def zuy (zJ:Atom→Bool×Atom) (x:zll) (y:zlu):Wy zll zlu (yC):=zjQ zJ x.2.1 x.2.2.1 x.2.2.2.1 y.1
def zBL (zJ:Atom→Bool×Atom) (n:Nat) (t8:yC) (t9:Int) (t10:Int) (out_:yC):Bool×yC:=zF (zuy zJ) default n ((),t8,t9,t10,()) (out_,())
def zMC (r:yC):LTree ty:=.done (.exit 0) [.own 168] [.arr 28 r false]
def zOs:LL ty zll:=za (lOwn 168) (za (lSl 28) (za lI64 (za lI64 zn)))
def zOi:BL ty zlu:=bArr 28 false (bNil)
def zNg (x:zk1) (y:zk0):Nat:=(x.2.2.2.1.length+Int.toNat x.2.2.2.2.1+Int.toNat x.2.2.2.2.2.1+Int.toNat x.2.2.2.2.2.2.1+Int.toNat x.2.2.2.2.2.2.2.1+y.1.length+y.2.1.Factors.length+y.2.2.1.length+1)
def zMR (x:zll) (y:zlu):Nat:=(x.2.1.length+Int.toNat x.2.2.1+Int.toNat x.2.2.2.1+y.1.length+1)
def zuv (zJ:Atom→Bool×Atom):Cx ty:=mkCx base 42 [(95,zlv),(151,(zl7 zJ))] [] [(3,[(3,.own 28),(8,.keep),(9,.keep),(10,.keep)]),(7,(kpL [3,5,6,8,9,10,18,19]))] [(3,1,(kpL [3])),(7,3,(kpL [3,5,6,8,9,10]))] [(7,spW zO3 zO5 (zt8 zJ) default zMK zNg),(3,spW zOs zOi (zuy zJ) default zMC zMR)] []
theorem zM0 (zJ:Atom→Bool×Atom):zK (zuv zJ) (lp (body Tryz.f87) 1):=zu (id:=7) (hl:=rfl)
theorem zNh (zJ:Atom→Bool×Atom):zK (zuv zJ) (lp (body Tryz.f87) 0):=zu (id:=3) (hl:=rfl)
def zDb (zJ:Atom→Bool×Atom) (a:yC):Wy0 (yC):=.bn (zBL zJ (a.length+(Int.ofNat a.length).toNat +Int.toNat 0+0+1) a (Int.ofNat a.length) 0 []) fun r8=>.k r8
def zmc (zJ:Atom→Bool×Atom) (a:yC):Bool×yC:=(zDb zJ a).fin default
theorem zJo (zJ:Atom→Bool×Atom) (zJw:SdP 151 (zl7 zJ)):SdP 87 (zms (zmc zJ)):=
 sW (cx':=(zuv zJ)) zr zi zk (zj ⟨zwg,zJw,trivial⟩) Tryz.call87 Tryz.func87 (c:=body Tryz.f87) (lOK (aC (zNh zJ) (aC (zM0 zJ) aN))) (sg:=⟨[.own 28],[]⟩)
def zdr:Cx ty:={ base with nt:=8 }
def zd1 (s:yA):Bool×yA:=(decide (s.length*24≤reach),s)
def zhX:Ab.Spec ty:=zh (cx:=base) (zd (ze (vSl 23)) aNil) fun x=>((zd1 x.1).1,⟨[.own 23 (zd1 x.1).2],[]⟩)
theorem zsk:zg5 zdr Tryz.f181 (body Tryz.f181) ⟨[.own 23],[]⟩ [.pure (.lit (.slice none 0 0))]=some ⟨[.own 23 []],[]⟩:=by kernel_rfl
theorem zqv (p:Addr) (c:Nat):zg5 zdr Tryz.f181 (body Tryz.f181) ⟨[.own 23],[]⟩ [.pure (.lit (.slice (some p) 0 c))]=some ⟨[.own 23 []],[]⟩:=by kernel_rfl
theorem zrK (l:yA):zg5 zdr Tryz.f181 (body Tryz.f181) ⟨[.own 23],[]⟩ [.pure (.sl 23 l)]=bif !l.isEmpty then bif decide ((([]:List (ty 23)).length+l.length)*24≤reach) then some ⟨[.own 23 l],[]⟩ else none else none:=by kernel_rfl
theorem zpX:SdP 181 zhX:=
 zGk (cx':=zdr) (bytes:=24) zr zi ⟨⟨rfl,rfl,rfl,rfl,rfl,rfl⟩,rfl⟩ (fun g s h=>by cases h) Tryz.call181 Tryz.func181 (c:=body Tryz.f181) (by kernel_rfl) (zAS (l:=[]) (by kernel_rfl) trivial) zsk zqv zrK (by kernel_rfl)
def zed:Cx ty:={ base with nt:=8 }
def zeB (s:yE):Bool×yE:=(decide (s.length*56≤reach),s)
def zjJ:Ab.Spec ty:=zh (cx:=base) (zd (ze (vSl 100)) aNil) fun x=>((zeB x.1).1,⟨[.own 100 (zeB x.1).2],[]⟩)
theorem zuN:zg5 zed Tryz.f182 (body Tryz.f182) ⟨[.own 100],[]⟩ [.pure (.lit (.slice none 0 0))]=some ⟨[.own 100 []],[]⟩:=by kernel_rfl
theorem ztQ (p:Addr) (c:Nat):zg5 zed Tryz.f182 (body Tryz.f182) ⟨[.own 100],[]⟩ [.pure (.lit (.slice (some p) 0 c))]=some ⟨[.own 100 []],[]⟩:=by kernel_rfl
theorem zuA (l:yE):zg5 zed Tryz.f182 (body Tryz.f182) ⟨[.own 100],[]⟩ [.pure (.sl 100 l)]=bif !l.isEmpty then bif decide ((([]:List (ty 100)).length+l.length)*56≤reach) then some ⟨[.own 100 l],[]⟩ else none else none:=by kernel_rfl
theorem ztw:SdP 182 zjJ:=
 zGk (cx':=zed) (bytes:=56) zr zi ⟨⟨rfl,rfl,rfl,rfl,rfl,rfl⟩,rfl⟩ (fun g s h=>by cases h) Tryz.call182 Tryz.func182 (c:=body Tryz.f182) (by kernel_rfl) (zAS (l:=[]) (by kernel_rfl) trivial) zuN ztQ zuA (by kernel_rfl)
abbrev zcB:=Unit×Unit×Int×Int×Unit
abbrev zhI:=(Int×Int×Int×Unit×Int×yE×Int×Int×Int×ByteArray×Unit)×(Int×Int×Int×Unit×Int×Unit×Int×Int×Int×ByteArray×Unit)×yA×Unit
abbrev zlm:=Int×Int×Int×Int×yE×Int×Int×Int×ByteArray×Int×Int×Int×Int×Int×Int×Int×ByteArray×yA
abbrev zhD:=(Int×Int×Int×Unit×Int×Unit×Int×Int×Int×ByteArray×Unit)×(Int×Int×Int×Unit×Int×Unit×Int×Int×Int×ByteArray×Unit)×yA×yE×Unit
abbrev zk7:=Int×Int×Int×Int×Int×Int×Int×ByteArray×Int×Int×Int×Int×Int×Int×Int×ByteArray×yA×yE
def zgk (zV:yC→Bool×yC) (t11:Int) (t12:Int) (x_0:Int) (x_1:Int) (x_2:Int) (x_3:Int) (x_4:yE) (x_5:Int) (x_6:Int) (x_7:Int) (x_8:ByteArray) (t2_0:Int) (t2_1:Int) (t2_2:Int) (t2_3:Int) (t2_4:Int) (t2_5:Int) (t2_6:Int) (t2_7:ByteArray) (b2:yA):Wy zcB zhI zlm:=.i (decide (t12<t11)) (.i (decide (0≤t12)&&decide (t12<Int.ofNat b2.length)) (.bn (zV (b2.getD t12.toNat default)) fun r0=>.i (decide (0≤t12)&&decide (t12<Int.ofNat b2.length)) (.i (decide (t12.toNat<b2.length)) (.h ((),(),t11,(IntKind.i64.wrap (t12+1)),()) ((x_0,x_1,x_2,(),x_3,x_4,x_5,x_6,x_7,x_8,()),(t2_0,t2_1,t2_2,(),t2_3,(),t2_4,t2_5,t2_6,t2_7,()),(b2.set t12.toNat r0),())) .d) .d) .d) (.k (x_0,x_1,x_2,x_3,x_4,x_5,x_6,x_7,x_8,t2_0,t2_1,t2_2,t2_3,t2_4,t2_5,t2_6,t2_7,b2))
def zoj (zV:yC→Bool×yC) (x:zcB) (y:zhI):Wy zcB zhI zlm:=zgk zV x.2.2.1 x.2.2.2.1 y.1.1 y.1.2.1 y.1.2.2.1 y.1.2.2.2.2.1 y.1.2.2.2.2.2.1 y.1.2.2.2.2.2.2.1 y.1.2.2.2.2.2.2.2.1 y.1.2.2.2.2.2.2.2.2.1 y.1.2.2.2.2.2.2.2.2.2.1 y.2.1.1 y.2.1.2.1 y.2.1.2.2.1 y.2.1.2.2.2.2.1 y.2.1.2.2.2.2.2.2.1 y.2.1.2.2.2.2.2.2.2.1 y.2.1.2.2.2.2.2.2.2.2.1 y.2.1.2.2.2.2.2.2.2.2.2.1 y.2.2.1
def zx1 (zV:yC→Bool×yC) (n:Nat) (t11:Int) (t12:Int) (x_0:Int) (x_1:Int) (x_2:Int) (x_3:Int) (x_4:yE) (x_5:Int) (x_6:Int) (x_7:Int) (x_8:ByteArray) (t2_0:Int) (t2_1:Int) (t2_2:Int) (t2_3:Int) (t2_4:Int) (t2_5:Int) (t2_6:Int) (t2_7:ByteArray) (b2:yA):Bool×zlm:=zF (zoj zV) default n ((),(),t11,t12,()) ((x_0,x_1,x_2,(),x_3,x_4,x_5,x_6,x_7,x_8,()),(t2_0,t2_1,t2_2,(),t2_3,(),t2_4,t2_5,t2_6,t2_7,()),b2,())
def zGV (r:zlm):LTree ty:=.done (.exit 0) [.ptr 200 0,.ptr 201 0] [.box ([.lit (.int .i64 r.1),.lit (.int .i64 r.2.1),.lit (.int .i64 r.2.2.1),.own 202,.lit (.int .i64 r.2.2.2.1),.sl 100 r.2.2.2.2.1,.lit (.int .i64 r.2.2.2.2.2.1),.lit (.int .i64 r.2.2.2.2.2.2.1),.lit (.int .i64 r.2.2.2.2.2.2.2.1),.lit (.string r.2.2.2.2.2.2.2.2.1)]) false,.box ([.lit (.int .i64 r.2.2.2.2.2.2.2.2.2.1),.lit (.int .i64 r.2.2.2.2.2.2.2.2.2.2.1),.lit (.int .i64 r.2.2.2.2.2.2.2.2.2.2.2.1),.lit (.slice none 0 0),.lit (.int .i64 r.2.2.2.2.2.2.2.2.2.2.2.2.1),.lit (.slice none 0 0),.lit (.int .i64 r.2.2.2.2.2.2.2.2.2.2.2.2.2.1),.lit (.int .i64 r.2.2.2.2.2.2.2.2.2.2.2.2.2.2.1),.lit (.int .i64 r.2.2.2.2.2.2.2.2.2.2.2.2.2.2.2.1),.lit (.string r.2.2.2.2.2.2.2.2.2.2.2.2.2.2.2.2.1)]) false,.arr 23 r.2.2.2.2.2.2.2.2.2.2.2.2.2.2.2.2.2 false]
def zHK:LL ty zcB:=za (zeJ 200 0) (za (zeJ 201 0) (za lI64 (za lI64 zn)))
def zHT:BL ty zhI:=bBox (za (lInt .i64) (za (lInt .i64) (za (lInt .i64) (za (lOwn 202) (za (lInt .i64) (za (lSl 100) (za (lInt .i64) (za (lInt .i64) (za (lInt .i64) (za lStr zn)))))))))) false (bBox (za (lInt .i64) (za (lInt .i64) (za (lInt .i64) (za lNil (za (lInt .i64) (za lNil (za (lInt .i64) (za (lInt .i64) (za (lInt .i64) (za lStr zn)))))))))) false (bArr 23 false (bNil)))
def zgp (zV:yC→Bool×yC) (t32:Int) (t33:Int) (x_0:Int) (x_1:Int) (x_2:Int) (x_3:Int) (x_4:Int) (x_5:Int) (x_6:Int) (x_7:ByteArray) (t2_0:Int) (t2_1:Int) (t2_2:Int) (t2_3:Int) (t2_4:Int) (t2_5:Int) (t2_6:Int) (t2_7:ByteArray) (b2:yA) (b3:yE):Wy zcB zhD zk7:=.i (decide (t33<t32)) (.i (decide (0≤t33)&&decide (t33<Int.ofNat b3.length)) (.bn (zV (b3.getD t33.toNat default).Ann) fun r2=>.i (decide (0≤t33)&&decide (t33<Int.ofNat b3.length)) (.i (decide (t33.toNat<b3.length)) (.h ((),(),t32,(IntKind.i64.wrap (t33+1)),()) ((x_0,x_1,x_2,(),x_3,(),x_4,x_5,x_6,x_7,()),(t2_0,t2_1,t2_2,(),t2_3,(),t2_4,t2_5,t2_6,t2_7,()),b2,(b3.set t33.toNat (WeightedOf.mk (b3.getD t33.toNat default).Value r2)),())) .d) .d) .d) (.k (x_0,x_1,x_2,x_3,x_4,x_5,x_6,x_7,t2_0,t2_1,t2_2,t2_3,t2_4,t2_5,t2_6,t2_7,b2,b3))
def zop (zV:yC→Bool×yC) (x:zcB) (y:zhD):Wy zcB zhD zk7:=zgp zV x.2.2.1 x.2.2.2.1 y.1.1 y.1.2.1 y.1.2.2.1 y.1.2.2.2.2.1 y.1.2.2.2.2.2.2.1 y.1.2.2.2.2.2.2.2.1 y.1.2.2.2.2.2.2.2.2.1 y.1.2.2.2.2.2.2.2.2.2.1 y.2.1.1 y.2.1.2.1 y.2.1.2.2.1 y.2.1.2.2.2.2.1 y.2.1.2.2.2.2.2.2.1 y.2.1.2.2.2.2.2.2.2.1 y.2.1.2.2.2.2.2.2.2.2.1 y.2.1.2.2.2.2.2.2.2.2.2.1 y.2.2.1 y.2.2.2.1
def zxv (zV:yC→Bool×yC) (n:Nat) (t32:Int) (t33:Int) (x_0:Int) (x_1:Int) (x_2:Int) (x_3:Int) (x_4:Int) (x_5:Int) (x_6:Int) (x_7:ByteArray) (t2_0:Int) (t2_1:Int) (t2_2:Int) (t2_3:Int) (t2_4:Int) (t2_5:Int) (t2_6:Int) (t2_7:ByteArray) (b2:yA) (b3:yE):Bool×zk7:=zF (zop zV) default n ((),(),t32,t33,()) ((x_0,x_1,x_2,(),x_3,(),x_4,x_5,x_6,x_7,()),(t2_0,t2_1,t2_2,(),t2_3,(),t2_4,t2_5,t2_6,t2_7,()),b2,b3,())
def zHn (r:zk7):LTree ty:=.done (.exit 2) [.ptr 200 0,.ptr 201 0] [.box ([.lit (.int .i64 r.1),.lit (.int .i64 r.2.1),.lit (.int .i64 r.2.2.1),.own 202,.lit (.int .i64 r.2.2.2.1),.own 203,.lit (.int .i64 r.2.2.2.2.1),.lit (.int .i64 r.2.2.2.2.2.1),.lit (.int .i64 r.2.2.2.2.2.2.1),.lit (.string r.2.2.2.2.2.2.2.1)]) false,.box ([.lit (.int .i64 r.2.2.2.2.2.2.2.2.1),.lit (.int .i64 r.2.2.2.2.2.2.2.2.2.1),.lit (.int .i64 r.2.2.2.2.2.2.2.2.2.2.1),.lit (.slice none 0 0),.lit (.int .i64 r.2.2.2.2.2.2.2.2.2.2.2.1),.lit (.slice none 0 0),.lit (.int .i64 r.2.2.2.2.2.2.2.2.2.2.2.2.1),.lit (.int .i64 r.2.2.2.2.2.2.2.2.2.2.2.2.2.1),.lit (.int .i64 r.2.2.2.2.2.2.2.2.2.2.2.2.2.2.1),.lit (.string r.2.2.2.2.2.2.2.2.2.2.2.2.2.2.2.1)]) false,.arr 23 r.2.2.2.2.2.2.2.2.2.2.2.2.2.2.2.2.1 false,.arr 100 r.2.2.2.2.2.2.2.2.2.2.2.2.2.2.2.2.2 false]
def zID:BL ty zhD:=bBox (za (lInt .i64) (za (lInt .i64) (za (lInt .i64) (za (lOwn 202) (za (lInt .i64) (za (lOwn 203) (za (lInt .i64) (za (lInt .i64) (za (lInt .i64) (za lStr zn)))))))))) false (bBox (za (lInt .i64) (za (lInt .i64) (za (lInt .i64) (za lNil (za (lInt .i64) (za lNil (za (lInt .i64) (za (lInt .i64) (za (lInt .i64) (za lStr zn)))))))))) false (bArr 23 false (bArr 100 false (bNil))))
def zG1 (x:zcB) (y:zhI):Nat:=(Int.toNat x.2.2.1+Int.toNat x.2.2.2.1+Int.toNat y.1.1+Int.toNat y.1.2.1+Int.toNat y.1.2.2.1+Int.toNat y.1.2.2.2.2.1+y.1.2.2.2.2.2.1.length+Int.toNat y.1.2.2.2.2.2.2.1+Int.toNat y.1.2.2.2.2.2.2.2.1+Int.toNat y.1.2.2.2.2.2.2.2.2.1+y.1.2.2.2.2.2.2.2.2.2.1.size+Int.toNat y.2.1.1+Int.toNat y.2.1.2.1+Int.toNat y.2.1.2.2.1+Int.toNat y.2.1.2.2.2.2.1+Int.toNat y.2.1.2.2.2.2.2.2.1+Int.toNat y.2.1.2.2.2.2.2.2.2.1+Int.toNat y.2.1.2.2.2.2.2.2.2.2.1+y.2.1.2.2.2.2.2.2.2.2.2.1.size+y.2.2.1.length+1)
def zHd (x:zcB) (y:zhD):Nat:=(Int.toNat x.2.2.1+Int.toNat x.2.2.2.1+Int.toNat y.1.1+Int.toNat y.1.2.1+Int.toNat y.1.2.2.1+Int.toNat y.1.2.2.2.2.1+Int.toNat y.1.2.2.2.2.2.2.1+Int.toNat y.1.2.2.2.2.2.2.2.1+Int.toNat y.1.2.2.2.2.2.2.2.2.1+y.1.2.2.2.2.2.2.2.2.2.1.size+Int.toNat y.2.1.1+Int.toNat y.2.1.2.1+Int.toNat y.2.1.2.2.1+Int.toNat y.2.1.2.2.2.2.1+Int.toNat y.2.1.2.2.2.2.2.2.1+Int.toNat y.2.1.2.2.2.2.2.2.2.1+Int.toNat y.2.1.2.2.2.2.2.2.2.2.1+y.2.1.2.2.2.2.2.2.2.2.2.1.size+y.2.2.1.length+y.2.2.2.1.length+1)
def zol (zV:yC→Bool×yC):Cx ty:=mkCx base 50 [(87,(zms zV)),(181,zhX),(182,zjJ)] [] [(3,(kpL [1,2,11,12])),(9,(kpL [1,2,32,33]))] [(3,1,(kpL [1,2])),(9,3,(kpL [1,2]))] [(3,spW zHK zHT (zoj zV) default zGV zG1),(9,spW zHK zID (zop zV) default zHn zHd)] []
theorem zHb (zV:yC→Bool×yC):zK (zol zV) (lp (body Tryz.f151) 0):=zu (id:=3) (hl:=rfl)
theorem zGY (zV:yC→Bool×yC):zK (zol zV) (lp (body Tryz.f151) 1):=zu (id:=9) (hl:=rfl)
def zyV (zV:yC→Bool×yC) (x_:Atom):Wy0 (Atom):=.bn (zd1 x_.Args) fun r7=>.bn (zx1 zV ((Int.ofNat r7.length).toNat +Int.toNat 0+x_.Kind.toNat +x_.Row.Table.toNat +x_.Row.Seq.toNat +x_.Func.toNat +x_.Items.length+x_.Op.toNat +x_.Bound.Kind.toNat +x_.Bound.Int.toNat +x_.Bound.Text.size+Int.toNat 0+Int.toNat 0+Int.toNat 0+Int.toNat 0+Int.toNat 0+Int.toNat 0+Int.toNat 0+(ByteArray.mk #[]).size+r7.length+1) (Int.ofNat r7.length) 0 x_.Kind x_.Row.Table x_.Row.Seq x_.Func x_.Items x_.Op x_.Bound.Kind x_.Bound.Int x_.Bound.Text 0 0 0 0 0 0 0 (ByteArray.mk #[]) r7) fun r6=>.bn (zeB r6.2.2.2.2.1) fun r5=>.bn (zxv zV ((Int.ofNat r5.length).toNat +Int.toNat 0+r6.1.toNat +r6.2.1.toNat +r6.2.2.1.toNat +r6.2.2.2.1.toNat +r6.2.2.2.2.2.1.toNat +r6.2.2.2.2.2.2.1.toNat +r6.2.2.2.2.2.2.2.1.toNat +r6.2.2.2.2.2.2.2.2.1.size+r6.2.2.2.2.2.2.2.2.2.1.toNat +r6.2.2.2.2.2.2.2.2.2.2.1.toNat +r6.2.2.2.2.2.2.2.2.2.2.2.1.toNat +r6.2.2.2.2.2.2.2.2.2.2.2.2.1.toNat +r6.2.2.2.2.2.2.2.2.2.2.2.2.2.1.toNat +r6.2.2.2.2.2.2.2.2.2.2.2.2.2.2.1.toNat +r6.2.2.2.2.2.2.2.2.2.2.2.2.2.2.2.1.toNat +r6.2.2.2.2.2.2.2.2.2.2.2.2.2.2.2.2.1.size+r6.2.2.2.2.2.2.2.2.2.2.2.2.2.2.2.2.2.length+r5.length+1) (Int.ofNat r5.length) 0 r6.1 r6.2.1 r6.2.2.1 r6.2.2.2.1 r6.2.2.2.2.2.1 r6.2.2.2.2.2.2.1 r6.2.2.2.2.2.2.2.1 r6.2.2.2.2.2.2.2.2.1 r6.2.2.2.2.2.2.2.2.2.1 r6.2.2.2.2.2.2.2.2.2.2.1 r6.2.2.2.2.2.2.2.2.2.2.2.1 r6.2.2.2.2.2.2.2.2.2.2.2.2.1 r6.2.2.2.2.2.2.2.2.2.2.2.2.2.1 r6.2.2.2.2.2.2.2.2.2.2.2.2.2.2.1 r6.2.2.2.2.2.2.2.2.2.2.2.2.2.2.2.1 r6.2.2.2.2.2.2.2.2.2.2.2.2.2.2.2.2.1 r6.2.2.2.2.2.2.2.2.2.2.2.2.2.2.2.2.2 r5) fun r4=>.k (⟨r4.1,(⟨r4.2.1,r4.2.2.1⟩:RowID),r4.2.2.2.2.2.2.2.2.2.2.2.2.2.2.2.2.1,r4.2.2.2.1,r4.2.2.2.2.2.2.2.2.2.2.2.2.2.2.2.2.2,r4.2.2.2.2.1,(⟨r4.2.2.2.2.2.1,r4.2.2.2.2.2.2.1,r4.2.2.2.2.2.2.2.1⟩:Value)⟩:Atom)
def ziP (zV:yC→Bool×yC) (x_:Atom):Bool×Atom:=(zyV zV x_).fin default
theorem zEB (zV:yC→Bool×yC) (zPq:SdP 87 (zms zV)):SdP 151 (zl7 (ziP zV)):=
 sW (cx':=(zol zV)) zr zi zk (zj ⟨zPq,zpX,ztw,trivial⟩) Tryz.call151 Tryz.func151 (c:=body Tryz.f151) (lOK (aC (zHb zV) (aC (zGY zV) aN)))
def zKb:Nat→(yC→Bool×yC)×(Atom→Bool×Atom)
 | 0=>(fun _=>(false,default),fun _=>(false,default))
 | n+1=>(zmc ((zKb n).2),ziP ((zKb n).1))
def zmp (n:Nat):yC→Bool×yC:=(zKb n).1
def zl0 (n:Nat):Atom→Bool×Atom:=(zKb n).2
theorem zOz (n:Nat):zmp (n+1)=zmc (zl0 n):=rfl
theorem zIz (n:Nat):zl0 (n+1)=ziP (zmp n):=rfl
theorem zVk:∀ n,SdP 87 (zms (zmp n))∧SdP 151 (zl7 (zl0 n))
 | 0=>⟨z6 Tryz.call87 (fun _=>rfl),z6 Tryz.call151 (fun _=>rfl)⟩
 | n+1=>by
  have ih:=zVk n;exact ⟨zJo _ (ih.2),zEB _ (ih.1)⟩
def zgK:yC→Bool×yC:=zmp 1000
def annotation_copied_spec:Ab.Spec ty:=zms zgK
theorem ziF:SdP 87 annotation_copied_spec:=(zVk 1000).1
def zQt:Cx ty:=mkCx base 9 [(62,zug),(87,annotation_copied_spec)] [] [] [] [] []
def zEd (a:yC):Wy0 (yC×Int):=.bn (zlI a) fun r1=>.i (!r1) (.k ([],6)) (.bn (zgK a) fun r0=>.k (r0,0))
def zey (a:yC):Bool×(yC×Int):=(zEd a).fin default
def zeS:Ab.Spec ty:=zh zU2 fun x=>((zey x.1).1,zOh (zey x.1).2)
theorem zfw:SdP 70 zeS:=
 sW (cx':=zQt) zr zi zk (zj ⟨zA9,ziF,trivial⟩) Tryz.call70 Tryz.func70 (c:=body Tryz.f70) (lOK aN) (sg:=⟨[.own 28,.pure],[]⟩)
def zyt:Cx ty:=mkCx base 27 [] [] [] [] [] []
def zmM (n_:Int):Wy0 (yC):=.i (decide (n_<0)) .d (.i (decide (IntKind.i64.wrap (n_ - IntKind.i64.wrap (0 - 0))>0)) (.i (decide (0<IntKind.i64.wrap (n_ - IntKind.i64.wrap (0 - 0)))&&(decide (IntKind.i64.wrap (n_ - IntKind.i64.wrap (0 - 0))*Int.ofNat 32≤Int.ofNat reach)&&(decide (IntKind.i64.wrap (n_ - IntKind.i64.wrap (0 - 0))≤Int.ofNat reach)&& !Nat.beq 2 0))) (.k (List.take (Int.toNat 0 - Int.toNat 0) (List.replicate (IntKind.i64.wrap (n_ - IntKind.i64.wrap (0 - 0))).toNat (TermOf.mk 0 [])))) .d) (.k []))
def zd7 (n_:Int):Bool×yC:=(zmM n_).fin default
def zze:AL base (Unit×Int×Unit):=zd (ze zbdt) (zd (ze vI64) aNil)
def zlb:Ab.Spec ty:=zh zze fun x=>((zd7 x.2.1).1,zO1 (zd7 x.2.1).2)
theorem zwh:SdP 140 zlb:=
 sW (cx':=zyt) zr zi zk (zj trivial) Tryz.call140 Tryz.func140 (c:=body Tryz.f140) (lOK aN) (sg:=⟨[.own 28],[]⟩)
abbrev zdU:=yA×Int×yA×Int×Int×Unit
abbrev zeV:=yA×Int
abbrev zdT:=Unit×yA×Int×Int×Unit
abbrev zdW:=yC×Unit
def zdi (slices:yA) (size:Int) (t9:yA) (t10:Int) (t11:Int):Wy zdU (Unit) zeV:=.i (decide (t11<t10)) (.i (decide (0≤t11)&&decide (t11<Int.ofNat t9.length)) (.i (decide (IntKind.i64.wrap (size+Int.ofNat (List.length (t9.getD t11.toNat default)))<0)) .d (.h (slices,(IntKind.i64.wrap (size+Int.ofNat (List.length (t9.getD t11.toNat default)))),t9,t10,(IntKind.i64.wrap (t11+1)),()) ())) .d) (.k (slices,size))
def zf7 (x:zdU) (y:Unit):Wy zdU (Unit) zeV:=zdi x.1 x.2.1 x.2.2.1 x.2.2.2.1 x.2.2.2.2.1
def zlg (n:Nat) (slices:yA) (size:Int) (t9:yA) (t10:Int) (t11:Int):Bool×zeV:=zF (zf7) default n (slices,size,t9,t10,t11,()) ()
def zv6 (r:zeV):LTree ty:=.done (.exit 0) [.sl 23 r.1,.lit (.int .i64 r.2)] []
def zwD:LL ty zdU:=za (lSl 23) (za lI64 (za (lSl 23) (za lI64 (za lI64 zn))))
def zcX (t25:yA) (t26:Int) (t27:Int) (newslice:yC):Wy zdT zdW (yC):=.i (decide (t27<t26)) (.i (decide (0≤t27)&&decide (t27<Int.ofNat t25.length)) (.i (decide ((newslice.length+List.length (t25.getD t27.toNat default))*32≤reach)) (.h ((),t25,t26,(IntKind.i64.wrap (t27+1)),()) ((newslice++t25.getD t27.toNat default),())) .d) .d) (.k newslice)
def zfM (x:zdT) (y:zdW):Wy zdT zdW (yC):=zcX x.2.1 x.2.2.1 x.2.2.2.1 y.1
def zkV (n:Nat) (t25:yA) (t26:Int) (t27:Int) (newslice:yC):Bool×yC:=zF (zfM) default n ((),t25,t26,t27,()) (newslice,())
def zvd (r:yC):LTree ty:=.done (.exit 2) [.own 144] [.arr 28 r false]
def zwf:LL ty zdT:=za (lOwn 144) (za (lSl 23) (za lI64 (za lI64 zn)))
def zvZ:BL ty zdW:=bArr 28 false (bNil)
def zv4 (x:zdU) (y:Unit):Nat:=(x.1.length+Int.toNat x.2.1+x.2.2.1.length+Int.toNat x.2.2.2.1+Int.toNat x.2.2.2.2.1+1)
def zvQ (x:zdT) (y:zdW):Nat:=(x.2.1.length+Int.toNat x.2.2.1+Int.toNat x.2.2.2.1+y.1.length+1)
def zgb:Cx ty:=mkCx base 36 [(140,zlb)] [] [(3,(kpL [0,3,9,10,11])),(11,(kpL [6,25,26,27]))] [(3,1,(kpL [0,3])),(11,3,(kpL [6]))] [(3,spW zwD z6c (zf7) default zv6 zv4),(11,spW zwf zvZ (zfM) default zvd zvQ)] [140]
theorem zv2:zK zgb (lp (body Tryz.f72) 0):=zu (id:=3) (hl:=rfl)
theorem zvt:zK zgb (lp (body Tryz.f72) 1):=zu (id:=11) (hl:=rfl)
def zlP (slices:yA):Wy0 (yC):=.bn (zlg (slices.length+Int.toNat 0+slices.length+(Int.ofNat slices.length).toNat +Int.toNat 0+1) slices 0 slices (Int.ofNat slices.length) 0) fun r2=>.bn (zd7 r2.2) fun r1=>.bn (zkV (r2.1.length+(Int.ofNat r2.1.length).toNat +Int.toNat 0+r1.length+1) r2.1 (Int.ofNat r2.1.length) 0 r1) fun r0=>.k r0
def zdM (slices:yA):Bool×yC:=(zlP slices).fin default
def zxW:AL base (yA×Unit):=zd (ze (vSl 23)) aNil
def zkj:Ab.Spec ty:=zh zxW fun x=>((zdM x.1).1,zO1 (zdM x.1).2)
theorem zuP:SdP 72 zkj:=
 sW (cx':=zgb) zr zi zk (zj ⟨zwh,trivial⟩) Tryz.call72 Tryz.func72 (c:=body Tryz.f72) (lOK (aC zv2 (aC zvt aN))) (sg:=⟨[.own 28],[]⟩)
def zXV:Cx ty:=mkCx base0 22 [(20,annotation_Valid_spec),(70,zeS),(71,zsL),(72,zkj)] [] [] [] [] []
def zKy (a:yC) (b:yC):Wy0 (yC×Int):=.bn (zbU a) fun r4=>.i (!r4) (.k ([],1)) (.bn (zbU b) fun r3=>.i (!r3) (.k ([],1)) (.bn (zdM [a,b]) fun r2=>.bn (zhP r2) fun r1=>.bn (zey r1) fun r0=>.k (r0.1,r0.2)))
def zp2 (a:yC) (b:yC):Bool×(yC×Int):=(zKy a b).fin default
def z0P:AL base0 (yC×yC×Unit):=zd (ze (vSl 28)) (zd (ze (vSl 28)) aNil)
def zyv:Ab.Spec ty:=zh z0P fun x=>((zp2 x.1 x.2.1).1,zOh (zp2 x.1 x.2.1).2)
theorem zDM:Sound Tryz.prog base0 23 zyv:=
 sW (cx':=zXV) zr zja zk (zj ⟨zb9.nodr,zfw.nodr,zzU,zuP.nodr,trivial⟩) Tryz.call23 Tryz.func23 (c:=body Tryz.f23) (lOK aN) (sg:=⟨[.own 28,.pure],[]⟩)
def zTy:Cx ty:=mkCx base 9 [] [] [] [] [] []
def zHi (n_:Int):Wy0 (yC):=.i (decide (n_<1)) (.k []) (.k [TermOf.mk (if 1152921504606846976<n_ then 1152921504606846976 else n_) []])
def zqN (n_:Int):Bool×yC:=(zHi n_).fin default
def zCZ:Ab.Spec ty:=zh zXR fun x=>((zqN x.1).1,zO1 (zqN x.1).2)
theorem zOT:SdP 149 zCZ:=
 sW (cx':=zTy) zr zi zk (zj trivial) Tryz.call149 Tryz.func149 (c:=body Tryz.f149) (lOK aN) (sg:=⟨[.own 28],[]⟩)
def zzl:Cx ty:=mkCx base 27 [] [] [] [] [] []
def znu (n_:Int):Wy0 (yD):=.i (decide (n_<0)) .d (.i (decide (IntKind.i64.wrap (n_ - IntKind.i64.wrap (0 - 0))>0)) (.i (decide (0<IntKind.i64.wrap (n_ - IntKind.i64.wrap (0 - 0)))&&(decide (IntKind.i64.wrap (n_ - IntKind.i64.wrap (0 - 0))*Int.ofNat 128≤Int.ofNat reach)&&(decide (IntKind.i64.wrap (n_ - IntKind.i64.wrap (0 - 0))≤Int.ofNat reach)&& !Nat.beq 11 0))) (.k (List.take (Int.toNat 0 - Int.toNat 0) (List.replicate (IntKind.i64.wrap (n_ - IntKind.i64.wrap (0 - 0))).toNat (FactorOf.mk (Atom.mk 0 (RowID.mk 0 0) [] 0 [] 0 (Value.mk 0 0 (ByteArray.mk #[]))) 0)))) .d) (.k []))
def zeo (n_:Int):Bool×yD:=(znu n_).fin default
def zyl (r:yD):ARes ty:=⟨[.own 69 r],[]⟩
def zlO:Ab.Spec ty:=zh zze fun x=>((zeo x.2.1).1,zyl (zeo x.2.1).2)
theorem zwZ:SdP 220 zlO:=
 sW (cx':=zzl) zr zi zk (zj trivial) Tryz.call220 Tryz.func220 (c:=body Tryz.f220) (lOK aN) (sg:=⟨[.own 69],[]⟩)
abbrev zea:=List (yD)×Int×List (yD)×Int×Int×Unit
abbrev ze7:=List (yD)×Int
abbrev zec:=Unit×List (yD)×Int×Int×Unit
abbrev zd6:=yD×Unit
def zdm (slices:List (yD)) (size:Int) (t9:List (yD)) (t10:Int) (t11:Int):Wy zea (Unit) ze7:=.i (decide (t11<t10)) (.i (decide (0≤t11)&&decide (t11<Int.ofNat t9.length)) (.i (decide (IntKind.i64.wrap (size+Int.ofNat (List.length (t9.getD t11.toNat default)))<0)) .d (.h (slices,(IntKind.i64.wrap (size+Int.ofNat (List.length (t9.getD t11.toNat default)))),t9,t10,(IntKind.i64.wrap (t11+1)),()) ())) .d) (.k (slices,size))
def zgi (x:zea) (y:Unit):Wy zea (Unit) ze7:=zdm x.1 x.2.1 x.2.2.1 x.2.2.2.1 x.2.2.2.2.1
def zlN (n:Nat) (slices:List (yD)) (size:Int) (t9:List (yD)) (t10:Int) (t11:Int):Bool×ze7:=zF (zgi) default n (slices,size,t9,t10,t11,()) ()
def zwC (r:ze7):LTree ty:=.done (.exit 0) [.sl 26 r.1,.lit (.int .i64 r.2)] []
def zx4:LL ty zea:=za (lSl 26) (za lI64 (za (lSl 26) (za lI64 (za lI64 zn))))
def zda (t25:List (yD)) (t26:Int) (t27:Int) (newslice:yD):Wy zec zd6 (yD):=.i (decide (t27<t26)) (.i (decide (0≤t27)&&decide (t27<Int.ofNat t25.length)) (.i (decide ((newslice.length+List.length (t25.getD t27.toNat default))*128≤reach)) (.h ((),t25,t26,(IntKind.i64.wrap (t27+1)),()) ((newslice++t25.getD t27.toNat default),())) .d) .d) (.k newslice)
def zf6 (x:zec) (y:zd6):Wy zec zd6 (yD):=zda x.2.1 x.2.2.1 x.2.2.2.1 y.1
def zlD (n:Nat) (t25:List (yD)) (t26:Int) (t27:Int) (newslice:yD):Bool×yD:=zF (zf6) default n ((),t25,t26,t27,()) (newslice,())
def zwd (r:yD):LTree ty:=.done (.exit 2) [.own 144] [.arr 69 r false]
def zw7:LL ty zec:=za (lOwn 144) (za (lSl 26) (za lI64 (za lI64 zn)))
def zxc:BL ty zd6:=bArr 69 false (bNil)
def zwU (x:zea) (y:Unit):Nat:=(x.1.length+Int.toNat x.2.1+x.2.2.1.length+Int.toNat x.2.2.2.1+Int.toNat x.2.2.2.2.1+1)
def zwa (x:zec) (y:zd6):Nat:=(x.2.1.length+Int.toNat x.2.2.1+Int.toNat x.2.2.2.1+y.1.length+1)
def zgq:Cx ty:=mkCx base 36 [(220,zlO)] [] [(3,(kpL [0,3,9,10,11])),(11,(kpL [6,25,26,27]))] [(3,1,(kpL [0,3])),(11,3,(kpL [6]))] [(3,spW zx4 z6c (zgi) default zwC zwU),(11,spW zw7 zxc (zf6) default zwd zwa)] [220]
theorem zwy:zK zgq (lp (body Tryz.f183) 0):=zu (id:=3) (hl:=rfl)
theorem zv8:zK zgq (lp (body Tryz.f183) 1):=zu (id:=11) (hl:=rfl)
def zmx (slices:List (yD)):Wy0 (yD):=.bn (zlN (slices.length+Int.toNat 0+slices.length+(Int.ofNat slices.length).toNat +Int.toNat 0+1) slices 0 slices (Int.ofNat slices.length) 0) fun r2=>.bn (zeo r2.2) fun r1=>.bn (zlD (r2.1.length+(Int.ofNat r2.1.length).toNat +Int.toNat 0+r1.length+1) r2.1 (Int.ofNat r2.1.length) 0 r1) fun r0=>.k r0
def zdS (slices:List (yD)):Bool×yD:=(zmx slices).fin default
def zyj:AL base (List (yD)×Unit):=zd (ze (vSl 26)) aNil
def zkU:Ab.Spec ty:=zh zyj fun x=>((zdS x.1).1,zyl (zdS x.1).2)
theorem zu2:SdP 183 zkU:=
 sW (cx':=zgq) zr zi zk (zj ⟨zwZ,trivial⟩) Tryz.call183 Tryz.func183 (c:=body Tryz.f183) (lOK (aC zwy (aC zv8 aN))) (sg:=⟨[.own 69],[]⟩)
abbrev zm6:=yD×yD×Unit×Unit
abbrev znF:=yD×Unit
abbrev zth:=yD×yD×yD
def zAp (a:yD) (b:yD) (out_:yD):Wy zm6 znF zth:=.i (decide (Int.ofNat a.length>0)) (.i (decide (Int.ofNat b.length>0)) (.i (decide ((0:Int)≤(0:Int))&&decide (0<Int.ofNat a.length)) (.i (decide ((0:Int)≤(0:Int))&&decide (0<Int.ofNat b.length)) (.bn (ziR (Atom.mk (a.getD (Int.toNat 0) default).Atom.Kind (a.getD (Int.toNat 0) default).Atom.Row (a.getD (Int.toNat 0) default).Atom.Args (a.getD (Int.toNat 0) default).Atom.Func (a.getD (Int.toNat 0) default).Atom.Items (a.getD (Int.toNat 0) default).Atom.Op (a.getD (Int.toNat 0) default).Atom.Bound) (Atom.mk (b.getD (Int.toNat 0) default).Atom.Kind (b.getD (Int.toNat 0) default).Atom.Row (b.getD (Int.toNat 0) default).Atom.Args (b.getD (Int.toNat 0) default).Atom.Func (b.getD (Int.toNat 0) default).Atom.Items (b.getD (Int.toNat 0) default).Atom.Op (b.getD (Int.toNat 0) default).Atom.Bound)) fun r1=>.i (decide (r1<0)) (.i (decide ((0:Int)≤(0:Int))&&decide (0<Int.ofNat a.length)) (.i (decide ((out_.length+[FactorOf.mk (Atom.mk (a.getD (Int.toNat 0) default).Atom.Kind (a.getD (Int.toNat 0) default).Atom.Row (a.getD (Int.toNat 0) default).Atom.Args (a.getD (Int.toNat 0) default).Atom.Func (a.getD (Int.toNat 0) default).Atom.Items (a.getD (Int.toNat 0) default).Atom.Op (a.getD (Int.toNat 0) default).Atom.Bound) (a.getD (Int.toNat 0) default).Exp].length)*128≤reach)) (.i (decide ((0:Int)≤(1:Int))&&decide (1≤Int.ofNat a.length)&&decide (Int.ofNat a.length≤Int.ofNat a.length)) (.h ((List.take ((Int.ofNat a.length).toNat - Int.toNat 1) (List.drop (Int.toNat 1) a)),b,(),()) ((out_++[FactorOf.mk (Atom.mk (a.getD (Int.toNat 0) default).Atom.Kind (a.getD (Int.toNat 0) default).Atom.Row (a.getD (Int.toNat 0) default).Atom.Args (a.getD (Int.toNat 0) default).Atom.Func (a.getD (Int.toNat 0) default).Atom.Items (a.getD (Int.toNat 0) default).Atom.Op (a.getD (Int.toNat 0) default).Atom.Bound) (a.getD (Int.toNat 0) default).Exp]),())) .d) .d) .d) (.i (decide (r1>0)) (.i (decide ((0:Int)≤(0:Int))&&decide (0<Int.ofNat b.length)) (.i (decide ((out_.length+[FactorOf.mk (Atom.mk (b.getD (Int.toNat 0) default).Atom.Kind (b.getD (Int.toNat 0) default).Atom.Row (b.getD (Int.toNat 0) default).Atom.Args (b.getD (Int.toNat 0) default).Atom.Func (b.getD (Int.toNat 0) default).Atom.Items (b.getD (Int.toNat 0) default).Atom.Op (b.getD (Int.toNat 0) default).Atom.Bound) (b.getD (Int.toNat 0) default).Exp].length)*128≤reach)) (.i (decide ((0:Int)≤(1:Int))&&decide (1≤Int.ofNat b.length)&&decide (Int.ofNat b.length≤Int.ofNat b.length)) (.h (a,(List.take ((Int.ofNat b.length).toNat - Int.toNat 1) (List.drop (Int.toNat 1) b)),(),()) ((out_++[FactorOf.mk (Atom.mk (b.getD (Int.toNat 0) default).Atom.Kind (b.getD (Int.toNat 0) default).Atom.Row (b.getD (Int.toNat 0) default).Atom.Args (b.getD (Int.toNat 0) default).Atom.Func (b.getD (Int.toNat 0) default).Atom.Items (b.getD (Int.toNat 0) default).Atom.Op (b.getD (Int.toNat 0) default).Atom.Bound) (b.getD (Int.toNat 0) default).Exp]),())) .d) .d) .d) (.i (decide ((0:Int)≤(0:Int))&&decide (0<Int.ofNat a.length)) (.bn (zfz (Atom.mk (a.getD (Int.toNat 0) default).Atom.Kind (a.getD (Int.toNat 0) default).Atom.Row (a.getD (Int.toNat 0) default).Atom.Args (a.getD (Int.toNat 0) default).Atom.Func (a.getD (Int.toNat 0) default).Atom.Items (a.getD (Int.toNat 0) default).Atom.Op (a.getD (Int.toNat 0) default).Atom.Bound)) fun r0=>.i (!r0) (.i (decide ((0:Int)≤(0:Int))&&decide (0<Int.ofNat b.length)) (.i (decide ((out_.length+[FactorOf.mk (Atom.mk (a.getD (Int.toNat 0) default).Atom.Kind (a.getD (Int.toNat 0) default).Atom.Row (a.getD (Int.toNat 0) default).Atom.Args (a.getD (Int.toNat 0) default).Atom.Func (a.getD (Int.toNat 0) default).Atom.Items (a.getD (Int.toNat 0) default).Atom.Op (a.getD (Int.toNat 0) default).Atom.Bound) (IntKind.i64.wrap ((a.getD (Int.toNat 0) default).Exp+(b.getD (Int.toNat 0) default).Exp))].length)*128≤reach)) (.i (decide ((0:Int)≤(1:Int))&&decide (1≤Int.ofNat a.length)&&decide (Int.ofNat a.length≤Int.ofNat a.length)) (.i (decide ((0:Int)≤(1:Int))&&decide (1≤Int.ofNat b.length)&&decide (Int.ofNat b.length≤Int.ofNat b.length)) (.h ((List.take ((Int.ofNat a.length).toNat - Int.toNat 1) (List.drop (Int.toNat 1) a)),(List.take ((Int.ofNat b.length).toNat - Int.toNat 1) (List.drop (Int.toNat 1) b)),(),()) ((out_++[FactorOf.mk (Atom.mk (a.getD (Int.toNat 0) default).Atom.Kind (a.getD (Int.toNat 0) default).Atom.Row (a.getD (Int.toNat 0) default).Atom.Args (a.getD (Int.toNat 0) default).Atom.Func (a.getD (Int.toNat 0) default).Atom.Items (a.getD (Int.toNat 0) default).Atom.Op (a.getD (Int.toNat 0) default).Atom.Bound) (IntKind.i64.wrap ((a.getD (Int.toNat 0) default).Exp+(b.getD (Int.toNat 0) default).Exp))]),())) .d) .d) .d) .d) (.i (decide ((out_.length+[FactorOf.mk (Atom.mk (a.getD (Int.toNat 0) default).Atom.Kind (a.getD (Int.toNat 0) default).Atom.Row (a.getD (Int.toNat 0) default).Atom.Args (a.getD (Int.toNat 0) default).Atom.Func (a.getD (Int.toNat 0) default).Atom.Items (a.getD (Int.toNat 0) default).Atom.Op (a.getD (Int.toNat 0) default).Atom.Bound) (a.getD (Int.toNat 0) default).Exp].length)*128≤reach)) (.i (decide ((0:Int)≤(1:Int))&&decide (1≤Int.ofNat a.length)&&decide (Int.ofNat a.length≤Int.ofNat a.length)) (.i (decide ((0:Int)≤(1:Int))&&decide (1≤Int.ofNat b.length)&&decide (Int.ofNat b.length≤Int.ofNat b.length)) (.h ((List.take ((Int.ofNat a.length).toNat - Int.toNat 1) (List.drop (Int.toNat 1) a)),(List.take ((Int.ofNat b.length).toNat - Int.toNat 1) (List.drop (Int.toNat 1) b)),(),()) ((out_++[FactorOf.mk (Atom.mk (a.getD (Int.toNat 0) default).Atom.Kind (a.getD (Int.toNat 0) default).Atom.Row (a.getD (Int.toNat 0) default).Atom.Args (a.getD (Int.toNat 0) default).Atom.Func (a.getD (Int.toNat 0) default).Atom.Items (a.getD (Int.toNat 0) default).Atom.Op (a.getD (Int.toNat 0) default).Atom.Bound) (a.getD (Int.toNat 0) default).Exp]),())) .d) .d) .d)) .d))) .d) .d) (.k (a,b,out_))) (.k (a,b,out_))
def zGT (x:zm6) (y:znF):Wy zm6 znF zth:=zAp x.1 x.2.1 y.1
def zAw (n:Nat) (a:yD) (b:yD) (out_:yD):Bool×zth:=zF (zGT) default n (a,b,(),()) (out_,())
def zUe (r:zth):LTree ty:=.done (.exit 0) [.sl 69 r.1,.sl 69 r.2.1,.own 300] [.arr 69 r.2.2 false]
def zWJ:LL ty zm6:=za (lSl 69) (za (lSl 69) (za (lOwn 300) zn))
def zW0:BL ty znF:=bArr 69 false (bNil)
def zUE (x:zm6) (y:znF):Nat:=(x.1.length+x.2.1.length+y.1.length+1)
def zG0:Cx ty:=mkCx base 75 [(64,zjX),(65,annotation_compareAtoms_spec),(183,zkU)] [] [(2,[(0,.keep),(1,.keep),(5,.own 69)])] [(2,1,(kpL [0,1,5]))] [(2,spW zWJ zW0 (zGT) default zUe zUE)] []
theorem zTR:zK zG0 (lp (body Tryz.f154) 0):=zu (id:=2) (hl:=rfl)
def zJa (a:yD) (b:yD):Wy0 (yD):=.bn (zAw (a.length+b.length+0+1) a b []) fun r5=>.bn (zdS [r5.2.2,r5.1,r5.2.1]) fun r4=>.k r4
def zn0 (a:yD) (b:yD):Bool×yD:=(zJa a b).fin default
def zXU:AL base (yD×yD×Unit):=zd (ze (vSl 69)) (zd (ze (vSl 69)) aNil)
def zDL:Ab.Spec ty:=zh zXU fun x=>((zn0 x.1 x.2.1).1,zyl (zn0 x.1 x.2.1).2)
theorem zQn:SdP 154 zDL:=
 sW (cx':=zG0) zr zi zk (zj ⟨znt,zuH,zu2,trivial⟩) Tryz.call154 Tryz.func154 (c:=body Tryz.f154) (lOK (aC zTR aN)) (sg:=⟨[.own 69],[]⟩)
def zUa:Cx ty:=mkCx base 12 [] [] [] [] [] []
def zHt (a:Int) (b:Int):Wy0 (Int):=.i (!decide (b=0)) (.i (decide (a>IntKind.i64.wrap (Int.tdiv 1152921504606846976 b))) (.k 1152921504606846976) (.k (IntKind.i64.wrap (a*b)))) .d
def zrI (a:Int) (b:Int):Bool×Int:=(zHt a b).fin default
def zCU:Ab.Spec ty:=zh zT8 fun x=>((zrI x.1 x.2.1).1,zN6 (zrI x.1 x.2.1).2)
theorem zON:SdP 153 zCU:=
 sW (cx':=zUa) zr zi zk (zj trivial) Tryz.call153 Tryz.func153 (c:=body Tryz.f153) (lOK aN)
abbrev zoO:=yC×Unit×Unit×yC×Int×Int×yC×Int×Int×Unit
abbrev zoY:=yC×Term×Unit
abbrev zuT:=yC×yC×Int×Int×yC
abbrev zow:=yC×Unit×yC×Int×Int×Unit
abbrev zoN:=yC×Unit
def zoE (b:yC) (t19:yC) (t20:Int) (t21:Int) (t25:yC) (t26:Int) (t27:Int) (terms:yC) (x_:Term):Wy zoO zoY zuT:=.i (decide (t27<t26)) (.i (decide (0≤t27)&&decide (t27<Int.ofNat t25.length)) (.bn (zrI x_.Coeff (t25.getD t27.toNat default).Coeff) fun r5=>.bn (zn0 x_.Factors (t25.getD t27.toNat default).Factors) fun r4=>.i (decide ((terms.length+[TermOf.mk r5 r4].length)*32≤reach)) (.h (b,(),(),t19,t20,t21,t25,t26,(IntKind.i64.wrap (t27+1)),()) ((terms++[TermOf.mk r5 r4]),x_,())) .d) .d) (.k (b,t19,t20,t21,terms))
def zBB (x:zoO) (y:zoY):Wy zoO zoY zuT:=zoE x.1 x.2.2.2.1 x.2.2.2.2.1 x.2.2.2.2.2.1 x.2.2.2.2.2.2.1 x.2.2.2.2.2.2.2.1 x.2.2.2.2.2.2.2.2.1 y.1 y.2.1
def zIX (n:Nat) (b:yC) (t19:yC) (t20:Int) (t21:Int) (t25:yC) (t26:Int) (t27:Int) (terms:yC) (x_:Term):Bool×zuT:=zF (zBB) default n (b,(),(),t19,t20,t21,t25,t26,t27,()) (terms,x_,())
def zWx (r:zuT):LTree ty:=.done (.exit 2) [.sl 28 r.1,.own 208,.sl 28 r.2.1,.lit (.int .i64 r.2.2.1),.lit (.int .i64 r.2.2.2.1)] [.arr 28 r.2.2.2.2 false]
def zZa:LL ty zoO:=za (lSl 28) (za (lOwn 208) (za (zeJ 209 0) (za (lSl 28) (za lI64 (za lI64 (za (lSl 28) (za lI64 (za lI64 zn))))))))
def zYU:BL ty zoY:=bArr 28 false (bBox (zfl (fun x=>(⟨x.1,x.2.1⟩:Term)) (fun x=>(x.Coeff,x.Factors,())) (fun _=>rfl) (za (lInt .i64) (za (lSl 69) zn))) false (bNil))
def zoK (b:yC) (t19:yC) (t20:Int) (t21:Int) (terms:yC):Wy zow zoN (yC):=.i (decide (t21<t20)) (.i (decide (0≤t21)&&decide (t21<Int.ofNat t19.length)) (.bn (zIX (b.length+t19.length+t20.toNat +t21.toNat +b.length+(Int.ofNat b.length).toNat +Int.toNat 0+terms.length+(t19.getD t21.toNat default).Factors.length+1) b t19 t20 t21 b (Int.ofNat b.length) 0 terms (t19.getD t21.toNat default)) fun r8=>.h ((r8.1),(),(r8.2.1),(r8.2.2.1),(IntKind.i64.wrap (r8.2.2.2.1+1)),()) ((r8.2.2.2.2),())) .d) (.k terms)
def zBu (x:zow) (y:zoN):Wy zow zoN (yC):=zoK x.1 x.2.2.1 x.2.2.2.1 x.2.2.2.2.1 y.1
def zBp (n:Nat) (b:yC) (t19:yC) (t20:Int) (t21:Int) (terms:yC):Bool×yC:=zF (zBu) default n (b,(),t19,t20,t21,()) (terms,())
def zYF:LL ty zow:=za (lSl 28) (za (lOwn 208) (za (lSl 28) (za lI64 (za lI64 zn))))
def zYg:BL ty zoN:=bArr 28 false (bNil)
def zUO (x:zoO) (y:zoY):Nat:=(x.1.length+x.2.2.2.1.length+Int.toNat x.2.2.2.2.1+Int.toNat x.2.2.2.2.2.1+x.2.2.2.2.2.2.1.length+Int.toNat x.2.2.2.2.2.2.2.1+Int.toNat x.2.2.2.2.2.2.2.2.1+y.1.length+y.2.1.Factors.length+1)
def zV6 (x:zow) (y:zoN):Nat:=(x.1.length+x.2.2.1.length+Int.toNat x.2.2.2.1+Int.toNat x.2.2.2.2.1+y.1.length+1)
def zBj:Cx ty:=mkCx base0 52 [(20,annotation_Valid_spec),(70,zeS),(71,zsL),(153,zCU),(154,zDL)] [] [(5,[(1,.keep),(6,.own 28),(19,.keep),(20,.keep),(21,.keep)]),(8,[(1,.keep),(6,.own 28),(8,.keep),(19,.keep),(20,.keep),(21,.keep),(25,.keep),(26,.keep),(27,.keep)])] [(5,1,(kpL [6])),(8,3,(kpL [1,6,19,20,21]))] [(8,spW zZa zYU (zBB) default zWx zUO),(5,spW zYF zYg (zBu) default zPd zV6)] []
theorem zUV:zK zBj (lp (body Tryz.f92) 1):=zu (id:=8) (hl:=rfl)
theorem zWM:zK zBj (lp (body Tryz.f92) 0):=zu (id:=5) (hl:=rfl)
def zMe (a:yC) (b:yC):Wy0 (yC×Int):=.bn (zbU a) fun r14=>.i (!r14) (.k ([],1)) (.bn (zbU b) fun r13=>.i (!r13) (.k ([],1)) (.bn (zBp (b.length+a.length+(Int.ofNat a.length).toNat +Int.toNat 0+0+1) b a (Int.ofNat a.length) 0 []) fun r12=>.bn (zhP r12) fun r11=>.bn (zey r11) fun r10=>.k (r10.1,r10.2)))
def zvA (a:yC) (b:yC):Bool×(yC×Int):=(zMe a b).fin default
def zEZ:Ab.Spec ty:=zh z0P fun x=>((zvA x.1 x.2.1).1,zOh (zvA x.1 x.2.1).2)
theorem zR7:Sound Tryz.prog base0 92 zEZ:=
 sW (cx':=zBj) zr zja zk (zj ⟨zb9.nodr,zfw.nodr,zzU,zON.nodr,zQn.nodr,trivial⟩) Tryz.call92 Tryz.func92 (c:=body Tryz.f92) (lOK (aC zWM (aC zUV aN))) (sg:=⟨[.own 28,.pure],[]⟩)
def zDV:Cx ty:=mkCx base 8 [] [] [] [] [] []
def zuI (b:Binding) (p1:RowID):Wy0 (Bool):=.k (b.Row.Table==p1.Table&&(b.Row.Seq==p1.Seq&&true))
def zfX (b:Binding) (p1:RowID):Bool×Bool:=(zuI b p1).fin default
def zEA:AL base (Binding×RowID×Unit):=zd (ze (vAgg 51)) (zd (ze (zy2 49)) aNil)
def zj6:Ab.Spec ty:=zh zEA fun x=>((zfX x.1 x.2.1).1,zTU (zfX x.1 x.2.1).2)
theorem zpV:SdP 86 zj6:=
 sW (cx':=zDV) zr zi zk (zj trivial) Tryz.call86 Tryz.func86 (c:=body Tryz.f86) (lOK aN)
def zSR:Cx ty:=mkCx base 8 [] [] [] [] [] []
def zE1 (x_:Atom):Wy0 (yC):=.k [TermOf.mk 1 [FactorOf.mk (Atom.mk x_.Kind x_.Row x_.Args x_.Func x_.Items x_.Op x_.Bound) 1]]
def zft (x_:Atom):Bool×yC:=(zE1 x_).fin default
def zgz:Ab.Spec ty:=zh zBK fun x=>((zft x.1).1,zO1 (zft x.1).2)
theorem ziZ:SdP 152 zgz:=
 sW (cx':=zSR) zr zi zk (zj trivial) Tryz.call152 Tryz.func152 (c:=body Tryz.f152) (lOK aN) (sg:=⟨[.own 28],[]⟩)
def zXT:Cx ty:=mkCx base 9 [(128,zuY),(152,zgz)] [] [] [] [] []
def zK8 (id:RowID):Wy0 (yC):=.bn (zq6 id) fun r0=>.i (!r0) (.k []) (.k ((zft (Atom.mk 0 id [] 0 [] 0 (Value.mk 0 0 (ByteArray.mk #[])))).2))
def zvz (id:RowID):Bool×yC:=(zK8 id).fin default
def zE9:Ab.Spec ty:=zh z4J fun x=>((zvz x.1).1,zO1 (zvz x.1).2)
theorem zSD:SdP 88 zE9:=
 sW (cx':=zXT) zr zi zk (zj ⟨zzX,ziZ,trivial⟩) Tryz.call88 Tryz.func88 (c:=body Tryz.f88) (lOK aN) (sg:=⟨[.own 28],[]⟩)
abbrev zcO:=yG×(RowID×Unit)×Int×Int×Unit
def zr2 (s:yG) (f:RowID) (t7:Int) (t8:Int):Wy zcO (Unit) (Int⊕Unit):=.i (decide (t8<t7)) (.i (decide (0≤t8)&&decide (t8<Int.ofNat s.length)) (.i ((zfX (s.getD t8.toNat default) f).2) (.k (.inl t8)) (.h (s,(f,()),t7,(IntKind.i64.wrap (t8+1)),()) ())) .d) (.k (.inr ()))
def zic (x:zcO) (y:Unit):Wy zcO (Unit) (Int⊕Unit):=zr2 x.1 x.2.1.1 x.2.2.1 x.2.2.2.1
def zrP (n:Nat) (s:yG) (f:RowID) (t7:Int) (t8:Int):Bool×(Int⊕Unit):=zF (zic) (.inl default) n (s,(f,()),t7,t8,()) ()
def zso:LL ty zcO:=za (lSl 51) (za (lFn 86 (za (znd (zfl (fun x=>(⟨x.1,x.2.1⟩:RowID)) (fun x=>(x.Table,x.Seq,())) (fun _=>rfl) (za lI64 (za lI64 zn))) 0) zn)) (za lI64 (za lI64 zn)))
def zrC (x:zcO) (y:Unit):Nat:=(x.1.length+Int.toNat x.2.2.1+Int.toNat x.2.2.2.1+1)
def zik:Cx ty:=mkCx base 19 [(86,zj6)] [] [(2,(kpL [0,1,7,8]))] [(2,1,[]),(2,0,(kpL [4]))] [(2,spW zso z6c (zic) (.inl default) zs2 zrC)] []
theorem zq5:zK zik (lp (body Tryz.f85) 0):=zu (id:=2) (hl:=rfl)
def zsv (s:yG) (f:RowID):Wy0 (Int):=.bn (zrP (s.length+(Int.ofNat s.length).toNat +Int.toNat 0+1) s f (Int.ofNat s.length) 0) fun r0=>.i (isL r0) (.k (getL r0)) (.k (-1:Int))
def zcv (s:yG) (f:RowID):Bool×Int:=(zsv s f).fin default
def zsZ:AL base (yG×(RowID×Unit)×Unit):=zd (ze (vSl 51)) (zd (ze (vFn 86 (zdH (zy2 49) vNil))) aNil)
def zhl:Ab.Spec ty:=zh zsZ fun x=>((zcv x.1 x.2.1.1).1,zN6 (zcv x.1 x.2.1.1).2)
theorem zpq:SdP 85 zhl:=
 sW (cx':=zik) zr zi zk (zj ⟨zpV,trivial⟩) Tryz.call85 Tryz.func85 (c:=body Tryz.f85) (lOK (aC zq5 aN))
def zHh:Cx ty:=mkCx base 18 [(85,zhl),(86,zj6),(87,annotation_copied_spec),(88,zE9)] [] [] [] [] []
def zxr (id:RowID) (p1:yG):Wy0 (yC):=.bn (zcv p1 id) fun r2=>.i (decide (r2≥0)) (.i (decide (0≤r2)&&decide (r2<Int.ofNat p1.length)) (.bn (zgK (p1.getD r2.toNat default).To) fun r0=>.k r0) .d) (.bn (zvz id) fun r1=>.k r1)
def zhV (id:RowID) (p1:yG):Bool×yC:=(zxr id p1).fin default
def zIk:AL base (RowID×(yG×Unit)×Unit):=zd (ze (vAgg 49)) (zd (ze (vBox (zdH (vSl 51) vNil))) aNil)
def zhu:Ab.Spec ty:=zh zIk fun x=>((zhV x.1 x.2.1.1).1,zO1 (zhV x.1 x.2.1.1).2)
theorem zlp:SdP 84 zhu:=
 sW (cx':=zHh) zr zi zk (zj ⟨zpq,zpV,ziF,zSD,trivial⟩) Tryz.call84 Tryz.func84 (c:=body Tryz.f84) (lOK aN) (sg:=⟨[.own 28],[]⟩)
abbrev zkC:=((yG×Unit)×Unit)×Unit×Unit×yC×Int×yC×Int×Int×yD×Int×Int×Int×Int×Unit
abbrev zdp:=yC×yC×Unit
abbrev znW:=yG×Int×yC×Int×Int×yD×Int×Int×yC×yC
abbrev zkd:=((yG×Unit)×Unit)×Unit×Unit×yC×Int×Int×yD×Int×Int×Unit
abbrev zn5:=Int⊕(yG×yC×Int×Int×yC×yC)
abbrev zkb:=((yG×Unit)×Unit)×Unit×yC×Int×Int×Unit
abbrev zki:=yC×Unit
abbrev znU:=Int⊕yC
def zrw (zp:Atom→yG→Bool×(yC×Int)) (to:yG) (b:yC) (e:Int) (t16:yC) (t17:Int) (t18:Int) (t26:yD) (t27:Int) (t28:Int) (t40:Int) (t41:Int) (sum:yC) (product:yC):Wy zkC zdp znW:=.i (decide (t41<t40)) (.i (e==0) (.bn (zvA product b) fun r6=>.h (((to,()),()),(),(),b,(r6.2),t16,t17,t18,t26,t27,t28,t40,(IntKind.i64.wrap (t41+1)),()) (sum,(r6.1),())) (.h (((to,()),()),(),(),b,e,t16,t17,t18,t26,t27,t28,t40,(IntKind.i64.wrap (t41+1)),()) (sum,product,()))) (.k (to,e,t16,t17,t18,t26,t27,t28,sum,product))
def zzA (zp:Atom→yG→Bool×(yC×Int)) (x:zkC) (y:zdp):Wy zkC zdp znW:=zrw zp x.1.1.1 x.2.2.2.1 x.2.2.2.2.1 x.2.2.2.2.2.1 x.2.2.2.2.2.2.1 x.2.2.2.2.2.2.2.1 x.2.2.2.2.2.2.2.2.1 x.2.2.2.2.2.2.2.2.2.1 x.2.2.2.2.2.2.2.2.2.2.1 x.2.2.2.2.2.2.2.2.2.2.2.1 x.2.2.2.2.2.2.2.2.2.2.2.2.1 y.1 y.2.1
def zrA (zp:Atom→yG→Bool×(yC×Int)) (n:Nat) (to:yG) (b:yC) (e:Int) (t16:yC) (t17:Int) (t18:Int) (t26:yD) (t27:Int) (t28:Int) (t40:Int) (t41:Int) (sum:yC) (product:yC):Bool×znW:=zF (zzA zp) default n (((to,()),()),(),(),b,e,t16,t17,t18,t26,t27,t28,t40,t41,()) (sum,product,())
def zKi (r:znW):LTree ty:=.done (.exit 4) [.fn 84 ([.bptr ([.sl 51 r.1]) 0]),.own 272,.own 273,.lit (.int .i64 r.2.1),.sl 28 r.2.2.1,.lit (.int .i64 r.2.2.2.1),.lit (.int .i64 r.2.2.2.2.1),.sl 69 r.2.2.2.2.2.1,.lit (.int .i64 r.2.2.2.2.2.2.1),.lit (.int .i64 r.2.2.2.2.2.2.2.1)] [.arr 28 r.2.2.2.2.2.2.2.2.1 false,.arr 28 r.2.2.2.2.2.2.2.2.2 false]
def zKB:LL ty zkC:=za (lFn 84 (za (znd (za (lSl 51) zn) 0) zn)) (za (lOwn 272) (za (lOwn 273) (za (lSl 28) (za lI64 (za (lSl 28) (za lI64 (za lI64 (za (lSl 69) (za lI64 (za lI64 (za lI64 (za lI64 zn))))))))))))
def zKZ:BL ty zdp:=bArr 28 false (bArr 28 false (bNil))
def zsQ (zp:Atom→yG→Bool×(yC×Int)) (to:yG) (t16:yC) (t17:Int) (t18:Int) (t26:yD) (t27:Int) (t28:Int) (sum:yC) (product:yC):Wy zkd zdp zn5:=.i (decide (t28<t27)) (.i (decide (0≤t28)&&decide (t28<Int.ofNat t26.length)) (.bn (zp (Atom.mk (t26.getD t28.toNat default).Atom.Kind (t26.getD t28.toNat default).Atom.Row (t26.getD t28.toNat default).Atom.Args (t26.getD t28.toNat default).Atom.Func (t26.getD t28.toNat default).Atom.Items (t26.getD t28.toNat default).Atom.Op (t26.getD t28.toNat default).Atom.Bound) to) fun r9=>.bn (zrA zp (to.length+r9.1.length+r9.2.toNat +t16.length+t17.toNat +t18.toNat +t26.length+t27.toNat +t28.toNat +(t26.getD t28.toNat default).Exp.toNat +Int.toNat 0+sum.length+product.length+1) to r9.1 r9.2 t16 t17 t18 t26 t27 t28 (t26.getD t28.toNat default).Exp 0 sum product) fun r8=>.i (r8.2.1 != 0) (.k (.inl (r8.2.1))) (.h ((((r8.1),()),()),(),(),(r8.2.2.1),(r8.2.2.2.1),(r8.2.2.2.2.1),(r8.2.2.2.2.2.1),(r8.2.2.2.2.2.2.1),(IntKind.i64.wrap (r8.2.2.2.2.2.2.2.1+1)),()) ((r8.2.2.2.2.2.2.2.2.1),(r8.2.2.2.2.2.2.2.2.2),()))) .d) (.k (.inr (to,t16,t17,t18,sum,product)))
def zAY (zp:Atom→yG→Bool×(yC×Int)) (x:zkd) (y:zdp):Wy zkd zdp zn5:=zsQ zp x.1.1.1 x.2.2.2.1 x.2.2.2.2.1 x.2.2.2.2.2.1 x.2.2.2.2.2.2.1 x.2.2.2.2.2.2.2.1 x.2.2.2.2.2.2.2.2.1 y.1 y.2.1
def zs5 (zp:Atom→yG→Bool×(yC×Int)) (n:Nat) (to:yG) (t16:yC) (t17:Int) (t18:Int) (t26:yD) (t27:Int) (t28:Int) (sum:yC) (product:yC):Bool×zn5:=zF (zAY zp) (.inl default) n (((to,()),()),(),(),t16,t17,t18,t26,t27,t28,()) (sum,product,())
def zLN (r:zn5):LTree ty:=.ite (isL r) (.done .ret [.lit (.slice none 0 0),.lit (.int .i64 (getL r))] []) (.done (.exit 2) [.fn 84 ([.bptr ([.sl 51 (getR r).1]) 0]),.own 272,.own 273,.sl 28 (getR r).2.1,.lit (.int .i64 (getR r).2.2.1),.lit (.int .i64 (getR r).2.2.2.1)] [.arr 28 (getR r).2.2.2.2.1 false,.arr 28 (getR r).2.2.2.2.2 false])
def zMF:LL ty zkd:=za (lFn 84 (za (znd (za (lSl 51) zn) 0) zn)) (za (lOwn 272) (za (lOwn 273) (za (lSl 28) (za lI64 (za lI64 (za (lSl 69) (za lI64 (za lI64 zn))))))))
def zsR (zp:Atom→yG→Bool×(yC×Int)) (to:yG) (t16:yC) (t17:Int) (t18:Int) (sum:yC):Wy zkb zki znU:=.i (decide (t18<t17)) (.i (decide (0≤t18)&&decide (t18<Int.ofNat t16.length)) (.bn (zqN (t16.getD t18.toNat default).Coeff) fun r14=>.bn (zs5 zp (to.length+t16.length+t17.toNat +t18.toNat +(t16.getD t18.toNat default).Factors.length+(Int.ofNat (t16.getD t18.toNat default).Factors.length).toNat +Int.toNat 0+sum.length+r14.length+1) to t16 t17 t18 (t16.getD t18.toNat default).Factors (Int.ofNat (t16.getD t18.toNat default).Factors.length) 0 sum r14) fun r13=>.i (isL r13) (.k (.inl (getL r13))) (.bn (zp2 (getR r13).2.2.2.2.1 (getR r13).2.2.2.2.2) fun r12=>.i (r12.2 != 0) (.k (.inl (r12.2))) (.h ((((getR r13).1,()),()),(),(getR r13).2.1,(getR r13).2.2.1,(IntKind.i64.wrap ((getR r13).2.2.2.1+1)),()) ((r12.1),())))) .d) (.k (.inr sum))
def zA0 (zp:Atom→yG→Bool×(yC×Int)) (x:zkb) (y:zki):Wy zkb zki znU:=zsR zp x.1.1.1 x.2.2.1 x.2.2.2.1 x.2.2.2.2.1 y.1
def zsy (zp:Atom→yG→Bool×(yC×Int)) (n:Nat) (to:yG) (t16:yC) (t17:Int) (t18:Int) (sum:yC):Bool×znU:=zF (zA0 zp) (.inl default) n (((to,()),()),(),t16,t17,t18,()) (sum,())
def zKM (r:znU):LTree ty:=.ite (isL r) (.done .ret [.lit (.slice none 0 0),.lit (.int .i64 (getL r))] []) (.done (.exit 0) [.own 272] [.arr 28 (getR r) false])
def zMz:LL ty zkb:=za (lFn 84 (za (znd (za (lSl 51) zn) 0) zn)) (za (lOwn 272) (za (lSl 28) (za lI64 (za lI64 zn))))
def zNd:BL ty zki:=bArr 28 false (bNil)
def zJf (x:zkC) (y:zdp):Nat:=(x.1.1.1.length+x.2.2.2.1.length+Int.toNat x.2.2.2.2.1+x.2.2.2.2.2.1.length+Int.toNat x.2.2.2.2.2.2.1+Int.toNat x.2.2.2.2.2.2.2.1+x.2.2.2.2.2.2.2.2.1.length+Int.toNat x.2.2.2.2.2.2.2.2.2.1+Int.toNat x.2.2.2.2.2.2.2.2.2.2.1+Int.toNat x.2.2.2.2.2.2.2.2.2.2.2.1+Int.toNat x.2.2.2.2.2.2.2.2.2.2.2.2.1+y.1.length+y.2.1.length+1)
def zK7 (x:zkd) (y:zdp):Nat:=(x.1.1.1.length+x.2.2.2.1.length+Int.toNat x.2.2.2.2.1+Int.toNat x.2.2.2.2.2.1+x.2.2.2.2.2.2.1.length+Int.toNat x.2.2.2.2.2.2.2.1+Int.toNat x.2.2.2.2.2.2.2.2.1+y.1.length+y.2.1.length+1)
def zMp (x:zkb) (y:zki):Nat:=(x.1.1.1.length+x.2.2.1.length+Int.toNat x.2.2.2.1+Int.toNat x.2.2.2.2.1+y.1.length+1)
def zl4 (zp:Atom→yG→Bool×(yC×Int)):Cx ty:=mkCx base0 68 [(23,zyv),(84,zhu),(92,zEZ),(149,zCZ),(150,(zlk zp))] [] [(3,[(1,.keep),(6,.own 28),(16,.keep),(17,.keep),(18,.keep)]),(7,(kpL [1,6,9,16,17,18,26,27,28])),(11,[(1,.keep),(6,.keep),(9,.keep),(12,.sl 28),(13,.keep),(16,.keep),(17,.keep),(18,.keep),(26,.keep),(27,.keep),(28,.keep),(40,.keep),(41,.keep)])] [(3,1,(kpL [6])),(3,0,(kpL [4,5])),(7,3,(kpL [1,6,9,16,17,18])),(7,0,(kpL [4,5])),(11,5,(kpL [1,6,9,13,16,17,18,26,27,28]))] [(11,spW zKB zKZ (zzA zp) default zKi zJf),(7,spW zMF zKZ (zAY zp) (.inl default) zLN zK7),(3,spW zMz zNd (zA0 zp) (.inl default) zKM zMp)] []
theorem zJB (zp:Atom→yG→Bool×(yC×Int)):zK (zl4 zp) (lp (body Tryz.f83) 2):=zu (id:=11) (hl:=rfl)
theorem zL0 (zp:Atom→yG→Bool×(yC×Int)):zK (zl4 zp) (lp (body Tryz.f83) 1):=zu (id:=7) (hl:=rfl)
theorem zLo (zp:Atom→yG→Bool×(yC×Int)):zK (zl4 zp) (lp (body Tryz.f83) 0):=zu (id:=3) (hl:=rfl)
def zB5 (zp:Atom→yG→Bool×(yC×Int)) (a:yC) (to:yG):Wy0 (yC×Int):=.bn (zsy zp (to.length+a.length+(Int.ofNat a.length).toNat +Int.toNat 0+0+1) to a (Int.ofNat a.length) 0 []) fun r18=>.i (isL r18) (.k ([],getL r18)) (.k (getR r18,0))
def zk5 (zp:Atom→yG→Bool×(yC×Int)) (a:yC) (to:yG):Bool×(yC×Int):=(zB5 zp a to).fin default
theorem zH6 (zp:Atom→yG→Bool×(yC×Int)) (zIo:Sound Tryz.prog base0 150 (zlk zp)):Sound Tryz.prog base0 83 (zly (zk5 zp)):=
 sW (cx':=(zl4 zp)) zr zja zk (zj ⟨zDM,zlp.nodr,zR7,zOT.nodr,zIo,trivial⟩) Tryz.call83 Tryz.func83 (c:=body Tryz.f83) (lOK (aC (zLo zp) (aC (zL0 zp) (aC (zJB zp) aN)))) (sg:=⟨[.own 28,.pure],[]⟩)
def zYo:Cx ty:=mkCx base 3 [] [] [] [] [] []
def z0l:Wy0 (yC):=.k [TermOf.mk 1 []]
def zvM:Bool×yC:=(z0l).fin default
def zrO:Ab.Spec ty:=zh zOI fun x=>((zvM ).1,zO1 (zvM ).2)
theorem zwM:SdP 36 zrO:=
 sW (cx':=zYo) zr zi zk (zj trivial) Tryz.call36 Tryz.func36 (c:=body Tryz.f36) (lOK aN) (sg:=⟨[.own 28],[]⟩)
def zSv:Cx ty:=mkCx base 23 [(20,annotation_Valid_spec),(36,zrO),(70,zeS),(131,zm9),(152,zgz)] [] [] [] [] []
def zFa (a:yC):Wy0 (yC×Int):=.bn (zbU a) fun r2=>.i (!r2) (.k ([],1)) (.i (Int.ofNat a.length==0) (.k (zvM.2,0)) (.bn (ze3 a) fun r1=>.i (r1) (.k ([],0)) (.bn (zey (zft (Atom.mk 3 (RowID.mk 0 0) [a] 0 [] 0 (Value.mk 0 0 (ByteArray.mk #[])))).2) fun r0=>.k (r0.1,r0.2))))
def zoL (a:yC):Bool×(yC×Int):=(zFa a).fin default
def zB0:Ab.Spec ty:=zh zU2 fun x=>((zoL x.1).1,zOh (zoL x.1).2)
theorem zME:SdP 179 zB0:=
 sW (cx':=zSv) zr zi zk (zj ⟨zb9,zwM,zfw,zvV,ziZ,trivial⟩) Tryz.call179 Tryz.func179 (c:=body Tryz.f179) (lOK aN) (sg:=⟨[.own 28,.pure],[]⟩)
def zTV:Cx ty:=mkCx base 29 [(20,annotation_Valid_spec),(36,zrO),(70,zeS),(87,annotation_copied_spec),(129,zob),(130,zub),(152,zgz)] [] [] [] [] []
def zHz (a:yC):Wy0 (yC×Int):=.bn (zbU a) fun r5=>.i (!r5) (.k ([],1)) (.i (Int.ofNat a.length==0) (.bn (zgK a) fun r0=>.k (r0,0)) (.bn (zlJ a) fun r4=>.i (r4) (.bn (zgK a) fun r1=>.k (r1,0)) (.bn (zhj a) fun r3=>.i (r3) (.k (zvM.2,0)) (.bn (zey (zft (Atom.mk 2 (RowID.mk 0 0) [a] 0 [] 0 (Value.mk 0 0 (ByteArray.mk #[])))).2) fun r2=>.k (r2.1,r2.2)))))
def zqL (a:yC):Bool×(yC×Int):=(zHz a).fin default
def zCM:Ab.Spec ty:=zh zU2 fun x=>((zqL x.1).1,zOh (zqL x.1).2)
theorem zOE:SdP 178 zCM:=
 sW (cx':=zTV) zr zi zk (zj ⟨zb9,zwM,zfw,ziF,zwq,zA6,ziZ,trivial⟩) Tryz.call178 Tryz.func178 (c:=body Tryz.f178) (lOK aN) (sg:=⟨[.own 28,.pure],[]⟩)
def zUm:Cx ty:=mkCx base 38 [(20,annotation_Valid_spec),(21,zkt),(70,zeS),(87,annotation_copied_spec),(152,zgz)] [] [] [] [] []
def zHv (a:yC) (b:yC):Wy0 (yC×Int):=.bn (zbU a) fun r4=>.i (!r4) (.k ([],1)) (.bn (zbU b) fun r3=>.i (!r3) (.k ([],1)) (.i (Int.ofNat b.length==0) (.bn (zgK a) fun r0=>.k (r0,0)) (.i (Int.ofNat a.length==0) (.k ([],0)) (.bn (zee a b) fun r2=>.i (r2) (.k ([],0)) (.bn (zey (zft (Atom.mk 1 (RowID.mk 0 0) [a,b] 0 [] 0 (Value.mk 0 0 (ByteArray.mk #[])))).2) fun r1=>.k (r1.1,r1.2))))))
def zqy (a:yC) (b:yC):Bool×(yC×Int):=(zHv a b).fin default
def zCV:Ab.Spec ty:=zh zRZ fun x=>((zqy x.1 x.2.1).1,zOh (zqy x.1 x.2.1).2)
theorem zOQ:SdP 177 zCV:=
 sW (cx':=zUm) zr zi zk (zj ⟨zb9,zmR,zfw,ziF,ziZ,trivial⟩) Tryz.call177 Tryz.func177 (c:=body Tryz.f177) (lOK aN) (sg:=⟨[.own 28,.pure],[]⟩)
def zga (x:yE) (a b:Int):Bool×yE:=z3H zbd x a b
def slices_insertionSortCmpFunc_api_Weighted_spec:Ab.Spec ty:=zh (cx:=base) (zd (aOwn 100) (zd (ze (vInt .i64)) (zd (ze (vInt .i64)) (zd (ze (vFn 124 vNil)) aNil)))) fun x=>((zga x.1 x.2.1 x.2.2.1).1,⟨[],[some ⟨100,(zga x.1 x.2.1 x.2.2.1).2⟩]⟩)
theorem zud (c:Unit) (x y:Weighted) (h:(zbd x y).1=true):annotation_compareItems_spec ((AV.agg (base.enc 100 x)::AV.agg (base.enc 100 y)::(vNil:VL base Unit).enc c).map Arg.pure)=some (true,⟨[.pure (.lit (.int .i64 (zbd x y).2))],[]⟩):=by
 rw [← h]; kernel_rfl
theorem zsK:SdP 281 slices_insertionSortCmpFunc_api_Weighted_spec:=by
 letI:DecidableEq (ty 100):=inferInstanceAs (DecidableEq Weighted)
 exact zbat (T:=100) zi rfl Go.Proofs.Tryz.insW Tryz.isAgg100 (by unfold szOf; exact Tryz.sizeOf100) Tryz.call281 zhw vNil (fun c=>zbd) zud
end Go.Proofs.YtljlfiomikifjaaGreatDoor
end
