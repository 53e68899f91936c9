/- Texts of this claim, joined (the program, its functions in plain words, and what they compute). -/
import Derived.Test.YtddkaehkimnklaaGreatDoorGC1
import Derived.Test.YtddkaehkimnklaaGreatDoorGA3
set_option autoImplicit false
set_option linter.unusedVariables false
set_option linter.unusedSectionVars false
set_option linter.unusedSimpArgs false
set_option maxRecDepth 1000000
set_option maxHeartbeats 0
noncomputable section
namespace Go.Proofs.YtddkaehkimnklaaGreatDoor
open Go Go.Ab
abbrev ttTstatisticsFormat0:=Unit×Unit×Unit×ByteArray×Unit×List ColumnStats×Int×Int×List Value×Int×Int×Unit
abbrev ttTstatisticsFormat1:=Stats×List ByteArray×ColumnStats×List ByteArray×Unit
abbrev ttTstatisticsFormat2:=ByteArray×List ColumnStats×Int×Int×Stats×List ByteArray×ColumnStats×List ByteArray
abbrev ttTstatisticsFormat3:=Unit×Unit×List ColumnStats×Int×Int×Unit
abbrev ttTstatisticsFormat4:=Stats×List ByteArray×Unit
def zxG (line:ByteArray) (t25:List ColumnStats) (t26:Int) (t27:Int) (t45:List Value) (t46:Int) (t47:Int) (s:Stats) (out_:List ByteArray) (c:ColumnStats) (l:List ByteArray):Wy ttTstatisticsFormat0 ttTstatisticsFormat1 ttTstatisticsFormat2:=.i (decide (t47<t46)) (.i (decide (0≤t47)&&decide (t47<Int.ofNat t45.length)) (.bn (zn4 (t45.getD t47.toNat default)) fun r0=>.i (decide ((l.length+[r0].length)*16≤reach)) (.h ((),(),(),line,(),t25,t26,t27,t45,t46,(IntKind.i64.wrap (t47+1)),()) (s,out_,c,(l++[r0]),())) .d) .d) (.k (line,t25,t26,t27,s,out_,c,l))
def zlf (x:ttTstatisticsFormat0) (y:ttTstatisticsFormat1):Wy ttTstatisticsFormat0 ttTstatisticsFormat1 ttTstatisticsFormat2:=zxG x.2.2.2.1 x.2.2.2.2.2.1 x.2.2.2.2.2.2.1 x.2.2.2.2.2.2.2.1 x.2.2.2.2.2.2.2.2.1 x.2.2.2.2.2.2.2.2.2.1 x.2.2.2.2.2.2.2.2.2.2.1 y.1 y.2.1 y.2.2.1 y.2.2.2.1
def zya (n:Nat) (line:ByteArray) (t25:List ColumnStats) (t26:Int) (t27:Int) (t45:List Value) (t46:Int) (t47:Int) (s:Stats) (out_:List ByteArray) (c:ColumnStats) (l:List ByteArray):Bool×ttTstatisticsFormat2:=zO (zlf) default n ((),(),(),line,(),t25,t26,t27,t45,t46,t47,()) (s,out_,c,l,())
def zpD (r:ttTstatisticsFormat2):LTree ty:=.done (.exit 2) [.ptr 312 0,.own 313,.ptr 314 0,.lit (.string r.1),.own 315,.sl 43 r.2.1,.lit (.int .i64 r.2.2.1),.lit (.int .i64 r.2.2.2.1)] [.box (base.enc 30 r.2.2.2.2.1) false,.arr 9 r.2.2.2.2.2.1 false,.box (base.enc 43 r.2.2.2.2.2.2.1) false,.arr 9 r.2.2.2.2.2.2.2 false]
def zqH:LL ty ttTstatisticsFormat0:=za (zcF 312 0) (za (lOwn 313) (za (zcF 314 0) (za lStr (za (lOwn 315) (za (lSl 43) (za (lInt .i64) (za (lInt .i64) (za (lSl 40) (za (lInt .i64) (za (lInt .i64) zF))))))))))
def zqB:BL ty ttTstatisticsFormat1:=bBox (zex (fun x=>(⟨x.1,x.2.1,x.2.2.1⟩:Stats)) (fun x=>(x.Table,x.Rows,x.Columns,())) (fun _=>rfl) (za (lInt .i64) (za (lInt .i64) (za (lSl 43) zF)))) false (bArr 9 false (bBox (zex (fun x=>(⟨x.1,⟨x.2.1,x.2.2.1,x.2.2.2.1⟩,⟨x.2.2.2.2.1,x.2.2.2.2.2.1,x.2.2.2.2.2.2.1⟩,x.2.2.2.2.2.2.2.1⟩:ColumnStats)) (fun x=>(x.Distinct,x.Min.Kind,x.Min.Int,x.Min.Text,x.Max.Kind,x.Max.Int,x.Max.Text,x.Bounds,())) (fun _=>rfl) (za (lInt .i64) (za (lInt .i64) (za (lInt .i64) (za lStr (za (lInt .i64) (za (lInt .i64) (za lStr (za (lSl 40) zF))))))))) false (bArr 9 false (bNil))))
def zy0 (t25:List ColumnStats) (t26:Int) (t27:Int) (s:Stats) (out_:List ByteArray):Wy ttTstatisticsFormat3 ttTstatisticsFormat4 (List ByteArray):=.i (decide (t27<t26)) (.i (decide (0≤t27)&&decide (t27<Int.ofNat t25.length)) (.bn (strconv_Itoa t27) fun r7=>.i (decide ((ByteArray.mk #[(99:UInt8),(111:UInt8),(108:UInt8),(117:UInt8),(109:UInt8),(110:UInt8),(32:UInt8)]).size+r7.size≤9223372036854775807)) (.i (decide ((ByteArray.mk #[(99:UInt8),(111:UInt8),(108:UInt8),(117:UInt8),(109:UInt8),(110:UInt8),(32:UInt8)]++r7).size+(ByteArray.mk #[(58:UInt8),(32:UInt8)]).size≤9223372036854775807)) (.bn (strconv_Itoa (t25.getD t27.toNat default).Distinct) fun r6=>.i (decide ((ByteArray.mk #[(99:UInt8),(111:UInt8),(108:UInt8),(117:UInt8),(109:UInt8),(110:UInt8),(32:UInt8)]++r7++ByteArray.mk #[(58:UInt8),(32:UInt8)]).size+r6.size≤9223372036854775807)) (.i (decide ((ByteArray.mk #[(99:UInt8),(111:UInt8),(108:UInt8),(117:UInt8),(109:UInt8),(110:UInt8),(32:UInt8)]++r7++ByteArray.mk #[(58:UInt8),(32:UInt8)]++r6).size+(ByteArray.mk #[(32:UInt8),(100:UInt8),(105:UInt8),(115:UInt8),(116:UInt8),(105:UInt8),(110:UInt8),(99:UInt8),(116:UInt8)]).size≤9223372036854775807)) (.i (decide (s.Rows>0)) (.bn (zya ((ByteArray.mk #[(99:UInt8),(111:UInt8),(108:UInt8),(117:UInt8),(109:UInt8),(110:UInt8),(32:UInt8)]++r7++ByteArray.mk #[(58:UInt8),(32:UInt8)]++r6++ByteArray.mk #[(32:UInt8),(100:UInt8),(105:UInt8),(115:UInt8),(116:UInt8),(105:UInt8),(110:UInt8),(99:UInt8),(116:UInt8)]).size+t25.length+t26.toNat +t27.toNat +(t25.getD t27.toNat default).Bounds.length+(Int.ofNat (t25.getD t27.toNat default).Bounds.length).toNat +Int.toNat 0+s.Columns.length+out_.length+(t25.getD t27.toNat default).Bounds.length+0+1000) (ByteArray.mk #[(99:UInt8),(111:UInt8),(108:UInt8),(117:UInt8),(109:UInt8),(110:UInt8),(32:UInt8)]++r7++ByteArray.mk #[(58:UInt8),(32:UInt8)]++r6++ByteArray.mk #[(32:UInt8),(100:UInt8),(105:UInt8),(115:UInt8),(116:UInt8),(105:UInt8),(110:UInt8),(99:UInt8),(116:UInt8)]) t25 t26 t27 (t25.getD t27.toNat default).Bounds (Int.ofNat (t25.getD t27.toNat default).Bounds.length) 0 s out_ (t25.getD t27.toNat default) []) fun r5=>.bn (zn4 r5.2.2.2.2.2.2.1.Min) fun r4=>.i (decide ((ByteArray.mk #[(44:UInt8),(32:UInt8)]).size+r4.size≤9223372036854775807)) (.i (decide ((ByteArray.mk #[(44:UInt8),(32:UInt8)]++r4).size+(ByteArray.mk #[(32:UInt8),(116:UInt8),(111:UInt8),(32:UInt8)]).size≤9223372036854775807)) (.bn (zn4 r5.2.2.2.2.2.2.1.Max) fun r3=>.i (decide ((ByteArray.mk #[(44:UInt8),(32:UInt8)]++r4++ByteArray.mk #[(32:UInt8),(116:UInt8),(111:UInt8),(32:UInt8)]).size+r3.size≤9223372036854775807)) (.i (decide ((ByteArray.mk #[(44:UInt8),(32:UInt8)]++r4++ByteArray.mk #[(32:UInt8),(116:UInt8),(111:UInt8),(32:UInt8)]++r3).size+(ByteArray.mk #[(44:UInt8),(32:UInt8),(98:UInt8),(111:UInt8),(117:UInt8),(110:UInt8),(100:UInt8),(97:UInt8),(114:UInt8),(105:UInt8),(101:UInt8),(115:UInt8),(32:UInt8)]).size≤9223372036854775807)) (.bn (strings_Join r5.2.2.2.2.2.2.2 (ByteArray.mk #[(44:UInt8),(32:UInt8)])) fun r2=>.i (decide ((ByteArray.mk #[(44:UInt8),(32:UInt8)]++r4++ByteArray.mk #[(32:UInt8),(116:UInt8),(111:UInt8),(32:UInt8)]++r3++ByteArray.mk #[(44:UInt8),(32:UInt8),(98:UInt8),(111:UInt8),(117:UInt8),(110:UInt8),(100:UInt8),(97:UInt8),(114:UInt8),(105:UInt8),(101:UInt8),(115:UInt8),(32:UInt8)]).size+r2.size≤9223372036854775807)) (.i (decide (r5.1.size+(ByteArray.mk #[(44:UInt8),(32:UInt8)]++r4++ByteArray.mk #[(32:UInt8),(116:UInt8),(111:UInt8),(32:UInt8)]++r3++ByteArray.mk #[(44:UInt8),(32:UInt8),(98:UInt8),(111:UInt8),(117:UInt8),(110:UInt8),(100:UInt8),(97:UInt8),(114:UInt8),(105:UInt8),(101:UInt8),(115:UInt8),(32:UInt8)]++r2).size≤9223372036854775807)) (.i (decide ((r5.2.2.2.2.2.1.length+[r5.1++(ByteArray.mk #[(44:UInt8),(32:UInt8)]++r4++ByteArray.mk #[(32:UInt8),(116:UInt8),(111:UInt8),(32:UInt8)]++r3++ByteArray.mk #[(44:UInt8),(32:UInt8),(98:UInt8),(111:UInt8),(117:UInt8),(110:UInt8),(100:UInt8),(97:UInt8),(114:UInt8),(105:UInt8),(101:UInt8),(115:UInt8),(32:UInt8)]++r2)].length)*16≤reach)) (.h ((),(),(r5.2.1),(r5.2.2.1),(IntKind.i64.wrap (r5.2.2.2.1+1)),()) ((r5.2.2.2.2.1),(r5.2.2.2.2.2.1++[r5.1++(ByteArray.mk #[(44:UInt8),(32:UInt8)]++r4++ByteArray.mk #[(32:UInt8),(116:UInt8),(111:UInt8),(32:UInt8)]++r3++ByteArray.mk #[(44:UInt8),(32:UInt8),(98:UInt8),(111:UInt8),(117:UInt8),(110:UInt8),(100:UInt8),(97:UInt8),(114:UInt8),(105:UInt8),(101:UInt8),(115:UInt8),(32:UInt8)]++r2)]),())) .d) .d) .d) .d) .d) .d) .d) (.i (decide ((out_.length+[ByteArray.mk #[(99:UInt8),(111:UInt8),(108:UInt8),(117:UInt8),(109:UInt8),(110:UInt8),(32:UInt8)]++r7++ByteArray.mk #[(58:UInt8),(32:UInt8)]++r6++ByteArray.mk #[(32:UInt8),(100:UInt8),(105:UInt8),(115:UInt8),(116:UInt8),(105:UInt8),(110:UInt8),(99:UInt8),(116:UInt8)]].length)*16≤reach)) (.h ((),(),t25,t26,(IntKind.i64.wrap (t27+1)),()) (s,(out_++[ByteArray.mk #[(99:UInt8),(111:UInt8),(108:UInt8),(117:UInt8),(109:UInt8),(110:UInt8),(32:UInt8)]++r7++ByteArray.mk #[(58:UInt8),(32:UInt8)]++r6++ByteArray.mk #[(32:UInt8),(100:UInt8),(105:UInt8),(115:UInt8),(116:UInt8),(105:UInt8),(110:UInt8),(99:UInt8),(116:UInt8)]]),())) .d)) .d) .d) .d) .d) .d) (.k out_)
def zmu (x:ttTstatisticsFormat3) (y:ttTstatisticsFormat4):Wy ttTstatisticsFormat3 ttTstatisticsFormat4 (List ByteArray):=zy0 x.2.2.1 x.2.2.2.1 x.2.2.2.2.1 y.1 y.2.1
def zyK (n:Nat) (t25:List ColumnStats) (t26:Int) (t27:Int) (s:Stats) (out_:List ByteArray):Bool×List ByteArray:=zO (zmu) default n ((),(),t25,t26,t27,()) (s,out_,())
def zqa (r:List ByteArray):LTree ty:=.done (.exit 0) [.own 312] [.arr 9 r false]
def zrz:LL ty ttTstatisticsFormat3:=za (zcF 312 0) (za (lOwn 313) (za (lSl 43) (za (lInt .i64) (za (lInt .i64) zF))))
def zrl:BL ty ttTstatisticsFormat4:=bBox (zex (fun x=>(⟨x.1,x.2.1,x.2.2.1⟩:Stats)) (fun x=>(x.Table,x.Rows,x.Columns,())) (fun _=>rfl) (za (lInt .i64) (za (lInt .i64) (za (lSl 43) zF)))) false (bArr 9 false (bNil))
def zpJ (x:ttTstatisticsFormat0) (y:ttTstatisticsFormat1):Nat:=(x.2.2.2.1.size+x.2.2.2.2.2.1.length+Int.toNat x.2.2.2.2.2.2.1+Int.toNat x.2.2.2.2.2.2.2.1+x.2.2.2.2.2.2.2.2.1.length+Int.toNat x.2.2.2.2.2.2.2.2.2.1+Int.toNat x.2.2.2.2.2.2.2.2.2.2.1+y.1.Columns.length+y.2.1.length+y.2.2.1.Bounds.length+y.2.2.2.1.length+1000)
def zqY (x:ttTstatisticsFormat3) (y:ttTstatisticsFormat4):Nat:=(x.2.2.1.length+Int.toNat x.2.2.2.1+Int.toNat x.2.2.2.2.1+y.1.Columns.length+y.2.1.length+1000)
def zmr:Cx ty:=mkCx base0 78 [(15,ziK),(52,strconv_Itoa_spec),(53,zui),(54,strings_Join_spec)] [] [(5,[(1,.keep),(3,.keep),(25,.keep),(26,.keep),(27,.keep)]),(11,[(1,.keep),(3,.keep),(5,.keep),(6,.keep),(7,.own 9),(25,.keep),(26,.keep),(27,.keep),(45,.keep),(46,.keep),(47,.keep)])] [(5,1,[(3,.keep)]),(11,3,[(1,.keep),(3,.keep),(5,.keep),(6,.keep),(7,.keep),(25,.keep),(26,.keep),(27,.keep)])] [(11,spW zqH zqB (zlf) default zpD zpJ),(5,spW zrz zrl (zmu) default zqa zqY)] []
theorem zxe:zX zmr (lp (body Tryz.f24) 1):=zN (id:=11) (V:=zqH) (B:=zqB) (W:=zlf) (z:=default) (tr:=zpD) (m:=zpJ)
theorem zxY:zX zmr (lp (body Tryz.f24) 0):=zN (id:=5) (V:=zrz) (B:=zrl) (W:=zmu) (z:=default) (tr:=zqa) (m:=zqY)
def zsq (s:Stats):Wy0 (List ByteArray):=.bn (zh6 s) fun r17=>.i (!r17) (.k []) (.bn (strconv_Itoa s.Table) fun r16=>.i (decide ((ByteArray.mk #[(116:UInt8),(97:UInt8),(98:UInt8),(108:UInt8),(101:UInt8),(32:UInt8),(116:UInt8)]).size+r16.size≤9223372036854775807)) (.i (decide ((ByteArray.mk #[(116:UInt8),(97:UInt8),(98:UInt8),(108:UInt8),(101:UInt8),(32:UInt8),(116:UInt8)]++r16).size+(ByteArray.mk #[(58:UInt8),(32:UInt8)]).size≤9223372036854775807)) (.bn (strconv_Itoa s.Rows) fun r15=>.i (decide ((ByteArray.mk #[(116:UInt8),(97:UInt8),(98:UInt8),(108:UInt8),(101:UInt8),(32:UInt8),(116:UInt8)]++r16++ByteArray.mk #[(58:UInt8),(32:UInt8)]).size+r15.size≤9223372036854775807)) (.i (decide ((ByteArray.mk #[(116:UInt8),(97:UInt8),(98:UInt8),(108:UInt8),(101:UInt8),(32:UInt8),(116:UInt8)]++r16++ByteArray.mk #[(58:UInt8),(32:UInt8)]++r15).size+(ByteArray.mk #[(32:UInt8),(114:UInt8),(111:UInt8),(119:UInt8),(115:UInt8)]).size≤9223372036854775807)) (.bn (zyK (s.Columns.length+(Int.ofNat s.Columns.length).toNat +Int.toNat 0+s.Columns.length+[ByteArray.mk #[(116:UInt8),(97:UInt8),(98:UInt8),(108:UInt8),(101:UInt8),(32:UInt8),(116:UInt8)]++r16++ByteArray.mk #[(58:UInt8),(32:UInt8)]++r15++ByteArray.mk #[(32:UInt8),(114:UInt8),(111:UInt8),(119:UInt8),(115:UInt8)]].length+1000) s.Columns (Int.ofNat s.Columns.length) 0 s [ByteArray.mk #[(116:UInt8),(97:UInt8),(98:UInt8),(108:UInt8),(101:UInt8),(32:UInt8),(116:UInt8)]++r16++ByteArray.mk #[(58:UInt8),(32:UInt8)]++r15++ByteArray.mk #[(32:UInt8),(114:UInt8),(111:UInt8),(119:UInt8),(115:UInt8)]]) fun r14=>.k r14) .d) .d) .d) .d)
def zuA (s:Stats):Bool×List ByteArray:=(zsq s).fin default
def zqT (r:List ByteArray):ARes ty:=⟨[.own 9 r],[]⟩
def zsu:AL base0 (Stats×Unit):=zf (zg (vAgg 30)) aNil
def zpo:Ab.Spec ty:=zn zsu fun x=>((zuA x.1).1,zqT (zuA x.1).2)
theorem zwf:Sound Tryz.prog base0 24 zpo:=
 zy (cx':=zmr) zH zsA zD (zB ⟨zkL.nodr,zAD.nodr,zz6,zAe,trivial⟩) Tryz.call24 Tryz.func24 (c:=body Tryz.f24) (by kernel_rfl) (zi (l:=[lp (body Tryz.f24) 0,lp (body Tryz.f24) 1]) (by kernel_rfl) ⟨zxY,zxe,trivial⟩) (sg:=⟨[.own 9],[]⟩) (A:=zsu) (res:=zqT) (W:=fun x=>zsq x.1) (z:=default)
def zpY (r:Int):ARes ty:=⟨[.pure (.lit (.int .i64 r))],[]⟩
def zrW:AL base (List Term×List Term×Unit):=zf (zg (vSl 152)) (zf (zg (vSl 152)) aNil)
def zcE (F:List Term→List Term→Bool×Int):Ab.Spec ty:=zn zrW fun x=>((F x.1 x.2.1).1,zpY (F x.1 x.2.1).2)
def znG (r:Int):ARes ty:=⟨[.pure (.lit (.int .i64 r))],[]⟩
def zoJ:AL base (Term×Term×Unit):=zf (zg (vAgg 152)) (zf (zg (vAgg 152)) aNil)
def zee (F:Term→Term→Bool×Int):Ab.Spec ty:=zn zoJ fun x=>((F x.1 x.2.1).1,znG (F x.1 x.2.1).2)
def zlS (r:Int):ARes ty:=⟨[.pure (.lit (.int .i64 r))],[]⟩
def znq:AL base (Term×Term×Unit):=zf (zg (vAgg 152)) (zf (zg (vAgg 152)) aNil)
def ze3 (F:Term→Term→Bool×Int):Ab.Spec ty:=zn znq fun x=>((F x.1 x.2.1).1,zlS (F x.1 x.2.1).2)
def zkV (r:Int):ARes ty:=⟨[.pure (.lit (.int .i64 r))],[]⟩
def zl8:AL base (Factor×Factor×Unit):=zf (zg (vAgg 160)) (zf (zg (vAgg 160)) aNil)
def zcW (F:Factor→Factor→Bool×Int):Ab.Spec ty:=zn zl8 fun x=>((F x.1 x.2.1).1,zkV (F x.1 x.2.1).2)
def zlR (r:Int):ARes ty:=⟨[.pure (.lit (.int .i64 r))],[]⟩
def znB:AL base (Atom×Atom×Unit):=zf (zg (vAgg 158)) (zf (zg (vAgg 158)) aNil)
def zeU (F:Atom→Atom→Bool×Int):Ab.Spec ty:=zn znB fun x=>((F x.1 x.2.1).1,zlR (F x.1 x.2.1).2)
def zlW (r:Int):ARes ty:=⟨[.pure (.lit (.int .i64 r))],[]⟩
def znD:AL base (Weighted×Weighted×Unit):=zf (zg (vAgg 182)) (zf (zg (vAgg 182)) aNil)
def zcG (F:Weighted→Weighted→Bool×Int):Ab.Spec ty:=zn znD fun x=>((F x.1 x.2.1).1,zlW (F x.1 x.2.1).2)
def zcj (r:Int):ARes ty:=⟨[.pure (.lit (.int .i64 r))],[]⟩
def zcx:AL base (List Term×List Term×Unit×Unit):=zf (zg (vSl 152)) (zf (zg (vSl 152)) (zf (zg (vFn 198 vNil)) aNil))
def z6 (F:List Term→List Term→Bool×Int):Ab.Spec ty:=zn zcx fun x=>((F x.1 x.2.1).1,zcj (F x.1 x.2.1).2)
def zcB (r:Int):ARes ty:=⟨[.pure (.lit (.int .i64 r))],[]⟩
def zcJ:AL base (List Factor×List Factor×Unit×Unit):=zf (zg (vSl 160)) (zf (zg (vSl 160)) (zf (zg (vFn 143 vNil)) aNil))
def z8 (F:List Factor→List Factor→Bool×Int):Ab.Spec ty:=zn zcJ fun x=>((F x.1 x.2.1).1,zcB (F x.1 x.2.1).2)
def zbJ (r:Int):ARes ty:=⟨[.pure (.lit (.int .i64 r))],[]⟩
def zbM:AL base (List (List Term)×List (List Term)×Unit×Unit):=zf (zg (vSl 36)) (zf (zg (vSl 36)) (zf (zg (vFn 145 vNil)) aNil))
def zP (F:List (List Term)→List (List Term)→Bool×Int):Ab.Spec ty:=zn zbM fun x=>((F x.1 x.2.1).1,zbJ (F x.1 x.2.1).2)
def zb1 (r:Int):ARes ty:=⟨[.pure (.lit (.int .i64 r))],[]⟩
def zb7:AL base (List Weighted×List Weighted×Unit×Unit):=zf (zg (vSl 182)) (zf (zg (vSl 182)) (zf (zg (vFn 147 vNil)) aNil))
def zW (F:List Weighted→List Weighted→Bool×Int):Ab.Spec ty:=zn zb7 fun x=>((F x.1 x.2.1).1,zb1 (F x.1 x.2.1).2)
def zv9 (zw:List Term→List Term→Bool×Int) (zx:Term→Term→Bool×Int):Cx ty:=mkCx base 8 [(197,(z6 zw)),(198,(zee zx))] [] [] [] [] []
def zpA (zw:List Term→List Term→Bool×Int) (zx:Term→Term→Bool×Int) (a:List Term) (b:List Term):Wy0 (Int):=.bn (zw a b) fun r0=>.k r0
def zri (zw:List Term→List Term→Bool×Int) (zx:Term→Term→Bool×Int) (a:List Term) (b:List Term):Bool×Int:=(zpA zw zx a b).fin default
theorem zt4 (zw:List Term→List Term→Bool×Int) (zx:Term→Term→Bool×Int) (zfY:Sound Tryz.prog base 197 (z6 zw)) (zjr:Sound Tryz.prog base 198 (zee zx)):Sound Tryz.prog base 145 (zcE (zri zw zx)):=
 zy (cx':=(zv9 zw zx)) zH zo zD (zB ⟨zfY,zjr,trivial⟩) Tryz.call145 Tryz.func145 (c:=body Tryz.f145) (by kernel_rfl) (zi (l:=[]) (by kernel_rfl) trivial) (sg:=⟨[.pure],[]⟩) (A:=zrW) (res:=zpY) (W:=fun x=>zpA zw zx x.1 x.2.1) (z:=default)
def zua (zbs:Term→Term→Bool×Int):Cx ty:=mkCx base 15 [(108,(ze3 zbs)),(121,ziP),(123,zkK)] [] [] [] [] []
def znC (zbs:Term→Term→Bool×Int) (x_:Term) (y_:Term):Wy0 (Int):=.bn (zbs x_ y_) fun r2=>.bn (zhx x_.Coeff y_.Coeff) fun r1=>.bn (zjn [r2,r1]) fun r0=>.k r0
def zoE (zbs:Term→Term→Bool×Int) (x_:Term) (y_:Term):Bool×Int:=(znC zbs x_ y_).fin default
theorem zr6 (zbs:Term→Term→Bool×Int) (zts:Sound Tryz.prog base 108 (ze3 zbs)):Sound Tryz.prog base 198 (zee (zoE zbs)):=
 zy (cx':=(zua zbs)) zH zo zD (zB ⟨zts,zjW,zoL,trivial⟩) Tryz.call198 Tryz.func198 (c:=body Tryz.f198) (by kernel_rfl) (zi (l:=[]) (by kernel_rfl) trivial) (sg:=⟨[.pure],[]⟩) (A:=zoJ) (res:=znG) (W:=fun x=>znC zbs x.1 x.2.1) (z:=default)
def zsB (zk:List (List Term)→List (List Term)→Bool×Int) (zm:List Term→List Term→Bool×Int) (zp:List Weighted→List Weighted→Bool×Int) (zr:Weighted→Weighted→Bool×Int):Cx ty:=mkCx base 51 [(79,zcc),(121,ziP),(122,zjh),(144,(zP zk)),(145,(zcE zm)),(146,(zW zp)),(147,(zcG zr))] [] [] [] [] []
def zlT (zk:List (List Term)→List (List Term)→Bool×Int) (zm:List Term→List Term→Bool×Int) (zp:List Weighted→List Weighted→Bool×Int) (zr:Weighted→Weighted→Bool×Int) (a:Atom) (b:Atom):Wy0 (Int):=.bn (zdg a.Kind b.Kind) fun r8=>.bn (zdg a.Row.Table b.Row.Table) fun r7=>.bn (zdg a.Row.Seq b.Row.Seq) fun r6=>.bn (zk a.Args b.Args) fun r5=>.bn (zdg a.Func b.Func) fun r4=>.bn (zp a.Items b.Items) fun r3=>.bn (zdg a.Op b.Op) fun r2=>.bn (zbc a.Bound b.Bound) fun r1=>.bn (zjn [r8,r7,r6,r5,r4,r3,r2,r1]) fun r0=>.k r0
def znr (zk:List (List Term)→List (List Term)→Bool×Int) (zm:List Term→List Term→Bool×Int) (zp:List Weighted→List Weighted→Bool×Int) (zr:Weighted→Weighted→Bool×Int) (a:Atom) (b:Atom):Bool×Int:=(zlT zk zm zp zr a b).fin default
theorem zq7 (zk:List (List Term)→List (List Term)→Bool×Int) (zm:List Term→List Term→Bool×Int) (zp:List Weighted→List Weighted→Bool×Int) (zr:Weighted→Weighted→Bool×Int) (zdH:Sound Tryz.prog base 144 (zP zk)) (zgC:Sound Tryz.prog base 145 (zcE zm)) (zeP:Sound Tryz.prog base 146 (zW zp)) (zio:Sound Tryz.prog base 147 (zcG zr)):Sound Tryz.prog base 110 (zeU (znr zk zm zp zr)):=
 zy (cx':=(zsB zk zm zp zr)) zH zo zD (zB ⟨zcr,zjW,zlB,zdH,zgC,zeP,zio,trivial⟩) Tryz.call110 Tryz.func110 (c:=body Tryz.f110) (by kernel_rfl) (zi (l:=[]) (by kernel_rfl) trivial) (sg:=⟨[.pure],[]⟩) (A:=znB) (res:=zlR) (W:=fun x=>zlT zk zm zp zr x.1 x.2.1) (z:=default)
def zrM (zbq:Atom→Atom→Bool×Int):Cx ty:=mkCx base 17 [(110,(zeU zbq)),(121,ziP),(122,zjh)] [] [] [] [] []
def zkX (zbq:Atom→Atom→Bool×Int) (a:Factor) (b:Factor):Wy0 (Int):=.bn (zbq (Atom.mk a.Atom.Kind a.Atom.Row a.Atom.Args a.Atom.Func a.Atom.Items a.Atom.Op a.Atom.Bound) (Atom.mk b.Atom.Kind b.Atom.Row b.Atom.Args b.Atom.Func b.Atom.Items b.Atom.Op b.Atom.Bound)) fun r2=>.bn (zdg a.Exp b.Exp) fun r1=>.bn (zjn [r2,r1]) fun r0=>.k r0
def zmg (zbq:Atom→Atom→Bool×Int) (a:Factor) (b:Factor):Bool×Int:=(zkX zbq a b).fin default
theorem zpZ (zbq:Atom→Atom→Bool×Int) (ztT:Sound Tryz.prog base 110 (zeU zbq)):Sound Tryz.prog base 143 (zcW (zmg zbq)):=
 zy (cx':=(zrM zbq)) zH zo zD (zB ⟨ztT,zjW,zlB,trivial⟩) Tryz.call143 Tryz.func143 (c:=body Tryz.f143) (by kernel_rfl) (zi (l:=[]) (by kernel_rfl) trivial) (sg:=⟨[.pure],[]⟩) (A:=zl8) (res:=zkV) (W:=fun x=>zkX zbq x.1 x.2.1) (z:=default)
def zsZ (zm:List Term→List Term→Bool×Int):Cx ty:=mkCx base 17 [(79,zcc),(121,ziP),(145,(zcE zm))] [] [] [] [] []
def zl1 (zm:List Term→List Term→Bool×Int) (a:Weighted) (b:Weighted):Wy0 (Int):=.bn (zbc a.Value b.Value) fun r2=>.bn (zm a.Ann b.Ann) fun r1=>.bn (zjn [r2,r1]) fun r0=>.k r0
def znj (zm:List Term→List Term→Bool×Int) (a:Weighted) (b:Weighted):Bool×Int:=(zl1 zm a b).fin default
theorem zq1 (zm:List Term→List Term→Bool×Int) (zgC:Sound Tryz.prog base 145 (zcE zm)):Sound Tryz.prog base 147 (zcG (znj zm)):=
 zy (cx':=(zsZ zm)) zH zo zD (zB ⟨zcr,zjW,zgC,trivial⟩) Tryz.call147 Tryz.func147 (c:=body Tryz.f147) (by kernel_rfl) (zi (l:=[]) (by kernel_rfl) trivial) (sg:=⟨[.pure],[]⟩) (A:=znD) (res:=zlW) (W:=fun x=>zl1 zm x.1 x.2.1) (z:=default)
def zsV (zA:List Factor→List Factor→Bool×Int) (zl:Factor→Factor→Bool×Int):Cx ty:=mkCx base 10 [(142,(z8 zA)),(143,(zcW zl))] [] [] [] [] []
def zl6 (zA:List Factor→List Factor→Bool×Int) (zl:Factor→Factor→Bool×Int) (a:Term) (b:Term):Wy0 (Int):=.bn (zA a.Factors b.Factors) fun r0=>.k r0
def znn (zA:List Factor→List Factor→Bool×Int) (zl:Factor→Factor→Bool×Int) (a:Term) (b:Term):Bool×Int:=(zl6 zA zl a b).fin default
theorem zq6 (zA:List Factor→List Factor→Bool×Int) (zl:Factor→Factor→Bool×Int) (zgf:Sound Tryz.prog base 142 (z8 zA)) (zhM:Sound Tryz.prog base 143 (zcW zl)):Sound Tryz.prog base 108 (ze3 (znn zA zl)):=
 zy (cx':=(zsV zA zl)) zH zo zD (zB ⟨zgf,zhM,trivial⟩) Tryz.call108 Tryz.func108 (c:=body Tryz.f108) (by kernel_rfl) (zi (l:=[]) (by kernel_rfl) trivial) (sg:=⟨[.pure],[]⟩) (A:=znq) (res:=zlS) (W:=fun x=>zl6 zA zl x.1 x.2.1) (z:=default)
abbrev ttTslicesCompareFuncLapiAnnotationLapiAnnotationapiAnnotationapiAnnotation0:=List (List Term)×List (List Term)×Unit×List (List Term)×Int×Int×Unit
abbrev ttTslicesCompareFuncLapiAnnotationLapiAnnotationapiAnnotationapiAnnotation1:=Int⊕(List (List Term)×List (List Term))
def zdB (zm:List Term→List Term→Bool×Int) (s1:List (List Term)) (s2:List (List Term)) (t11:List (List Term)) (t12:Int) (t13:Int):Wy ttTslicesCompareFuncLapiAnnotationLapiAnnotationapiAnnotationapiAnnotation0 (Unit) ttTslicesCompareFuncLapiAnnotationLapiAnnotationapiAnnotationapiAnnotation1:=.i (decide (t13<t12)) (.i (decide (0≤t13)&&decide (t13<Int.ofNat t11.length)) (.i (decide (t13≥Int.ofNat s2.length)) (.k (.inl 1)) (.i (decide (0≤t13)&&decide (t13<Int.ofNat s2.length)) (.bn (zm (t11.getD t13.toNat default) (s2.getD t13.toNat default)) fun r0=>.i (r0 != 0) (.k (.inl (r0))) (.h (s1,s2,(),t11,t12,(IntKind.i64.wrap (t13+1)),()) ())) .d)) .d) (.k (.inr (s1,s2)))
def zZ (zm:List Term→List Term→Bool×Int) (x:ttTslicesCompareFuncLapiAnnotationLapiAnnotationapiAnnotationapiAnnotation0) (y:Unit):Wy ttTslicesCompareFuncLapiAnnotationLapiAnnotationapiAnnotationapiAnnotation0 (Unit) ttTslicesCompareFuncLapiAnnotationLapiAnnotationapiAnnotationapiAnnotation1:=zdB zm x.1 x.2.1 x.2.2.2.1 x.2.2.2.2.1 x.2.2.2.2.2.1
def zdC (zm:List Term→List Term→Bool×Int) (n:Nat) (s1:List (List Term)) (s2:List (List Term)) (t11:List (List Term)) (t12:Int) (t13:Int):Bool×ttTslicesCompareFuncLapiAnnotationLapiAnnotationapiAnnotationapiAnnotation1:=zO (zZ zm) (.inl default) n (s1,s2,(),t11,t12,t13,()) ()
def zbz (r:ttTslicesCompareFuncLapiAnnotationLapiAnnotationapiAnnotationapiAnnotation1):LTree ty:=.ite (isL r) (.done .ret [.lit (.int .i64 (getL r))] []) (.done (.exit 0) [.sl 36 (getR r).1,.sl 36 (getR r).2] [])
def zbD:LL ty ttTslicesCompareFuncLapiAnnotationLapiAnnotationapiAnnotationapiAnnotation0:=za (lSl 36) (za (lSl 36) (za (lFn 145 (zF)) (za (lSl 36) (za (lInt .i64) (za (lInt .i64) zF)))))
def zbF:BL ty (Unit):=bNil
def zbA (x:ttTslicesCompareFuncLapiAnnotationLapiAnnotationapiAnnotationapiAnnotation0) (y:Unit):Nat:=(x.1.length+x.2.1.length+x.2.2.2.1.length+Int.toNat x.2.2.2.2.1+Int.toNat x.2.2.2.2.2.1+1000)
def zbC (zm:List Term→List Term→Bool×Int):Cx ty:=mkCx base 39 [(145,(zcE zm))] [] [(2,[(0,.keep),(1,.keep),(2,.keep),(11,.keep),(12,.keep),(13,.keep)])] [(2,1,[(0,.keep),(1,.keep)]),(2,0,[(6,.keep)])] [(2,spW zbD zbF (zZ zm) (.inl default) zbz zbA)] []
theorem zdo (zm:List Term→List Term→Bool×Int):zX (zbC zm) (lp (body Tryz.f144) 0):=zN (id:=2) (V:=zbD) (B:=zbF) (W:=zZ zm) (z:=.inl default) (tr:=zbz) (m:=zbA)
def zbK (zm:List Term→List Term→Bool×Int) (s1:List (List Term)) (s2:List (List Term)):Wy0 (Int):=.bn (zdC zm (s1.length+s2.length+s1.length+(Int.ofNat s1.length).toNat +Int.toNat 0+1000) s1 s2 s1 (Int.ofNat s1.length) 0) fun r2=>.i (isL r2) (.k (getL r2)) (.i (decide (Int.ofNat (getR r2).1.length<Int.ofNat (getR r2).2.length)) (.k (-1:Int)) (.k 0))
def zbN (zm:List Term→List Term→Bool×Int) (s1:List (List Term)) (s2:List (List Term)):Bool×Int:=(zbK zm s1 s2).fin default
theorem zdm (zm:List Term→List Term→Bool×Int) (zgC:Sound Tryz.prog base 145 (zcE zm)):Sound Tryz.prog base 144 (zP (zbN zm)):=
 zy (cx':=(zbC zm)) zH zo zD (zB ⟨zgC,trivial⟩) Tryz.call144 Tryz.func144 (c:=body Tryz.f144) (by kernel_rfl) (zi (l:=[lp (body Tryz.f144) 0]) (by kernel_rfl) ⟨zdo zm,trivial⟩) (sg:=⟨[.pure],[]⟩) (A:=zbM) (res:=zbJ) (W:=fun x=>zbK zm x.1 x.2.1) (z:=default)
abbrev ttTslicesCompareFuncLapiFactorLapiFactorapiFactorapiFactor0:=List Factor×List Factor×Unit×List Factor×Int×Int×Unit
abbrev ttTslicesCompareFuncLapiFactorLapiFactorapiFactorapiFactor1:=Int⊕(List Factor×List Factor)
def zgb (zl:Factor→Factor→Bool×Int) (s1:List Factor) (s2:List Factor) (t11:List Factor) (t12:Int) (t13:Int):Wy ttTslicesCompareFuncLapiFactorLapiFactorapiFactorapiFactor0 (Unit) ttTslicesCompareFuncLapiFactorLapiFactorapiFactorapiFactor1:=.i (decide (t13<t12)) (.i (decide (0≤t13)&&decide (t13<Int.ofNat t11.length)) (.i (decide (t13≥Int.ofNat s2.length)) (.k (.inl 1)) (.i (decide (0≤t13)&&decide (t13<Int.ofNat s2.length)) (.bn (zl (FactorOf.mk (Atom.mk (t11.getD t13.toNat default).Atom.Kind (t11.getD t13.toNat default).Atom.Row (t11.getD t13.toNat default).Atom.Args (t11.getD t13.toNat default).Atom.Func (t11.getD t13.toNat default).Atom.Items (t11.getD t13.toNat default).Atom.Op (t11.getD t13.toNat default).Atom.Bound) (t11.getD t13.toNat default).Exp) (FactorOf.mk (Atom.mk (s2.getD t13.toNat default).Atom.Kind (s2.getD t13.toNat default).Atom.Row (s2.getD t13.toNat default).Atom.Args (s2.getD t13.toNat default).Atom.Func (s2.getD t13.toNat default).Atom.Items (s2.getD t13.toNat default).Atom.Op (s2.getD t13.toNat default).Atom.Bound) (s2.getD t13.toNat default).Exp)) fun r0=>.i (r0 != 0) (.k (.inl (r0))) (.h (s1,s2,(),t11,t12,(IntKind.i64.wrap (t13+1)),()) ())) .d)) .d) (.k (.inr (s1,s2)))
def zbo (zl:Factor→Factor→Bool×Int) (x:ttTslicesCompareFuncLapiFactorLapiFactorapiFactorapiFactor0) (y:Unit):Wy ttTslicesCompareFuncLapiFactorLapiFactorapiFactorapiFactor0 (Unit) ttTslicesCompareFuncLapiFactorLapiFactorapiFactorapiFactor1:=zgb zl x.1 x.2.1 x.2.2.2.1 x.2.2.2.2.1 x.2.2.2.2.2.1
def zgc (zl:Factor→Factor→Bool×Int) (n:Nat) (s1:List Factor) (s2:List Factor) (t11:List Factor) (t12:Int) (t13:Int):Bool×ttTslicesCompareFuncLapiFactorLapiFactorapiFactorapiFactor1:=zO (zbo zl) (.inl default) n (s1,s2,(),t11,t12,t13,()) ()
def zcm (r:ttTslicesCompareFuncLapiFactorLapiFactorapiFactorapiFactor1):LTree ty:=.ite (isL r) (.done .ret [.lit (.int .i64 (getL r))] []) (.done (.exit 0) [.sl 160 (getR r).1,.sl 160 (getR r).2] [])
def zcw:LL ty ttTslicesCompareFuncLapiFactorLapiFactorapiFactorapiFactor0:=za (lSl 160) (za (lSl 160) (za (lFn 143 (zF)) (za (lSl 160) (za (lInt .i64) (za (lInt .i64) zF)))))
def zct:BL ty (Unit):=bNil
def zcn (x:ttTslicesCompareFuncLapiFactorLapiFactorapiFactorapiFactor0) (y:Unit):Nat:=(x.1.length+x.2.1.length+x.2.2.2.1.length+Int.toNat x.2.2.2.2.1+Int.toNat x.2.2.2.2.2.1+1000)
def zcv (zl:Factor→Factor→Bool×Int):Cx ty:=mkCx base 39 [(143,(zcW zl))] [] [(2,[(0,.keep),(1,.keep),(2,.keep),(11,.keep),(12,.keep),(13,.keep)])] [(2,1,[(0,.keep),(1,.keep)]),(2,0,[(6,.keep)])] [(2,spW zcw zct (zbo zl) (.inl default) zcm zcn)] []
theorem zfX (zl:Factor→Factor→Bool×Int):zX (zcv zl) (lp (body Tryz.f142) 0):=zN (id:=2) (V:=zcw) (B:=zct) (W:=zbo zl) (z:=.inl default) (tr:=zcm) (m:=zcn)
def zcC (zl:Factor→Factor→Bool×Int) (s1:List Factor) (s2:List Factor):Wy0 (Int):=.bn (zgc zl (s1.length+s2.length+s1.length+(Int.ofNat s1.length).toNat +Int.toNat 0+1000) s1 s2 s1 (Int.ofNat s1.length) 0) fun r2=>.i (isL r2) (.k (getL r2)) (.i (decide (Int.ofNat (getR r2).1.length<Int.ofNat (getR r2).2.length)) (.k (-1:Int)) (.k 0))
def zcI (zl:Factor→Factor→Bool×Int) (s1:List Factor) (s2:List Factor):Bool×Int:=(zcC zl s1 s2).fin default
theorem zfC (zl:Factor→Factor→Bool×Int) (zhM:Sound Tryz.prog base 143 (zcW zl)):Sound Tryz.prog base 142 (z8 (zcI zl)):=
 zy (cx':=(zcv zl)) zH zo zD (zB ⟨zhM,trivial⟩) Tryz.call142 Tryz.func142 (c:=body Tryz.f142) (by kernel_rfl) (zi (l:=[lp (body Tryz.f142) 0]) (by kernel_rfl) ⟨zfX zl,trivial⟩) (sg:=⟨[.pure],[]⟩) (A:=zcJ) (res:=zcB) (W:=fun x=>zcC zl x.1 x.2.1) (z:=default)
abbrev ttTslicesCompareFuncLapiWeightedLapiWeightedapiWeightedapiWeighted0:=List Weighted×List Weighted×Unit×List Weighted×Int×Int×Unit
abbrev ttTslicesCompareFuncLapiWeightedLapiWeightedapiWeightedapiWeighted1:=Int⊕(List Weighted×List Weighted)
def zeA (zr:Weighted→Weighted→Bool×Int) (s1:List Weighted) (s2:List Weighted) (t11:List Weighted) (t12:Int) (t13:Int):Wy ttTslicesCompareFuncLapiWeightedLapiWeightedapiWeightedapiWeighted0 (Unit) ttTslicesCompareFuncLapiWeightedLapiWeightedapiWeightedapiWeighted1:=.i (decide (t13<t12)) (.i (decide (0≤t13)&&decide (t13<Int.ofNat t11.length)) (.i (decide (t13≥Int.ofNat s2.length)) (.k (.inl 1)) (.i (decide (0≤t13)&&decide (t13<Int.ofNat s2.length)) (.bn (zr (t11.getD t13.toNat default) (s2.getD t13.toNat default)) fun r0=>.i (r0 != 0) (.k (.inl (r0))) (.h (s1,s2,(),t11,t12,(IntKind.i64.wrap (t13+1)),()) ())) .d)) .d) (.k (.inr (s1,s2)))
def zbe (zr:Weighted→Weighted→Bool×Int) (x:ttTslicesCompareFuncLapiWeightedLapiWeightedapiWeightedapiWeighted0) (y:Unit):Wy ttTslicesCompareFuncLapiWeightedLapiWeightedapiWeightedapiWeighted0 (Unit) ttTslicesCompareFuncLapiWeightedLapiWeightedapiWeightedapiWeighted1:=zeA zr x.1 x.2.1 x.2.2.2.1 x.2.2.2.2.1 x.2.2.2.2.2.1
def zey (zr:Weighted→Weighted→Bool×Int) (n:Nat) (s1:List Weighted) (s2:List Weighted) (t11:List Weighted) (t12:Int) (t13:Int):Bool×ttTslicesCompareFuncLapiWeightedLapiWeightedapiWeightedapiWeighted1:=zO (zbe zr) (.inl default) n (s1,s2,(),t11,t12,t13,()) ()
def zbT (r:ttTslicesCompareFuncLapiWeightedLapiWeightedapiWeightedapiWeighted1):LTree ty:=.ite (isL r) (.done .ret [.lit (.int .i64 (getL r))] []) (.done (.exit 0) [.sl 182 (getR r).1,.sl 182 (getR r).2] [])
def zbX:LL ty ttTslicesCompareFuncLapiWeightedLapiWeightedapiWeightedapiWeighted0:=za (lSl 182) (za (lSl 182) (za (lFn 147 (zF)) (za (lSl 182) (za (lInt .i64) (za (lInt .i64) zF)))))
def zbY:BL ty (Unit):=bNil
def zbU (x:ttTslicesCompareFuncLapiWeightedLapiWeightedapiWeightedapiWeighted0) (y:Unit):Nat:=(x.1.length+x.2.1.length+x.2.2.2.1.length+Int.toNat x.2.2.2.2.1+Int.toNat x.2.2.2.2.2.1+1000)
def zbW (zr:Weighted→Weighted→Bool×Int):Cx ty:=mkCx base 39 [(147,(zcG zr))] [] [(2,[(0,.keep),(1,.keep),(2,.keep),(11,.keep),(12,.keep),(13,.keep)])] [(2,1,[(0,.keep),(1,.keep)]),(2,0,[(6,.keep)])] [(2,spW zbX zbY (zbe zr) (.inl default) zbT zbU)] []
theorem zeq (zr:Weighted→Weighted→Bool×Int):zX (zbW zr) (lp (body Tryz.f146) 0):=zN (id:=2) (V:=zbX) (B:=zbY) (W:=zbe zr) (z:=.inl default) (tr:=zbT) (m:=zbU)
def zbZ (zr:Weighted→Weighted→Bool×Int) (s1:List Weighted) (s2:List Weighted):Wy0 (Int):=.bn (zey zr (s1.length+s2.length+s1.length+(Int.ofNat s1.length).toNat +Int.toNat 0+1000) s1 s2 s1 (Int.ofNat s1.length) 0) fun r2=>.i (isL r2) (.k (getL r2)) (.i (decide (Int.ofNat (getR r2).1.length<Int.ofNat (getR r2).2.length)) (.k (-1:Int)) (.k 0))
def zb8 (zr:Weighted→Weighted→Bool×Int) (s1:List Weighted) (s2:List Weighted):Bool×Int:=(zbZ zr s1 s2).fin default
theorem zeh (zr:Weighted→Weighted→Bool×Int) (zio:Sound Tryz.prog base 147 (zcG zr)):Sound Tryz.prog base 146 (zW (zb8 zr)):=
 zy (cx':=(zbW zr)) zH zo zD (zB ⟨zio,trivial⟩) Tryz.call146 Tryz.func146 (c:=body Tryz.f146) (by kernel_rfl) (zi (l:=[lp (body Tryz.f146) 0]) (by kernel_rfl) ⟨zeq zr,trivial⟩) (sg:=⟨[.pure],[]⟩) (A:=zb7) (res:=zb1) (W:=fun x=>zbZ zr x.1 x.2.1) (z:=default)
abbrev ttTslicesCompareFuncapiAnnotationapiAnnotationapiTermapiTerm0:=List Term×List Term×Unit×List Term×Int×Int×Unit
abbrev ttTslicesCompareFuncapiAnnotationapiAnnotationapiTermapiTerm1:=Int⊕(List Term×List Term)
def zfD (zx:Term→Term→Bool×Int) (s1:List Term) (s2:List Term) (t11:List Term) (t12:Int) (t13:Int):Wy ttTslicesCompareFuncapiAnnotationapiAnnotationapiTermapiTerm0 (Unit) ttTslicesCompareFuncapiAnnotationapiAnnotationapiTermapiTerm1:=.i (decide (t13<t12)) (.i (decide (0≤t13)&&decide (t13<Int.ofNat t11.length)) (.i (decide (t13≥Int.ofNat s2.length)) (.k (.inl 1)) (.i (decide (0≤t13)&&decide (t13<Int.ofNat s2.length)) (.bn (zx (t11.getD t13.toNat default) (s2.getD t13.toNat default)) fun r0=>.i (r0 != 0) (.k (.inl (r0))) (.h (s1,s2,(),t11,t12,(IntKind.i64.wrap (t13+1)),()) ())) .d)) .d) (.k (.inr (s1,s2)))
def zbj (zx:Term→Term→Bool×Int) (x:ttTslicesCompareFuncapiAnnotationapiAnnotationapiTermapiTerm0) (y:Unit):Wy ttTslicesCompareFuncapiAnnotationapiAnnotationapiTermapiTerm0 (Unit) ttTslicesCompareFuncapiAnnotationapiAnnotationapiTermapiTerm1:=zfD zx x.1 x.2.1 x.2.2.2.1 x.2.2.2.2.1 x.2.2.2.2.2.1
def zfE (zx:Term→Term→Bool×Int) (n:Nat) (s1:List Term) (s2:List Term) (t11:List Term) (t12:Int) (t13:Int):Bool×ttTslicesCompareFuncapiAnnotationapiAnnotationapiTermapiTerm1:=zO (zbj zx) (.inl default) n (s1,s2,(),t11,t12,t13,()) ()
def zcd (r:ttTslicesCompareFuncapiAnnotationapiAnnotationapiTermapiTerm1):LTree ty:=.ite (isL r) (.done .ret [.lit (.int .i64 (getL r))] []) (.done (.exit 0) [.sl 152 (getR r).1,.sl 152 (getR r).2] [])
def zcg:LL ty ttTslicesCompareFuncapiAnnotationapiAnnotationapiTermapiTerm0:=za (lSl 152) (za (lSl 152) (za (lFn 198 (zF)) (za (lSl 152) (za (lInt .i64) (za (lInt .i64) zF)))))
def zch:BL ty (Unit):=bNil
def zce (x:ttTslicesCompareFuncapiAnnotationapiAnnotationapiTermapiTerm0) (y:Unit):Nat:=(x.1.length+x.2.1.length+x.2.2.2.1.length+Int.toNat x.2.2.2.2.1+Int.toNat x.2.2.2.2.2.1+1000)
def zcf (zx:Term→Term→Bool×Int):Cx ty:=mkCx base 39 [(198,(zee zx))] [] [(2,[(0,.keep),(1,.keep),(2,.keep),(11,.keep),(12,.keep),(13,.keep)])] [(2,1,[(0,.keep),(1,.keep)]),(2,0,[(6,.keep)])] [(2,spW zcg zch (zbj zx) (.inl default) zcd zce)] []
theorem zfl (zx:Term→Term→Bool×Int):zX (zcf zx) (lp (body Tryz.f197) 0):=zN (id:=2) (V:=zcg) (B:=zch) (W:=zbj zx) (z:=.inl default) (tr:=zcd) (m:=zce)
def zcp (zx:Term→Term→Bool×Int) (s1:List Term) (s2:List Term):Wy0 (Int):=.bn (zfE zx (s1.length+s2.length+s1.length+(Int.ofNat s1.length).toNat +Int.toNat 0+1000) s1 s2 s1 (Int.ofNat s1.length) 0) fun r2=>.i (isL r2) (.k (getL r2)) (.i (decide (Int.ofNat (getR r2).1.length<Int.ofNat (getR r2).2.length)) (.k (-1:Int)) (.k 0))
def zcy (zx:Term→Term→Bool×Int) (s1:List Term) (s2:List Term):Bool×Int:=(zcp zx s1 s2).fin default
theorem zfb (zx:Term→Term→Bool×Int) (zjr:Sound Tryz.prog base 198 (zee zx)):Sound Tryz.prog base 197 (z6 (zcy zx)):=
 zy (cx':=(zcf zx)) zH zo zD (zB ⟨zjr,trivial⟩) Tryz.call197 Tryz.func197 (c:=body Tryz.f197) (by kernel_rfl) (zi (l:=[lp (body Tryz.f197) 0]) (by kernel_rfl) ⟨zfl zx,trivial⟩) (sg:=⟨[.pure],[]⟩) (A:=zcx) (res:=zcj) (W:=fun x=>zcp zx x.1 x.2.1) (z:=default)
def zbi:Nat→(List Term→List Term→Bool×Int)×(Term→Term→Bool×Int)×(Term→Term→Bool×Int)×(Factor→Factor→Bool×Int)×(Atom→Atom→Bool×Int)×(Weighted→Weighted→Bool×Int)×(List Term→List Term→Bool×Int)×(List Factor→List Factor→Bool×Int)×(List (List Term)→List (List Term)→Bool×Int)×(List Weighted→List Weighted→Bool×Int)
 | 0=>(fun _ _=>(false,default),fun _ _=>(false,default),fun _ _=>(false,default),fun _ _=>(false,default),fun _ _=>(false,default),fun _ _=>(false,default),fun _ _=>(false,default),fun _ _=>(false,default),fun _ _=>(false,default),fun _ _=>(false,default))
 | n+1=>(zri ((zbi n).2.2.2.2.2.2.1) ((zbi n).2.1),zoE ((zbi n).2.2.1),znn ((zbi n).2.2.2.2.2.2.2.1) ((zbi n).2.2.2.1),zmg ((zbi n).2.2.2.2.1),znr ((zbi n).2.2.2.2.2.2.2.2.1) ((zbi n).1) ((zbi n).2.2.2.2.2.2.2.2.2) ((zbi n).2.2.2.2.2.1),znj ((zbi n).1),zcy ((zbi n).2.1),zcI ((zbi n).2.2.2.1),zbN ((zbi n).1),zb8 ((zbi n).2.2.2.2.2.1))
def zrV (n:Nat):List Term→List Term→Bool×Int:=(zbi n).1
def zv0 (n:Nat):Term→Term→Bool×Int:=(zbi n).2.1
def znH (n:Nat):Term→Term→Bool×Int:=(zbi n).2.2.1
def ztS (n:Nat):Factor→Factor→Bool×Int:=(zbi n).2.2.2.1
def znA (n:Nat):Atom→Atom→Bool×Int:=(zbi n).2.2.2.2.1
def znu (n:Nat):Weighted→Weighted→Bool×Int:=(zbi n).2.2.2.2.2.1
def zge (n:Nat):List Term→List Term→Bool×Int:=(zbi n).2.2.2.2.2.2.1
def zgG (n:Nat):List Factor→List Factor→Bool×Int:=(zbi n).2.2.2.2.2.2.2.1
def zd1 (n:Nat):List (List Term)→List (List Term)→Bool×Int:=(zbi n).2.2.2.2.2.2.2.2.1
def ze9 (n:Nat):List Weighted→List Weighted→Bool×Int:=(zbi n).2.2.2.2.2.2.2.2.2
theorem zmS:∀ n,Sound Tryz.prog base 145 (zcE (zrV n))∧Sound Tryz.prog base 198 (zee (zv0 n))∧Sound Tryz.prog base 108 (ze3 (znH n))∧Sound Tryz.prog base 143 (zcW (ztS n))∧Sound Tryz.prog base 110 (zeU (znA n))∧Sound Tryz.prog base 147 (zcG (znu n))∧Sound Tryz.prog base 197 (z6 (zge n))∧Sound Tryz.prog base 142 (z8 (zgG n))∧Sound Tryz.prog base 144 (zP (zd1 n))∧Sound Tryz.prog base 146 (zW (ze9 n))
 | 0=>⟨zbp Tryz.call145 (fun _=>rfl),zbp Tryz.call198 (fun _=>rfl),zbp Tryz.call108 (fun _=>rfl),zbp Tryz.call143 (fun _=>rfl),zbp Tryz.call110 (fun _=>rfl),zbp Tryz.call147 (fun _=>rfl),zbp Tryz.call197 (fun _=>rfl),zbp Tryz.call142 (fun _=>rfl),zbp Tryz.call144 (fun _=>rfl),zbp Tryz.call146 (fun _=>rfl)⟩
 | n+1=>by
  have ih:=zmS n
  exact ⟨zt4 _ _ (ih.2.2.2.2.2.2.1) (ih.2.1),zr6 _ (ih.2.2.1),zq6 _ _ (ih.2.2.2.2.2.2.2.1) (ih.2.2.2.1),zpZ _ (ih.2.2.2.2.1),zq7 _ _ _ _ (ih.2.2.2.2.2.2.2.2.1) (ih.1) (ih.2.2.2.2.2.2.2.2.2) (ih.2.2.2.2.2.1),zq1 _ (ih.1),zfb _ (ih.2.1),zfC _ (ih.2.2.2.1),zdm _ (ih.1),zeh _ (ih.2.2.2.2.2.1)⟩
def ztu:List Term→List Term→Bool×Int:=zrV 1000
def annotation_Compare_spec:Ab.Spec ty:=zcE ztu
theorem zu2:Sound Tryz.prog base 145 annotation_Compare_spec:=(zmS 1000).1
def zoY:Term→Term→Bool×Int:=znH 1000
def annotation_compareLists_spec:Ab.Spec ty:=ze3 zoY
theorem zr7:Sound Tryz.prog base 108 annotation_compareLists_spec:=(zmS 1000).2.2.1
def zkf:Atom→Atom→Bool×Int:=znA 1000
def annotation_compareAtoms_spec:Ab.Spec ty:=zeU zkf
theorem zr5:Sound Tryz.prog base 110 annotation_compareAtoms_spec:=(zmS 1000).2.2.2.2.1
def zoW:Weighted→Weighted→Bool×Int:=znu 1000
def annotation_compareItems_spec:Ab.Spec ty:=zcG zoW
theorem zkQ:Sound Tryz.prog base 147 annotation_compareItems_spec:=(zmS 1000).2.2.2.2.2.1
def zrL (r:Bool):ARes ty:=⟨[.pure (.lit (.bool r))],[]⟩
def ztG:AL base (List Term×Unit):=zf (zg (vSl 152)) aNil
def zfA (F:List Term→Bool×Bool):Ab.Spec ty:=zn ztG fun x=>((F x.1).1,zrL (F x.1).2)
def zbu (r:Bool):ARes ty:=⟨[.pure (.lit (.bool r))],[]⟩
def zp0:AL base (Atom×Unit):=zf (zg (vAgg 158)) aNil
def zii (F:Atom→Bool×Bool):Ab.Spec ty:=zn zp0 fun x=>((F x.1).1,zbu (F x.1).2)
def zl5 (r:Bool):ARes ty:=⟨[.pure (.lit (.bool r))],[]⟩
def zns:AL base (List Term×Unit):=zf (zg (vSl 152)) aNil
def zb3 (F:List Term→Bool×Bool):Ab.Spec ty:=zn zns fun x=>((F x.1).1,zl5 (F x.1).2)
def zmh (r:Bool):ARes ty:=⟨[.pure (.lit (.bool r))],[]⟩
def zng:AL base (Weighted×Unit):=zf (zg (vAgg 182)) aNil
def zb2 (F:Weighted→Bool×Bool):Ab.Spec ty:=zn zng fun x=>((F x.1).1,zmh (F x.1).2)
def zeb (r:Int):ARes ty:=⟨[.pure (.lit (.int .i64 r))],[]⟩
def zew:AL base (List (List Term)×Unit×Unit):=zf (zg (vSl 36)) (zf (zg (vFn 149 vNil)) aNil)
def zbw (F:List (List Term)→Bool×Int):Ab.Spec ty:=zn zew fun x=>((F x.1).1,zeb (F x.1).2)
def zdz (r:Bool):ARes ty:=⟨[.pure (.lit (.bool r))],[]⟩
def zdV:AL base (List (List Term)×Unit×Unit):=zf (zg (vSl 36)) (zf (zg (vFn 149 vNil)) aNil)
def zbr (F:List (List Term)→Bool×Bool):Ab.Spec ty:=zn zdV fun x=>((F x.1).1,zdz (F x.1).2)
def ze5 (r:Int):ARes ty:=⟨[.pure (.lit (.int .i64 r))],[]⟩
def zfB:AL base (List Weighted×Unit×Unit):=zf (zg (vSl 182)) (zf (zg (vFn 156 vNil)) aNil)
def zbS (F:List Weighted→Bool×Int):Ab.Spec ty:=zn zfB fun x=>((F x.1).1,ze5 (F x.1).2)
def zej (r:Bool):ARes ty:=⟨[.pure (.lit (.bool r))],[]⟩
def zeM:AL base (List Weighted×Unit×Unit):=zf (zg (vSl 182)) (zf (zg (vFn 156 vNil)) aNil)
def zbE (F:List Weighted→Bool×Bool):Ab.Spec ty:=zn zeM fun x=>((F x.1).1,zej (F x.1).2)
def zvH:Cx ty:=mkCx base 11 [] [] [] [] [] []
def zoU (x_:Atom):Wy0 (Bool):=.i (x_.Kind==3) (.k true) (.k (x_.Kind==4))
def ziH (x_:Atom):Bool×Bool:=(zoU x_).fin default
def znE (r:Bool):ARes ty:=⟨[.pure (.lit (.bool r))],[]⟩
def zoV:AL base (Atom×Unit):=zf (zg (vAgg 158)) aNil
def zi0:Ab.Spec ty:=zn zoV fun x=>((ziH x.1).1,znE (ziH x.1).2)
theorem zmk:Sound Tryz.prog base 109 zi0:=
 zy (cx':=zvH) zH zo zD (zB trivial) Tryz.call109 Tryz.func109 (c:=body Tryz.f109) (by kernel_rfl) (zi (l:=[]) (by kernel_rfl) trivial) (sg:=⟨[.pure],[]⟩) (A:=zoV) (res:=znE) (W:=fun x=>zoU x.1) (z:=default)
def zsc (r:Int):ARes ty:=⟨[.pure (.lit (.int .i64 r))],[]⟩
def zux:AL base (List Term×Unit):=zf (zg (vSl 152)) aNil
def zi5 (F:List Term→Bool×Int):Ab.Spec ty:=zn zux fun x=>((F x.1).1,zsc (F x.1).2)
abbrev ttTannotationSize0:=Int×Unit×List Term×Int×Int×List Factor×Int×Int×List (List Term)×Int×Int×Unit
abbrev ttTannotationSize1:=Int×List Term×Int×Int×List Factor×Int×Int×Factor
abbrev ttTannotationSize2:=Int×List Term×Int×Int×List Factor×Int×Int×List Weighted×Int×Int×Unit
abbrev ttTannotationSize3:=Int×List Term×Int×Int×List Factor×Int×Int
abbrev ttTannotationSize4:=Int×List Term×Int×Int×List Factor×Int×Int×Unit
abbrev ttTannotationSize5:=Int×List Term×Int×Int
abbrev ttTannotationSize6:=Int×List Term×Int×Int×Unit
def zxJ (zj:List Term→Bool×Int) (n_:Int) (t12:List Term) (t13:Int) (t14:Int) (t25:List Factor) (t26:Int) (t27:Int) (t33:List (List Term)) (t34:Int) (t35:Int) (f:Factor):Wy ttTannotationSize0 (Factor×Unit) ttTannotationSize1:=.i (decide (t35<t34)) (.i (decide (0≤t35)&&decide (t35<Int.ofNat t33.length)) (.bn (zj (t33.getD t35.toNat default)) fun r0=>.h ((IntKind.i64.wrap (n_+r0)),(),t12,t13,t14,t25,t26,t27,t33,t34,(IntKind.i64.wrap (t35+1)),()) (f,())) .d) (.k (n_,t12,t13,t14,t25,t26,t27,f))
def zlc (zj:List Term→Bool×Int) (x:ttTannotationSize0) (y:Factor×Unit):Wy ttTannotationSize0 (Factor×Unit) ttTannotationSize1:=zxJ zj x.1 x.2.2.1 x.2.2.2.1 x.2.2.2.2.1 x.2.2.2.2.2.1 x.2.2.2.2.2.2.1 x.2.2.2.2.2.2.2.1 x.2.2.2.2.2.2.2.2.1 x.2.2.2.2.2.2.2.2.2.1 x.2.2.2.2.2.2.2.2.2.2.1 y.1
def zxE (zj:List Term→Bool×Int) (n:Nat) (n_:Int) (t12:List Term) (t13:Int) (t14:Int) (t25:List Factor) (t26:Int) (t27:Int) (t33:List (List Term)) (t34:Int) (t35:Int) (f:Factor):Bool×ttTannotationSize1:=zO (zlc zj) default n (n_,(),t12,t13,t14,t25,t26,t27,t33,t34,t35,()) (f,())
def zpL (r:ttTannotationSize1):LTree ty:=.done (.exit 4) [.lit (.int .i64 r.1),.ptr 248 0,.sl 152 r.2.1,.lit (.int .i64 r.2.2.1),.lit (.int .i64 r.2.2.2.1),.sl 160 r.2.2.2.2.1,.lit (.int .i64 r.2.2.2.2.2.1),.lit (.int .i64 r.2.2.2.2.2.2.1)] [.box (base.enc 160 r.2.2.2.2.2.2.2) false]
def zqF:LL ty ttTannotationSize0:=za (lInt .i64) (za (zcF 248 0) (za (lSl 152) (za (lInt .i64) (za (lInt .i64) (za (lSl 160) (za (lInt .i64) (za (lInt .i64) (za (lSl 36) (za (lInt .i64) (za (lInt .i64) zF))))))))))
def zqJ:BL ty (Factor×Unit):=bBox (zex (fun x=>(⟨⟨x.1,⟨x.2.1,x.2.2.1⟩,x.2.2.2.1,x.2.2.2.2.1,x.2.2.2.2.2.1,x.2.2.2.2.2.2.1,⟨x.2.2.2.2.2.2.2.1,x.2.2.2.2.2.2.2.2.1,x.2.2.2.2.2.2.2.2.2.1⟩⟩,x.2.2.2.2.2.2.2.2.2.2.1⟩:Factor)) (fun x=>(x.Atom.Kind,x.Atom.Row.Table,x.Atom.Row.Seq,x.Atom.Args,x.Atom.Func,x.Atom.Items,x.Atom.Op,x.Atom.Bound.Kind,x.Atom.Bound.Int,x.Atom.Bound.Text,x.Exp,())) (fun _=>rfl) (za (lInt .i64) (za (lInt .i64) (za (lInt .i64) (za (lSl 36) (za (lInt .i64) (za (lSl 182) (za (lInt .i64) (za (lInt .i64) (za (lInt .i64) (za lStr (za (lInt .i64) zF)))))))))))) false (bNil)
def zxT (zj:List Term→Bool×Int) (n_:Int) (t12:List Term) (t13:Int) (t14:Int) (t25:List Factor) (t26:Int) (t27:Int) (t46:List Weighted) (t47:Int) (t48:Int):Wy ttTannotationSize2 (Unit) ttTannotationSize3:=.i (decide (t48<t47)) (.i (decide (0≤t48)&&decide (t48<Int.ofNat t46.length)) (.bn (zj (t46.getD t48.toNat default).Ann) fun r2=>.h ((IntKind.i64.wrap (n_+IntKind.i64.wrap (1+r2))),t12,t13,t14,t25,t26,t27,t46,t47,(IntKind.i64.wrap (t48+1)),()) ()) .d) (.k (n_,t12,t13,t14,t25,t26,t27))
def zk8 (zj:List Term→Bool×Int) (x:ttTannotationSize2) (y:Unit):Wy ttTannotationSize2 (Unit) ttTannotationSize3:=zxT zj x.1 x.2.1 x.2.2.1 x.2.2.2.1 x.2.2.2.2.1 x.2.2.2.2.2.1 x.2.2.2.2.2.2.1 x.2.2.2.2.2.2.2.1 x.2.2.2.2.2.2.2.2.1 x.2.2.2.2.2.2.2.2.2.1
def zxz (zj:List Term→Bool×Int) (n:Nat) (n_:Int) (t12:List Term) (t13:Int) (t14:Int) (t25:List Factor) (t26:Int) (t27:Int) (t46:List Weighted) (t47:Int) (t48:Int):Bool×ttTannotationSize3:=zO (zk8 zj) default n (n_,t12,t13,t14,t25,t26,t27,t46,t47,t48,()) ()
def zpS (r:ttTannotationSize3):LTree ty:=.done (.exit 6) [.lit (.int .i64 r.1),.sl 152 r.2.1,.lit (.int .i64 r.2.2.1),.lit (.int .i64 r.2.2.2.1),.sl 160 r.2.2.2.2.1,.lit (.int .i64 r.2.2.2.2.2.1),.lit (.int .i64 r.2.2.2.2.2.2)] []
def zqM:LL ty ttTannotationSize2:=za (lInt .i64) (za (lSl 152) (za (lInt .i64) (za (lInt .i64) (za (lSl 160) (za (lInt .i64) (za (lInt .i64) (za (lSl 182) (za (lInt .i64) (za (lInt .i64) zF)))))))))
def zqK:BL ty (Unit):=bNil
def zyz (zj:List Term→Bool×Int) (n_:Int) (t12:List Term) (t13:Int) (t14:Int) (t25:List Factor) (t26:Int) (t27:Int):Wy ttTannotationSize4 (Unit) ttTannotationSize5:=.i (decide (t27<t26)) (.i (decide (0≤t27)&&decide (t27<Int.ofNat t25.length)) (.bn (zxE zj (n_.toNat +t12.length+t13.toNat +t14.toNat +t25.length+t26.toNat +t27.toNat +(t25.getD t27.toNat default).Atom.Args.length+(Int.ofNat (t25.getD t27.toNat default).Atom.Args.length).toNat +Int.toNat 0+(t25.getD t27.toNat default).Atom.Args.length+(t25.getD t27.toNat default).Atom.Items.length+1000) n_ t12 t13 t14 t25 t26 t27 (t25.getD t27.toNat default).Atom.Args (Int.ofNat (t25.getD t27.toNat default).Atom.Args.length) 0 (FactorOf.mk (Atom.mk (t25.getD t27.toNat default).Atom.Kind (t25.getD t27.toNat default).Atom.Row (t25.getD t27.toNat default).Atom.Args (t25.getD t27.toNat default).Atom.Func (t25.getD t27.toNat default).Atom.Items (t25.getD t27.toNat default).Atom.Op (t25.getD t27.toNat default).Atom.Bound) (t25.getD t27.toNat default).Exp)) fun r5=>.bn (zxz zj (r5.1.toNat +r5.2.1.length+r5.2.2.1.toNat +r5.2.2.2.1.toNat +r5.2.2.2.2.1.length+r5.2.2.2.2.2.1.toNat +r5.2.2.2.2.2.2.1.toNat +r5.2.2.2.2.2.2.2.Atom.Items.length+(Int.ofNat r5.2.2.2.2.2.2.2.Atom.Items.length).toNat +Int.toNat 0+1000) r5.1 r5.2.1 r5.2.2.1 r5.2.2.2.1 r5.2.2.2.2.1 r5.2.2.2.2.2.1 r5.2.2.2.2.2.2.1 r5.2.2.2.2.2.2.2.Atom.Items (Int.ofNat r5.2.2.2.2.2.2.2.Atom.Items.length) 0) fun r4=>.h ((r4.1),(r4.2.1),(r4.2.2.1),(r4.2.2.2.1),(r4.2.2.2.2.1),(r4.2.2.2.2.2.1),(IntKind.i64.wrap (r4.2.2.2.2.2.2+1)),()) ()) .d) (.k (n_,t12,t13,t14))
def zmH (zj:List Term→Bool×Int) (x:ttTannotationSize4) (y:Unit):Wy ttTannotationSize4 (Unit) ttTannotationSize5:=zyz zj x.1 x.2.1 x.2.2.1 x.2.2.2.1 x.2.2.2.2.1 x.2.2.2.2.2.1 x.2.2.2.2.2.2.1
def zyS (zj:List Term→Bool×Int) (n:Nat) (n_:Int) (t12:List Term) (t13:Int) (t14:Int) (t25:List Factor) (t26:Int) (t27:Int):Bool×ttTannotationSize5:=zO (zmH zj) default n (n_,t12,t13,t14,t25,t26,t27,()) ()
def zqd (r:ttTannotationSize5):LTree ty:=.done (.exit 2) [.lit (.int .i64 r.1),.sl 152 r.2.1,.lit (.int .i64 r.2.2.1),.lit (.int .i64 r.2.2.2)] []
def zro:LL ty ttTannotationSize4:=za (lInt .i64) (za (lSl 152) (za (lInt .i64) (za (lInt .i64) (za (lSl 160) (za (lInt .i64) (za (lInt .i64) zF))))))
def zr1:BL ty (Unit):=bNil
def zyP (zj:List Term→Bool×Int) (n_:Int) (t12:List Term) (t13:Int) (t14:Int):Wy ttTannotationSize6 (Unit) (Int):=.i (decide (t14<t13)) (.i (decide (0≤t14)&&decide (t14<Int.ofNat t12.length)) (.bn (zyS zj ((IntKind.i64.wrap (n_+IntKind.i64.wrap (1+Int.ofNat (t12.getD t14.toNat default).Factors.length))).toNat +t12.length+t13.toNat +t14.toNat +(t12.getD t14.toNat default).Factors.length+(Int.ofNat (t12.getD t14.toNat default).Factors.length).toNat +Int.toNat 0+1000) (IntKind.i64.wrap (n_+IntKind.i64.wrap (1+Int.ofNat (t12.getD t14.toNat default).Factors.length))) t12 t13 t14 (t12.getD t14.toNat default).Factors (Int.ofNat (t12.getD t14.toNat default).Factors.length) 0) fun r8=>.h ((r8.1),(r8.2.1),(r8.2.2.1),(IntKind.i64.wrap (r8.2.2.2+1)),()) ()) .d) (.k n_)
def zmt (zj:List Term→Bool×Int) (x:ttTannotationSize6) (y:Unit):Wy ttTannotationSize6 (Unit) (Int):=zyP zj x.1 x.2.1 x.2.2.1 x.2.2.2.1
def zyO (zj:List Term→Bool×Int) (n:Nat) (n_:Int) (t12:List Term) (t13:Int) (t14:Int):Bool×Int:=zO (zmt zj) default n (n_,t12,t13,t14,()) ()
def zqZ (r:Int):LTree ty:=.done (.exit 0) [.lit (.int .i64 r)] []
def zrj:LL ty ttTannotationSize6:=za (lInt .i64) (za (lSl 152) (za (lInt .i64) (za (lInt .i64) zF)))
def zrt:BL ty (Unit):=bNil
def zpu (x:ttTannotationSize0) (y:Factor×Unit):Nat:=(Int.toNat x.1+x.2.2.1.length+Int.toNat x.2.2.2.1+Int.toNat x.2.2.2.2.1+x.2.2.2.2.2.1.length+Int.toNat x.2.2.2.2.2.2.1+Int.toNat x.2.2.2.2.2.2.2.1+x.2.2.2.2.2.2.2.2.1.length+Int.toNat x.2.2.2.2.2.2.2.2.2.1+Int.toNat x.2.2.2.2.2.2.2.2.2.2.1+y.1.Atom.Args.length+y.1.Atom.Items.length+1000)
def zpr (x:ttTannotationSize2) (y:Unit):Nat:=(Int.toNat x.1+x.2.1.length+Int.toNat x.2.2.1+Int.toNat x.2.2.2.1+x.2.2.2.2.1.length+Int.toNat x.2.2.2.2.2.1+Int.toNat x.2.2.2.2.2.2.1+x.2.2.2.2.2.2.2.1.length+Int.toNat x.2.2.2.2.2.2.2.2.1+Int.toNat x.2.2.2.2.2.2.2.2.2.1+1000)
def zqp (x:ttTannotationSize4) (y:Unit):Nat:=(Int.toNat x.1+x.2.1.length+Int.toNat x.2.2.1+Int.toNat x.2.2.2.1+x.2.2.2.2.1.length+Int.toNat x.2.2.2.2.2.1+Int.toNat x.2.2.2.2.2.2.1+1000)
def zqc (x:ttTannotationSize6) (y:Unit):Nat:=(Int.toNat x.1+x.2.1.length+Int.toNat x.2.2.1+Int.toNat x.2.2.2.1+1000)
def zhv (zj:List Term→Bool×Int):Cx ty:=mkCx base 62 [(137,(zi5 zj))] [] [(3,[(3,.keep),(12,.keep),(13,.keep),(14,.keep)]),(7,[(3,.keep),(12,.keep),(13,.keep),(14,.keep),(25,.keep),(26,.keep),(27,.keep)]),(10,[(3,.keep),(7,.keep),(12,.keep),(13,.keep),(14,.keep),(25,.keep),(26,.keep),(27,.keep),(33,.keep),(34,.keep),(35,.keep)]),(15,[(3,.keep),(12,.keep),(13,.keep),(14,.keep),(25,.keep),(26,.keep),(27,.keep),(46,.keep),(47,.keep),(48,.keep)])] [(3,1,[(3,.keep)]),(7,3,[(3,.keep),(12,.keep),(13,.keep),(14,.keep)]),(10,5,[(3,.keep),(7,.keep),(12,.keep),(13,.keep),(14,.keep),(25,.keep),(26,.keep),(27,.keep)]),(15,7,[(3,.keep),(12,.keep),(13,.keep),(14,.keep),(25,.keep),(26,.keep),(27,.keep)])] [(10,spW zqF zqJ (zlc zj) default zpL zpu),(15,spW zqM zqK (zk8 zj) default zpS zpr),(7,spW zro zr1 (zmH zj) default zqd zqp),(3,spW zrj zrt (zmt zj) default zqZ zqc)] []
theorem zxo (zj:List Term→Bool×Int):zX (zhv zj) (lp (body Tryz.f137) 2):=zN (id:=10) (V:=zqF) (B:=zqJ) (W:=zlc zj) (z:=default) (tr:=zpL) (m:=zpu)
theorem zwR (zj:List Term→Bool×Int):zX (zhv zj) (lp (body Tryz.f137) 3):=zN (id:=15) (V:=zqM) (B:=zqK) (W:=zk8 zj) (z:=default) (tr:=zpS) (m:=zpr)
theorem zxs (zj:List Term→Bool×Int):zX (zhv zj) (lp (body Tryz.f137) 1):=zN (id:=7) (V:=zro) (B:=zr1) (W:=zmH zj) (z:=default) (tr:=zqd) (m:=zqp)
theorem zxM (zj:List Term→Bool×Int):zX (zhv zj) (lp (body Tryz.f137) 0):=zN (id:=3) (V:=zrj) (B:=zrt) (W:=zmt zj) (z:=default) (tr:=zqZ) (m:=zqc)
def zsr (zj:List Term→Bool×Int) (a:List Term):Wy0 (Int):=.bn (zyO zj (Int.toNat 0+a.length+(Int.ofNat a.length).toNat +Int.toNat 0+1000) 0 a (Int.ofNat a.length) 0) fun r10=>.k r10
def zuk (zj:List Term→Bool×Int) (a:List Term):Bool×Int:=(zsr zj a).fin default
theorem zwb (zj:List Term→Bool×Int) (zzG:Sound Tryz.prog base 137 (zi5 zj)):Sound Tryz.prog base 137 (zi5 (zuk zj)):=
 zy (cx':=(zhv zj)) zH zo zD (zB ⟨zzG,trivial⟩) Tryz.call137 Tryz.func137 (c:=body Tryz.f137) (by kernel_rfl) (zi (l:=[lp (body Tryz.f137) 0,lp (body Tryz.f137) 1,lp (body Tryz.f137) 2,lp (body Tryz.f137) 3]) (by kernel_rfl) ⟨zxM zj,zxs zj,zxo zj,zwR zj,trivial⟩) (sg:=⟨[.pure],[]⟩) (A:=zux) (res:=zsc) (W:=fun x=>zsr zj x.1) (z:=default)
def zEU:Nat→(List Term→Bool×Int)
 | 0=>fun _=>(false,default)
 | n+1=>zuk (zEU n)
def zut (n:Nat):List Term→Bool×Int:=zEU n
theorem zCv:∀ n,Sound Tryz.prog base 137 (zi5 (zut n))
 | 0=>zbp Tryz.call137 (fun _=>rfl)
 | n+1=>by
  have ih:=zCv n
  exact zwb _ (ih)
def zwm:List Term→Bool×Int:=zut 1000
def annotation_Size_spec:Ab.Spec ty:=zi5 zwm
theorem zxO:Sound Tryz.prog base 137 annotation_Size_spec:=(zCv 1000)
def zpl (r:Int):ARes ty:=⟨[.pure (.lit (.int .i64 r))],[]⟩
def zre:AL base (List Term×Unit):=zf (zg (vSl 152)) aNil
def zhr (F:List Term→Bool×Int):Ab.Spec ty:=zn zre fun x=>((F x.1).1,zpl (F x.1).2)
abbrev ttTannotationnesting0:=Int×Unit×Int×List Term×Int×Int×List Factor×Int×Int×List (List Term)×Int×Int×Unit
abbrev ttTannotationnesting1:=Int×Int×List Term×Int×Int×List Factor×Int×Int×Factor
abbrev ttTannotationnesting2:=Int×Int×List Term×Int×Int×List Factor×Int×Int×List Weighted×Int×Int×Unit
abbrev ttTannotationnesting3:=Int×Int×List Term×Int×Int×List Factor×Int×Int
abbrev ttTannotationnesting4:=Int×List Term×Int×Int×List Factor×Int×Int×Unit
abbrev ttTannotationnesting5:=Int×List Term×Int×Int
abbrev ttTannotationnesting6:=Int×List Term×Int×Int×Unit
def zvB (zh:List Term→Bool×Int) (n_:Int) (inner:Int) (t13:List Term) (t14:Int) (t15:Int) (t20:List Factor) (t21:Int) (t22:Int) (t32:List (List Term)) (t33:Int) (t34:Int) (f:Factor):Wy ttTannotationnesting0 (Factor×Unit) ttTannotationnesting1:=.i (decide (t34<t33)) (.i (decide (0≤t34)&&decide (t34<Int.ofNat t32.length)) (.bn (zh (t32.getD t34.toNat default)) fun r0=>.h (n_,(),(if r0>inner then r0 else inner),t13,t14,t15,t20,t21,t22,t32,t33,(IntKind.i64.wrap (t34+1)),()) (f,())) .d) (.k (n_,inner,t13,t14,t15,t20,t21,t22,f))
def zjU (zh:List Term→Bool×Int) (x:ttTannotationnesting0) (y:Factor×Unit):Wy ttTannotationnesting0 (Factor×Unit) ttTannotationnesting1:=zvB zh x.1 x.2.2.1 x.2.2.2.1 x.2.2.2.2.1 x.2.2.2.2.2.1 x.2.2.2.2.2.2.1 x.2.2.2.2.2.2.2.1 x.2.2.2.2.2.2.2.2.1 x.2.2.2.2.2.2.2.2.2.1 x.2.2.2.2.2.2.2.2.2.2.1 x.2.2.2.2.2.2.2.2.2.2.2.1 y.1
def zvl (zh:List Term→Bool×Int) (n:Nat) (n_:Int) (inner:Int) (t13:List Term) (t14:Int) (t15:Int) (t20:List Factor) (t21:Int) (t22:Int) (t32:List (List Term)) (t33:Int) (t34:Int) (f:Factor):Bool×ttTannotationnesting1:=zO (zjU zh) default n (n_,(),inner,t13,t14,t15,t20,t21,t22,t32,t33,t34,()) (f,())
def znp (r:ttTannotationnesting1):LTree ty:=.done (.exit 4) [.lit (.int .i64 r.1),.ptr 256 0,.lit (.int .i64 r.2.1),.sl 152 r.2.2.1,.lit (.int .i64 r.2.2.2.1),.lit (.int .i64 r.2.2.2.2.1),.sl 160 r.2.2.2.2.2.1,.lit (.int .i64 r.2.2.2.2.2.2.1),.lit (.int .i64 r.2.2.2.2.2.2.2.1)] [.box (base.enc 160 r.2.2.2.2.2.2.2.2) false]
def zok:LL ty ttTannotationnesting0:=za (lInt .i64) (za (zcF 256 0) (za (lInt .i64) (za (lSl 152) (za (lInt .i64) (za (lInt .i64) (za (lSl 160) (za (lInt .i64) (za (lInt .i64) (za (lSl 36) (za (lInt .i64) (za (lInt .i64) zF)))))))))))
def zod:BL ty (Factor×Unit):=bBox (zex (fun x=>(⟨⟨x.1,⟨x.2.1,x.2.2.1⟩,x.2.2.2.1,x.2.2.2.2.1,x.2.2.2.2.2.1,x.2.2.2.2.2.2.1,⟨x.2.2.2.2.2.2.2.1,x.2.2.2.2.2.2.2.2.1,x.2.2.2.2.2.2.2.2.2.1⟩⟩,x.2.2.2.2.2.2.2.2.2.2.1⟩:Factor)) (fun x=>(x.Atom.Kind,x.Atom.Row.Table,x.Atom.Row.Seq,x.Atom.Args,x.Atom.Func,x.Atom.Items,x.Atom.Op,x.Atom.Bound.Kind,x.Atom.Bound.Int,x.Atom.Bound.Text,x.Exp,())) (fun _=>rfl) (za (lInt .i64) (za (lInt .i64) (za (lInt .i64) (za (lSl 36) (za (lInt .i64) (za (lSl 182) (za (lInt .i64) (za (lInt .i64) (za (lInt .i64) (za lStr (za (lInt .i64) zF)))))))))))) false (bNil)
def zvW (zh:List Term→Bool×Int) (n_:Int) (inner:Int) (t13:List Term) (t14:Int) (t15:Int) (t20:List Factor) (t21:Int) (t22:Int) (t45:List Weighted) (t46:Int) (t47:Int):Wy ttTannotationnesting2 (Unit) ttTannotationnesting3:=.i (decide (t47<t46)) (.i (decide (0≤t47)&&decide (t47<Int.ofNat t45.length)) (.bn (zh (t45.getD t47.toNat default).Ann) fun r2=>.h (n_,(if r2>inner then r2 else inner),t13,t14,t15,t20,t21,t22,t45,t46,(IntKind.i64.wrap (t47+1)),()) ()) .d) (.k (n_,inner,t13,t14,t15,t20,t21,t22))
def zjX (zh:List Term→Bool×Int) (x:ttTannotationnesting2) (y:Unit):Wy ttTannotationnesting2 (Unit) ttTannotationnesting3:=zvW zh x.1 x.2.1 x.2.2.1 x.2.2.2.1 x.2.2.2.2.1 x.2.2.2.2.2.1 x.2.2.2.2.2.2.1 x.2.2.2.2.2.2.2.1 x.2.2.2.2.2.2.2.2.1 x.2.2.2.2.2.2.2.2.2.1 x.2.2.2.2.2.2.2.2.2.2.1
def zvK (zh:List Term→Bool×Int) (n:Nat) (n_:Int) (inner:Int) (t13:List Term) (t14:Int) (t15:Int) (t20:List Factor) (t21:Int) (t22:Int) (t45:List Weighted) (t46:Int) (t47:Int):Bool×ttTannotationnesting3:=zO (zjX zh) default n (n_,inner,t13,t14,t15,t20,t21,t22,t45,t46,t47,()) ()
def znt (r:ttTannotationnesting3):LTree ty:=.done (.exit 6) [.lit (.int .i64 r.1),.lit (.int .i64 r.2.1),.sl 152 r.2.2.1,.lit (.int .i64 r.2.2.2.1),.lit (.int .i64 r.2.2.2.2.1),.sl 160 r.2.2.2.2.2.1,.lit (.int .i64 r.2.2.2.2.2.2.1),.lit (.int .i64 r.2.2.2.2.2.2.2)] []
def zol:LL ty ttTannotationnesting2:=za (lInt .i64) (za (lInt .i64) (za (lSl 152) (za (lInt .i64) (za (lInt .i64) (za (lSl 160) (za (lInt .i64) (za (lInt .i64) (za (lSl 182) (za (lInt .i64) (za (lInt .i64) zF))))))))))
def zom:BL ty (Unit):=bNil
def zv8 (zh:List Term→Bool×Int) (n_:Int) (t13:List Term) (t14:Int) (t15:Int) (t20:List Factor) (t21:Int) (t22:Int):Wy ttTannotationnesting4 (Unit) ttTannotationnesting5:=.i (decide (t22<t21)) (.i (decide (0≤t22)&&decide (t22<Int.ofNat t20.length)) (.i ((t20.getD t22.toNat default).Atom.Kind==0) (.h (n_,t13,t14,t15,t20,t21,(IntKind.i64.wrap (t22+1)),()) ()) (.bn (zvl zh (n_.toNat +Int.toNat 0+t13.length+t14.toNat +t15.toNat +t20.length+t21.toNat +t22.toNat +(t20.getD t22.toNat default).Atom.Args.length+(Int.ofNat (t20.getD t22.toNat default).Atom.Args.length).toNat +Int.toNat 0+(t20.getD t22.toNat default).Atom.Args.length+(t20.getD t22.toNat default).Atom.Items.length+1000) n_ 0 t13 t14 t15 t20 t21 t22 (t20.getD t22.toNat default).Atom.Args (Int.ofNat (t20.getD t22.toNat default).Atom.Args.length) 0 (FactorOf.mk (Atom.mk (t20.getD t22.toNat default).Atom.Kind (t20.getD t22.toNat default).Atom.Row (t20.getD t22.toNat default).Atom.Args (t20.getD t22.toNat default).Atom.Func (t20.getD t22.toNat default).Atom.Items (t20.getD t22.toNat default).Atom.Op (t20.getD t22.toNat default).Atom.Bound) (t20.getD t22.toNat default).Exp)) fun r5=>.bn (zvK zh (r5.1.toNat +r5.2.1.toNat +r5.2.2.1.length+r5.2.2.2.1.toNat +r5.2.2.2.2.1.toNat +r5.2.2.2.2.2.1.length+r5.2.2.2.2.2.2.1.toNat +r5.2.2.2.2.2.2.2.1.toNat +r5.2.2.2.2.2.2.2.2.Atom.Items.length+(Int.ofNat r5.2.2.2.2.2.2.2.2.Atom.Items.length).toNat +Int.toNat 0+1000) r5.1 r5.2.1 r5.2.2.1 r5.2.2.2.1 r5.2.2.2.2.1 r5.2.2.2.2.2.1 r5.2.2.2.2.2.2.1 r5.2.2.2.2.2.2.2.1 r5.2.2.2.2.2.2.2.2.Atom.Items (Int.ofNat r5.2.2.2.2.2.2.2.2.Atom.Items.length) 0) fun r4=>.h ((if IntKind.i64.wrap (1+r4.2.1)>r4.1 then IntKind.i64.wrap (1+r4.2.1) else r4.1),(r4.2.2.1),(r4.2.2.2.1),(r4.2.2.2.2.1),(r4.2.2.2.2.2.1),(r4.2.2.2.2.2.2.1),(IntKind.i64.wrap (r4.2.2.2.2.2.2.2+1)),()) ())) .d) (.k (n_,t13,t14,t15))
def zkc (zh:List Term→Bool×Int) (x:ttTannotationnesting4) (y:Unit):Wy ttTannotationnesting4 (Unit) ttTannotationnesting5:=zv8 zh x.1 x.2.1 x.2.2.1 x.2.2.2.1 x.2.2.2.2.1 x.2.2.2.2.2.1 x.2.2.2.2.2.2.1
def zwd (zh:List Term→Bool×Int) (n:Nat) (n_:Int) (t13:List Term) (t14:Int) (t15:Int) (t20:List Factor) (t21:Int) (t22:Int):Bool×ttTannotationnesting5:=zO (zkc zh) default n (n_,t13,t14,t15,t20,t21,t22,()) ()
def zoe (r:ttTannotationnesting5):LTree ty:=.done (.exit 2) [.lit (.int .i64 r.1),.sl 152 r.2.1,.lit (.int .i64 r.2.2.1),.lit (.int .i64 r.2.2.2)] []
def zoZ:LL ty ttTannotationnesting4:=za (lInt .i64) (za (lSl 152) (za (lInt .i64) (za (lInt .i64) (za (lSl 160) (za (lInt .i64) (za (lInt .i64) zF))))))
def zo1:BL ty (Unit):=bNil
def zv1 (zh:List Term→Bool×Int) (n_:Int) (t13:List Term) (t14:Int) (t15:Int):Wy ttTannotationnesting6 (Unit) (Int):=.i (decide (t15<t14)) (.i (decide (0≤t15)&&decide (t15<Int.ofNat t13.length)) (.bn (zwd zh (n_.toNat +t13.length+t14.toNat +t15.toNat +(t13.getD t15.toNat default).Factors.length+(Int.ofNat (t13.getD t15.toNat default).Factors.length).toNat +Int.toNat 0+1000) n_ t13 t14 t15 (t13.getD t15.toNat default).Factors (Int.ofNat (t13.getD t15.toNat default).Factors.length) 0) fun r8=>.h ((r8.1),(r8.2.1),(r8.2.2.1),(IntKind.i64.wrap (r8.2.2.2+1)),()) ()) .d) (.k n_)
def zkm (zh:List Term→Bool×Int) (x:ttTannotationnesting6) (y:Unit):Wy ttTannotationnesting6 (Unit) (Int):=zv1 zh x.1 x.2.1 x.2.2.1 x.2.2.2.1
def zv2 (zh:List Term→Bool×Int) (n:Nat) (n_:Int) (t13:List Term) (t14:Int) (t15:Int):Bool×Int:=zO (zkm zh) default n (n_,t13,t14,t15,()) ()
def zn5 (r:Int):LTree ty:=.done (.exit 0) [.lit (.int .i64 r)] []
def zoI:LL ty ttTannotationnesting6:=za (lInt .i64) (za (lSl 152) (za (lInt .i64) (za (lInt .i64) zF)))
def zoT:BL ty (Unit):=bNil
def znz (x:ttTannotationnesting0) (y:Factor×Unit):Nat:=(Int.toNat x.1+Int.toNat x.2.2.1+x.2.2.2.1.length+Int.toNat x.2.2.2.2.1+Int.toNat x.2.2.2.2.2.1+x.2.2.2.2.2.2.1.length+Int.toNat x.2.2.2.2.2.2.2.1+Int.toNat x.2.2.2.2.2.2.2.2.1+x.2.2.2.2.2.2.2.2.2.1.length+Int.toNat x.2.2.2.2.2.2.2.2.2.2.1+Int.toNat x.2.2.2.2.2.2.2.2.2.2.2.1+y.1.Atom.Args.length+y.1.Atom.Items.length+1000)
def znI (x:ttTannotationnesting2) (y:Unit):Nat:=(Int.toNat x.1+Int.toNat x.2.1+x.2.2.1.length+Int.toNat x.2.2.2.1+Int.toNat x.2.2.2.2.1+x.2.2.2.2.2.1.length+Int.toNat x.2.2.2.2.2.2.1+Int.toNat x.2.2.2.2.2.2.2.1+x.2.2.2.2.2.2.2.2.1.length+Int.toNat x.2.2.2.2.2.2.2.2.2.1+Int.toNat x.2.2.2.2.2.2.2.2.2.2.1+1000)
def znX (x:ttTannotationnesting4) (y:Unit):Nat:=(Int.toNat x.1+x.2.1.length+Int.toNat x.2.2.1+Int.toNat x.2.2.2.1+x.2.2.2.2.1.length+Int.toNat x.2.2.2.2.2.1+Int.toNat x.2.2.2.2.2.2.1+1000)
def zn1 (x:ttTannotationnesting6) (y:Unit):Nat:=(Int.toNat x.1+x.2.1.length+Int.toNat x.2.2.1+Int.toNat x.2.2.2.1+1000)
def zf5 (zh:List Term→Bool×Int):Cx ty:=mkCx base 64 [(136,(zhr zh))] [] [(3,[(3,.keep),(13,.keep),(14,.keep),(15,.keep)]),(6,[(3,.keep),(13,.keep),(14,.keep),(15,.keep),(20,.keep),(21,.keep),(22,.keep)]),(11,[(3,.keep),(7,.keep),(8,.keep),(13,.keep),(14,.keep),(15,.keep),(20,.keep),(21,.keep),(22,.keep),(32,.keep),(33,.keep),(34,.keep)]),(16,[(3,.keep),(8,.keep),(13,.keep),(14,.keep),(15,.keep),(20,.keep),(21,.keep),(22,.keep),(45,.keep),(46,.keep),(47,.keep)])] [(3,1,[(3,.keep)]),(6,3,[(3,.keep),(13,.keep),(14,.keep),(15,.keep)]),(11,5,[(3,.keep),(7,.keep),(8,.keep),(13,.keep),(14,.keep),(15,.keep),(20,.keep),(21,.keep),(22,.keep)]),(16,7,[(3,.keep),(8,.keep),(13,.keep),(14,.keep),(15,.keep),(20,.keep),(21,.keep),(22,.keep)])] [(11,spW zok zod (zjU zh) default znp znz),(16,spW zol zom (zjX zh) default znt znI),(6,spW zoZ zo1 (zkc zh) default zoe znX),(3,spW zoI zoT (zkm zh) default zn5 zn1)] []
theorem zuU (zh:List Term→Bool×Int):zX (zf5 zh) (lp (body Tryz.f136) 2):=zN (id:=11) (V:=zok) (B:=zod) (W:=zjU zh) (z:=default) (tr:=znp) (m:=znz)
theorem zuE (zh:List Term→Bool×Int):zX (zf5 zh) (lp (body Tryz.f136) 3):=zN (id:=16) (V:=zol) (B:=zom) (W:=zjX zh) (z:=default) (tr:=znt) (m:=znI)
theorem zvI (zh:List Term→Bool×Int):zX (zf5 zh) (lp (body Tryz.f136) 1):=zN (id:=6) (V:=zoZ) (B:=zo1) (W:=zkc zh) (z:=default) (tr:=zoe) (m:=znX)
theorem zvS (zh:List Term→Bool×Int):zX (zf5 zh) (lp (body Tryz.f136) 0):=zN (id:=3) (V:=zoI) (B:=zoT) (W:=zkm zh) (z:=default) (tr:=zn5) (m:=zn1)
def zpK (zh:List Term→Bool×Int) (a:List Term):Wy0 (Int):=.bn (zv2 zh (Int.toNat 0+a.length+(Int.ofNat a.length).toNat +Int.toNat 0+1000) 0 a (Int.ofNat a.length) 0) fun r10=>.k r10
def zrN (zh:List Term→Bool×Int) (a:List Term):Bool×Int:=(zpK zh a).fin default
theorem zt0 (zh:List Term→Bool×Int) (zw3:Sound Tryz.prog base 136 (zhr zh)):Sound Tryz.prog base 136 (zhr (zrN zh)):=
 zy (cx':=(zf5 zh)) zH zo zD (zB ⟨zw3,trivial⟩) Tryz.call136 Tryz.func136 (c:=body Tryz.f136) (by kernel_rfl) (zi (l:=[lp (body Tryz.f136) 0,lp (body Tryz.f136) 1,lp (body Tryz.f136) 2,lp (body Tryz.f136) 3]) (by kernel_rfl) ⟨zvS zh,zvI zh,zuU zh,zuE zh,trivial⟩) (sg:=⟨[.pure],[]⟩) (A:=zre) (res:=zpl) (W:=fun x=>zpK zh x.1) (z:=default)
def zBK:Nat→(List Term→Bool×Int)
 | 0=>fun _=>(false,default)
 | n+1=>zrN (zBK n)
def zrB (n:Nat):List Term→Bool×Int:=zBK n
theorem zzr:∀ n,Sound Tryz.prog base 136 (zhr (zrB n))
 | 0=>zbp Tryz.call136 (fun _=>rfl)
 | n+1=>by
  have ih:=zzr n
  exact zt0 _ (ih)
def ztB:List Term→Bool×Int:=zrB 1000
def annotation_nesting_spec:Ab.Spec ty:=zhr ztB
theorem zve:Sound Tryz.prog base 136 annotation_nesting_spec:=(zzr 1000)
def ztX:Cx ty:=mkCx base 13 [] [] [] [] [] []
def zny (f:Factor):Wy0 (Bool):=.i (decide (f.Exp>64)) (.k true) (.k (decide (Int.ofNat f.Atom.Items.length>1024)))
def zka (f:Factor):Bool×Bool:=(zny f).fin default
def zlP (r:Bool):ARes ty:=⟨[.pure (.lit (.bool r))],[]⟩
def znF:AL base (Factor×Unit):=zf (zg (vAgg 160)) aNil
def zfS:Ab.Spec ty:=zn znF fun x=>((zka x.1).1,zlP (zka x.1).2)
theorem zhN:Sound Tryz.prog base 141 zfS:=
 zy (cx':=ztX) zH zo zD (zB trivial) Tryz.call141 Tryz.func141 (c:=body Tryz.f141) (by kernel_rfl) (zi (l:=[]) (by kernel_rfl) trivial) (sg:=⟨[.pure],[]⟩) (A:=znF) (res:=zlP) (W:=fun x=>zny x.1) (z:=default)
abbrev ttTslicesIndexFuncLapiFactorapiFactorwi0:=List Factor×Unit×Int×Int×Unit
def zkq (s:List Factor) (t7:Int) (t8:Int):Wy ttTslicesIndexFuncLapiFactorapiFactorwi0 (Unit) (Int⊕Unit):=.i (decide (t8<t7)) (.i (decide (0≤t8)&&decide (t8<Int.ofNat s.length)) (.bn (zka (FactorOf.mk (Atom.mk (s.getD t8.toNat default).Atom.Kind (s.getD t8.toNat default).Atom.Row (s.getD t8.toNat default).Atom.Args (s.getD t8.toNat default).Atom.Func (s.getD t8.toNat default).Atom.Items (s.getD t8.toNat default).Atom.Op (s.getD t8.toNat default).Atom.Bound) (s.getD t8.toNat default).Exp)) fun r0=>.i (r0) (.k (.inl t8)) (.h (s,(),t7,(IntKind.i64.wrap (t8+1)),()) ())) .d) (.k (.inr ()))
def zdk (x:ttTslicesIndexFuncLapiFactorapiFactorwi0) (y:Unit):Wy ttTslicesIndexFuncLapiFactorapiFactorwi0 (Unit) (Int⊕Unit):=zkq x.1 x.2.2.1 x.2.2.2.1
def zkt (n:Nat) (s:List Factor) (t7:Int) (t8:Int):Bool×(Int⊕Unit):=zO (zdk) (.inl default) n (s,(),t7,t8,()) ()
def zf2 (r:Int⊕Unit):LTree ty:=.ite (isL r) (.done .ret [.lit (.int .i64 (getL r))] []) (.done (.exit 0) [] [])
def zgl:LL ty ttTslicesIndexFuncLapiFactorapiFactorwi0:=za (lSl 160) (za (lFn 141 (zF)) (za (lInt .i64) (za (lInt .i64) zF)))
def zgn:BL ty (Unit):=bNil
def zgd (x:ttTslicesIndexFuncLapiFactorapiFactorwi0) (y:Unit):Nat:=(x.1.length+Int.toNat x.2.2.1+Int.toNat x.2.2.2.1+1000)
def zgk:Cx ty:=mkCx base 19 [(141,zfS)] [] [(2,[(0,.keep),(1,.keep),(7,.keep),(8,.keep)])] [(2,1,[]),(2,0,[(4,.keep)])] [(2,spW zgl zgn (zdk) (.inl default) zf2 zgd)] []
theorem zki:zX zgk (lp (body Tryz.f196) 0):=zN (id:=2) (V:=zgl) (B:=zgn) (W:=zdk) (z:=.inl default) (tr:=zf2) (m:=zgd)
def zgB (s:List Factor):Wy0 (Int):=.bn (zkt (s.length+(Int.ofNat s.length).toNat +Int.toNat 0+1000) s (Int.ofNat s.length) 0) fun r2=>.i (isL r2) (.k (getL r2)) (.k (-1:Int))
def zdE (s:List Factor):Bool×Int:=(zgB s).fin default
def zf4 (r:Int):ARes ty:=⟨[.pure (.lit (.int .i64 r))],[]⟩
def zgO:AL base (List Factor×Unit×Unit):=zf (zg (vSl 160)) (zf (zg (vFn 141 vNil)) aNil)
def zfN:Ab.Spec ty:=zn zgO fun x=>((zdE x.1).1,zf4 (zdE x.1).2)
theorem zjS:Sound Tryz.prog base 196 zfN:=
 zy (cx':=zgk) zH zo zD (zB ⟨zhN,trivial⟩) Tryz.call196 Tryz.func196 (c:=body Tryz.f196) (by kernel_rfl) (zi (l:=[lp (body Tryz.f196) 0]) (by kernel_rfl) ⟨zki,trivial⟩) (sg:=⟨[.pure],[]⟩) (A:=zgO) (res:=zf4) (W:=fun x=>zgB x.1) (z:=default)
def zj4:Cx ty:=mkCx base 9 [(141,zfS),(196,zfN)] [] [] [] [] []
def zfP (s:List Factor):Wy0 (Bool):=.bn (zdE s) fun r0=>.k (decide (r0≥0))
def zde (s:List Factor):Bool×Bool:=(zfP s).fin default
def zfe (r:Bool):ARes ty:=⟨[.pure (.lit (.bool r))],[]⟩
def zfO:AL base (List Factor×Unit×Unit):=zf (zg (vSl 160)) (zf (zg (vFn 141 vNil)) aNil)
def ze7:Ab.Spec ty:=zn zfO fun x=>((zde x.1).1,zfe (zde x.1).2)
theorem zje:Sound Tryz.prog base 140 ze7:=
 zy (cx':=zj4) zH zo zD (zB ⟨zhN,zjS,trivial⟩) Tryz.call140 Tryz.func140 (c:=body Tryz.f140) (by kernel_rfl) (zi (l:=[]) (by kernel_rfl) trivial) (sg:=⟨[.pure],[]⟩) (A:=zfO) (res:=zfe) (W:=fun x=>zfP x.1) (z:=default)
def zwg:Cx ty:=mkCx base 12 [(140,ze7),(141,zfS)] [] [] [] [] []
def zpE (t:Term):Wy0 (Bool):=.i (decide (Int.ofNat t.Factors.length>64)) (.k true) (.bn (zde t.Factors) fun r0=>.k r0)
def zmC (t:Term):Bool×Bool:=(zpE t).fin default
def znS (r:Bool):ARes ty:=⟨[.pure (.lit (.bool r))],[]⟩
def zpG:AL base (Term×Unit):=zf (zg (vAgg 152)) aNil
def zhf:Ab.Spec ty:=zn zpG fun x=>((zmC x.1).1,znS (zmC x.1).2)
theorem zi4:Sound Tryz.prog base 139 zhf:=
 zy (cx':=zwg) zH zo zD (zB ⟨zje,zhN,trivial⟩) Tryz.call139 Tryz.func139 (c:=body Tryz.f139) (by kernel_rfl) (zi (l:=[]) (by kernel_rfl) trivial) (sg:=⟨[.pure],[]⟩) (A:=zpG) (res:=znS) (W:=fun x=>zpE x.1) (z:=default)
abbrev ttTslicesIndexFuncapiAnnotationapiTermwi0:=List Term×Unit×Int×Int×Unit
def zkj (s:List Term) (t7:Int) (t8:Int):Wy ttTslicesIndexFuncapiAnnotationapiTermwi0 (Unit) (Int⊕Unit):=.i (decide (t8<t7)) (.i (decide (0≤t8)&&decide (t8<Int.ofNat s.length)) (.bn (zmC (s.getD t8.toNat default)) fun r0=>.i (r0) (.k (.inl t8)) (.h (s,(),t7,(IntKind.i64.wrap (t8+1)),()) ())) .d) (.k (.inr ()))
def zc4 (x:ttTslicesIndexFuncapiAnnotationapiTermwi0) (y:Unit):Wy ttTslicesIndexFuncapiAnnotationapiTermwi0 (Unit) (Int⊕Unit):=zkj x.1 x.2.2.1 x.2.2.2.1
def zke (n:Nat) (s:List Term) (t7:Int) (t8:Int):Bool×(Int⊕Unit):=zO (zc4) (.inl default) n (s,(),t7,t8,()) ()
def zfL (r:Int⊕Unit):LTree ty:=.ite (isL r) (.done .ret [.lit (.int .i64 (getL r))] []) (.done (.exit 0) [] [])
def zga:LL ty ttTslicesIndexFuncapiAnnotationapiTermwi0:=za (lSl 152) (za (lFn 139 (zF)) (za (lInt .i64) (za (lInt .i64) zF)))
def zfZ:BL ty (Unit):=bNil
def zfF (x:ttTslicesIndexFuncapiAnnotationapiTermwi0) (y:Unit):Nat:=(x.1.length+Int.toNat x.2.2.1+Int.toNat x.2.2.2.1+1000)
def zf1:Cx ty:=mkCx base 19 [(139,zhf)] [] [(2,[(0,.keep),(1,.keep),(7,.keep),(8,.keep)])] [(2,1,[]),(2,0,[(4,.keep)])] [(2,spW zga zfZ (zc4) (.inl default) zfL zfF)] []
theorem zj8:zX zf1 (lp (body Tryz.f195) 0):=zN (id:=2) (V:=zga) (B:=zfZ) (W:=zc4) (z:=.inl default) (tr:=zfL) (m:=zfF)
def zgu (s:List Term):Wy0 (Int):=.bn (zke (s.length+(Int.ofNat s.length).toNat +Int.toNat 0+1000) s (Int.ofNat s.length) 0) fun r2=>.i (isL r2) (.k (getL r2)) (.k (-1:Int))
def zdt (s:List Term):Bool×Int:=(zgu s).fin default
def zfG (r:Int):ARes ty:=⟨[.pure (.lit (.int .i64 r))],[]⟩
def zgq:AL base (List Term×Unit×Unit):=zf (zg (vSl 152)) (zf (zg (vFn 139 vNil)) aNil)
def zfu:Ab.Spec ty:=zn zgq fun x=>((zdt x.1).1,zfG (zdt x.1).2)
theorem zjM:Sound Tryz.prog base 195 zfu:=
 zy (cx':=zf1) zH zo zD (zB ⟨zi4,trivial⟩) Tryz.call195 Tryz.func195 (c:=body Tryz.f195) (by kernel_rfl) (zi (l:=[lp (body Tryz.f195) 0]) (by kernel_rfl) ⟨zj8,trivial⟩) (sg:=⟨[.pure],[]⟩) (A:=zgq) (res:=zfG) (W:=fun x=>zgu x.1) (z:=default)
def zjP:Cx ty:=mkCx base 9 [(139,zhf),(195,zfu)] [] [] [] [] []
def zft (s:List Term):Wy0 (Bool):=.bn (zdt s) fun r0=>.k (decide (r0≥0))
def zc8 (s:List Term):Bool×Bool:=(zft s).fin default
def ze0 (r:Bool):ARes ty:=⟨[.pure (.lit (.bool r))],[]⟩
def zfp:AL base (List Term×Unit×Unit):=zf (zg (vSl 152)) (zf (zg (vFn 139 vNil)) aNil)
def zeO:Ab.Spec ty:=zn zfp fun x=>((zc8 x.1).1,ze0 (zc8 x.1).2)
theorem ziR:Sound Tryz.prog base 138 zeO:=
 zy (cx':=zjP) zH zo zD (zB ⟨zi4,zjM,trivial⟩) Tryz.call138 Tryz.func138 (c:=body Tryz.f138) (by kernel_rfl) (zi (l:=[]) (by kernel_rfl) trivial) (sg:=⟨[.pure],[]⟩) (A:=zfp) (res:=ze0) (W:=fun x=>zft x.1) (z:=default)
def zyw:Cx ty:=mkCx base 19 [(136,annotation_nesting_spec),(137,annotation_Size_spec),(138,zeO),(139,zhf)] [] [] [] [] []
def zsp (a:List Term):Wy0 (Bool):=.i (decide (Int.ofNat a.length>512)) (.k false) (.bn (ztB a) fun r2=>.i (decide (r2>8)) (.k false) (.bn (zwm a) fun r1=>.i (decide (r1>4096)) (.k false) (.bn (zc8 a) fun r0=>.k (!r0))))
def zo4 (a:List Term):Bool×Bool:=(zsp a).fin default
def zqj (r:Bool):ARes ty:=⟨[.pure (.lit (.bool r))],[]⟩
def zsi:AL base (List Term×Unit):=zf (zg (vSl 152)) aNil
def zps:Ab.Spec ty:=zn zsi fun x=>((zo4 x.1).1,zqj (zo4 x.1).2)
theorem zv5:Sound Tryz.prog base 107 zps:=
 zy (cx':=zyw) zH zo zD (zB ⟨zve,zxO,ziR,zi4,trivial⟩) Tryz.call107 Tryz.func107 (c:=body Tryz.f107) (by kernel_rfl) (zi (l:=[]) (by kernel_rfl) trivial) (sg:=⟨[.pure],[]⟩) (A:=zsi) (res:=zqj) (W:=fun x=>zsp x.1) (z:=default)
end Go.Proofs.YtddkaehkimnklaaGreatDoor
end
