/- Texts of this claim, joined (the program, its functions in plain words, and what they compute). -/
import Derived.Test.YtddkaehkimnklaaGreatDoorGC1
import Derived.Test.YtddkaehkimnklaaGreatDoorGA3
set_option autoImplicit false
set_option linter.unusedVariables false
set_option linter.unusedSectionVars false
set_option linter.unusedSimpArgs false
set_option maxRecDepth 1000000
set_option maxHeartbeats 0
noncomputable section
namespace Go.Proofs.YtddkaehkimnklaaGreatDoor
open Go Go.Ab
abbrev ttTstatisticsFormat0:=Unit×Unit×Unit×ByteArray×Unit×List ColumnStats×Int×Int×List Value×Int×Int×Unit
abbrev ttTstatisticsFormat1:=Stats×List ByteArray×ColumnStats×List ByteArray×Unit
abbrev ttTstatisticsFormat2:=ByteArray×List ColumnStats×Int×Int×Stats×List ByteArray×ColumnStats×List ByteArray
abbrev ttTstatisticsFormat3:=Unit×Unit×List ColumnStats×Int×Int×Unit
abbrev ttTstatisticsFormat4:=Stats×List ByteArray×Unit
def zxC (line:ByteArray) (t25:List ColumnStats) (t26:Int) (t27:Int) (t45:List Value) (t46:Int) (t47:Int) (s:Stats) (out_:List ByteArray) (c:ColumnStats) (l:List ByteArray):Wy ttTstatisticsFormat0 ttTstatisticsFormat1 ttTstatisticsFormat2:=.i (decide (t47<t46)) (.i (decide (0≤t47)&&decide (t47<Int.ofNat t45.length)) (.bn (znf (t45.getD t47.toNat default)) fun r0=>.i (decide ((l.length+[r0].length)*16≤zdn)) (.h ((),(),(),line,(),t25,t26,t27,t45,t46,(IntKind.i64.wrap (t47+1)),()) (s,out_,c,(l++[r0]),())) .d) .d) (.k (line,t25,t26,t27,s,out_,c,l))
def zkU (x:ttTstatisticsFormat0) (y:ttTstatisticsFormat1):Wy ttTstatisticsFormat0 ttTstatisticsFormat1 ttTstatisticsFormat2:=zxC x.2.2.2.1 x.2.2.2.2.2.1 x.2.2.2.2.2.2.1 x.2.2.2.2.2.2.2.1 x.2.2.2.2.2.2.2.2.1 x.2.2.2.2.2.2.2.2.2.1 x.2.2.2.2.2.2.2.2.2.2.1 y.1 y.2.1 y.2.2.1 y.2.2.2.1
def zxx (n:Nat) (line:ByteArray) (t25:List ColumnStats) (t26:Int) (t27:Int) (t45:List Value) (t46:Int) (t47:Int) (s:Stats) (out_:List ByteArray) (c:ColumnStats) (l:List ByteArray):Bool×ttTstatisticsFormat2:=zY (zkU) default n ((),(),(),line,(),t25,t26,t27,t45,t46,t47,()) (s,out_,c,l,())
def zpb (r:ttTstatisticsFormat2):LTree ty:=.done (.exit 2) [.ptr 312 0,.own 313,.ptr 314 0,.lit (.string r.1),.own 315,.sl 43 r.2.1,.lit (.int .i64 r.2.2.1),.lit (.int .i64 r.2.2.2.1)] [.box (base.enc 30 r.2.2.2.2.1) false,.arr 9 r.2.2.2.2.2.1 false,.box (base.enc 43 r.2.2.2.2.2.2.1) false,.arr 9 r.2.2.2.2.2.2.2 false]
def zpA:LL ty ttTstatisticsFormat0:=za (zc8 312 0) (za (lOwn 313) (za (zc8 314 0) (za lStr (za (lOwn 315) (za (lSl 43) (za (lInt .i64) (za (lInt .i64) (za (lSl 40) (za (lInt .i64) (za (lInt .i64) zG))))))))))
def zql:BL ty ttTstatisticsFormat1:=bBox (zgF (fun x=>(⟨x.1,x.2.1,x.2.2.1⟩:Stats)) (fun x=>(x.Table,x.Rows,x.Columns,())) (fun _=>rfl) (za (lInt .i64) (za (lInt .i64) (za (lSl 43) zG)))) false (bArr 9 false (bBox (zgF (fun x=>(⟨x.1,⟨x.2.1,x.2.2.1,x.2.2.2.1⟩,⟨x.2.2.2.2.1,x.2.2.2.2.2.1,x.2.2.2.2.2.2.1⟩,x.2.2.2.2.2.2.2.1⟩:ColumnStats)) (fun x=>(x.Distinct,x.Min.Kind,x.Min.Int,x.Min.Text,x.Max.Kind,x.Max.Int,x.Max.Text,x.Bounds,())) (fun _=>rfl) (za (lInt .i64) (za (lInt .i64) (za (lInt .i64) (za lStr (za (lInt .i64) (za (lInt .i64) (za lStr (za (lSl 40) zG))))))))) false (bArr 9 false (bNil))))
def zxS (t25:List ColumnStats) (t26:Int) (t27:Int) (s:Stats) (out_:List ByteArray):Wy ttTstatisticsFormat3 ttTstatisticsFormat4 (List ByteArray):=.i (decide (t27<t26)) (.i (decide (0≤t27)&&decide (t27<Int.ofNat t25.length)) (.bn (strconv_Itoa t27) fun r7=>.i (decide ((ByteArray.mk #[(99:UInt8),(111:UInt8),(108:UInt8),(117:UInt8),(109:UInt8),(110:UInt8),(32:UInt8)]).size+r7.size≤9223372036854775807)) (.i (decide ((ByteArray.mk #[(99:UInt8),(111:UInt8),(108:UInt8),(117:UInt8),(109:UInt8),(110:UInt8),(32:UInt8)]++r7).size+(ByteArray.mk #[(58:UInt8),(32:UInt8)]).size≤9223372036854775807)) (.bn (strconv_Itoa (t25.getD t27.toNat default).Distinct) fun r6=>.i (decide ((ByteArray.mk #[(99:UInt8),(111:UInt8),(108:UInt8),(117:UInt8),(109:UInt8),(110:UInt8),(32:UInt8)]++r7++ByteArray.mk #[(58:UInt8),(32:UInt8)]).size+r6.size≤9223372036854775807)) (.i (decide ((ByteArray.mk #[(99:UInt8),(111:UInt8),(108:UInt8),(117:UInt8),(109:UInt8),(110:UInt8),(32:UInt8)]++r7++ByteArray.mk #[(58:UInt8),(32:UInt8)]++r6).size+(ByteArray.mk #[(32:UInt8),(100:UInt8),(105:UInt8),(115:UInt8),(116:UInt8),(105:UInt8),(110:UInt8),(99:UInt8),(116:UInt8)]).size≤9223372036854775807)) (.i (decide (s.Rows>0)) (.bn (zxx ((ByteArray.mk #[(99:UInt8),(111:UInt8),(108:UInt8),(117:UInt8),(109:UInt8),(110:UInt8),(32:UInt8)]++r7++ByteArray.mk #[(58:UInt8),(32:UInt8)]++r6++ByteArray.mk #[(32:UInt8),(100:UInt8),(105:UInt8),(115:UInt8),(116:UInt8),(105:UInt8),(110:UInt8),(99:UInt8),(116:UInt8)]).size+t25.length+t26.toNat +t27.toNat +(t25.getD t27.toNat default).Bounds.length+(Int.ofNat (t25.getD t27.toNat default).Bounds.length).toNat +Int.toNat 0+s.Columns.length+out_.length+(t25.getD t27.toNat default).Bounds.length+0+1000) (ByteArray.mk #[(99:UInt8),(111:UInt8),(108:UInt8),(117:UInt8),(109:UInt8),(110:UInt8),(32:UInt8)]++r7++ByteArray.mk #[(58:UInt8),(32:UInt8)]++r6++ByteArray.mk #[(32:UInt8),(100:UInt8),(105:UInt8),(115:UInt8),(116:UInt8),(105:UInt8),(110:UInt8),(99:UInt8),(116:UInt8)]) t25 t26 t27 (t25.getD t27.toNat default).Bounds (Int.ofNat (t25.getD t27.toNat default).Bounds.length) 0 s out_ (t25.getD t27.toNat default) []) fun r5=>.bn (znf r5.2.2.2.2.2.2.1.Min) fun r4=>.i (decide ((ByteArray.mk #[(44:UInt8),(32:UInt8)]).size+r4.size≤9223372036854775807)) (.i (decide ((ByteArray.mk #[(44:UInt8),(32:UInt8)]++r4).size+(ByteArray.mk #[(32:UInt8),(116:UInt8),(111:UInt8),(32:UInt8)]).size≤9223372036854775807)) (.bn (znf r5.2.2.2.2.2.2.1.Max) fun r3=>.i (decide ((ByteArray.mk #[(44:UInt8),(32:UInt8)]++r4++ByteArray.mk #[(32:UInt8),(116:UInt8),(111:UInt8),(32:UInt8)]).size+r3.size≤9223372036854775807)) (.i (decide ((ByteArray.mk #[(44:UInt8),(32:UInt8)]++r4++ByteArray.mk #[(32:UInt8),(116:UInt8),(111:UInt8),(32:UInt8)]++r3).size+(ByteArray.mk #[(44:UInt8),(32:UInt8),(98:UInt8),(111:UInt8),(117:UInt8),(110:UInt8),(100:UInt8),(97:UInt8),(114:UInt8),(105:UInt8),(101:UInt8),(115:UInt8),(32:UInt8)]).size≤9223372036854775807)) (.bn (strings_Join r5.2.2.2.2.2.2.2 (ByteArray.mk #[(44:UInt8),(32:UInt8)])) fun r2=>.i (decide ((ByteArray.mk #[(44:UInt8),(32:UInt8)]++r4++ByteArray.mk #[(32:UInt8),(116:UInt8),(111:UInt8),(32:UInt8)]++r3++ByteArray.mk #[(44:UInt8),(32:UInt8),(98:UInt8),(111:UInt8),(117:UInt8),(110:UInt8),(100:UInt8),(97:UInt8),(114:UInt8),(105:UInt8),(101:UInt8),(115:UInt8),(32:UInt8)]).size+r2.size≤9223372036854775807)) (.i (decide (r5.1.size+(ByteArray.mk #[(44:UInt8),(32:UInt8)]++r4++ByteArray.mk #[(32:UInt8),(116:UInt8),(111:UInt8),(32:UInt8)]++r3++ByteArray.mk #[(44:UInt8),(32:UInt8),(98:UInt8),(111:UInt8),(117:UInt8),(110:UInt8),(100:UInt8),(97:UInt8),(114:UInt8),(105:UInt8),(101:UInt8),(115:UInt8),(32:UInt8)]++r2).size≤9223372036854775807)) (.i (decide ((r5.2.2.2.2.2.1.length+[r5.1++(ByteArray.mk #[(44:UInt8),(32:UInt8)]++r4++ByteArray.mk #[(32:UInt8),(116:UInt8),(111:UInt8),(32:UInt8)]++r3++ByteArray.mk #[(44:UInt8),(32:UInt8),(98:UInt8),(111:UInt8),(117:UInt8),(110:UInt8),(100:UInt8),(97:UInt8),(114:UInt8),(105:UInt8),(101:UInt8),(115:UInt8),(32:UInt8)]++r2)].length)*16≤zdn)) (.h ((),(),(r5.2.1),(r5.2.2.1),(IntKind.i64.wrap (r5.2.2.2.1+1)),()) ((r5.2.2.2.2.1),(r5.2.2.2.2.2.1++[r5.1++(ByteArray.mk #[(44:UInt8),(32:UInt8)]++r4++ByteArray.mk #[(32:UInt8),(116:UInt8),(111:UInt8),(32:UInt8)]++r3++ByteArray.mk #[(44:UInt8),(32:UInt8),(98:UInt8),(111:UInt8),(117:UInt8),(110:UInt8),(100:UInt8),(97:UInt8),(114:UInt8),(105:UInt8),(101:UInt8),(115:UInt8),(32:UInt8)]++r2)]),())) .d) .d) .d) .d) .d) .d) .d) (.i (decide ((out_.length+[ByteArray.mk #[(99:UInt8),(111:UInt8),(108:UInt8),(117:UInt8),(109:UInt8),(110:UInt8),(32:UInt8)]++r7++ByteArray.mk #[(58:UInt8),(32:UInt8)]++r6++ByteArray.mk #[(32:UInt8),(100:UInt8),(105:UInt8),(115:UInt8),(116:UInt8),(105:UInt8),(110:UInt8),(99:UInt8),(116:UInt8)]].length)*16≤zdn)) (.h ((),(),t25,t26,(IntKind.i64.wrap (t27+1)),()) (s,(out_++[ByteArray.mk #[(99:UInt8),(111:UInt8),(108:UInt8),(117:UInt8),(109:UInt8),(110:UInt8),(32:UInt8)]++r7++ByteArray.mk #[(58:UInt8),(32:UInt8)]++r6++ByteArray.mk #[(32:UInt8),(100:UInt8),(105:UInt8),(115:UInt8),(116:UInt8),(105:UInt8),(110:UInt8),(99:UInt8),(116:UInt8)]]),())) .d)) .d) .d) .d) .d) .d) (.k out_)
def zlG (x:ttTstatisticsFormat3) (y:ttTstatisticsFormat4):Wy ttTstatisticsFormat3 ttTstatisticsFormat4 (List ByteArray):=zxS x.2.2.1 x.2.2.2.1 x.2.2.2.2.1 y.1 y.2.1
def zyx (n:Nat) (t25:List ColumnStats) (t26:Int) (t27:Int) (s:Stats) (out_:List ByteArray):Bool×List ByteArray:=zY (zlG) default n ((),(),t25,t26,t27,()) (s,out_,())
def zqh (r:List ByteArray):LTree ty:=.done (.exit 0) [.own 312] [.arr 9 r false]
def zre:LL ty ttTstatisticsFormat3:=za (zc8 312 0) (za (lOwn 313) (za (lSl 43) (za (lInt .i64) (za (lInt .i64) zG))))
def zqX:BL ty ttTstatisticsFormat4:=bBox (zgF (fun x=>(⟨x.1,x.2.1,x.2.2.1⟩:Stats)) (fun x=>(x.Table,x.Rows,x.Columns,())) (fun _=>rfl) (za (lInt .i64) (za (lInt .i64) (za (lSl 43) zG)))) false (bArr 9 false (bNil))
def zoz (x:ttTstatisticsFormat0) (y:ttTstatisticsFormat1):Nat:=(x.2.2.2.1.size+x.2.2.2.2.2.1.length+Int.toNat x.2.2.2.2.2.2.1+Int.toNat x.2.2.2.2.2.2.2.1+x.2.2.2.2.2.2.2.2.1.length+Int.toNat x.2.2.2.2.2.2.2.2.2.1+Int.toNat x.2.2.2.2.2.2.2.2.2.2.1+y.1.Columns.length+y.2.1.length+y.2.2.1.Bounds.length+y.2.2.2.1.length+1000)
def zp9 (x:ttTstatisticsFormat3) (y:ttTstatisticsFormat4):Nat:=(x.2.2.1.length+Int.toNat x.2.2.2.1+Int.toNat x.2.2.2.2.1+y.1.Columns.length+y.2.1.length+1000)
def zlF:Cx ty:=mkCx base0 78 [(15,zdC),(52,strconv_Itoa_spec),(53,ztF),(54,strings_Join_spec)] [] [(5,[(1,.keep),(3,.keep),(25,.keep),(26,.keep),(27,.keep)]),(11,[(1,.keep),(3,.keep),(5,.keep),(6,.keep),(7,.own 9),(25,.keep),(26,.keep),(27,.keep),(45,.keep),(46,.keep),(47,.keep)])] [(5,1,[(3,.keep)]),(11,3,[(1,.keep),(3,.keep),(5,.keep),(6,.keep),(7,.keep),(25,.keep),(26,.keep),(27,.keep)])] [(11,spW zpA zql (zkU) default zpb zoz),(5,spW zre zqX (zlG) default zqh zp9)] []
theorem zwI:zX zlF (lp (body Tryz.f24) 1):=zN (id:=11) (V:=zpA) (B:=zql) (W:=zkU) (z:=default) (tr:=zpb) (m:=zoz)
theorem zxl:zX zlF (lp (body Tryz.f24) 0):=zN (id:=5) (V:=zre) (B:=zqX) (W:=zlG) (z:=default) (tr:=zqh) (m:=zp9)
def zrJ (s:Stats):Wy0 (List ByteArray):=.bn (zd0 s) fun r17=>.i (!r17) (.k []) (.bn (strconv_Itoa s.Table) fun r16=>.i (decide ((ByteArray.mk #[(116:UInt8),(97:UInt8),(98:UInt8),(108:UInt8),(101:UInt8),(32:UInt8),(116:UInt8)]).size+r16.size≤9223372036854775807)) (.i (decide ((ByteArray.mk #[(116:UInt8),(97:UInt8),(98:UInt8),(108:UInt8),(101:UInt8),(32:UInt8),(116:UInt8)]++r16).size+(ByteArray.mk #[(58:UInt8),(32:UInt8)]).size≤9223372036854775807)) (.bn (strconv_Itoa s.Rows) fun r15=>.i (decide ((ByteArray.mk #[(116:UInt8),(97:UInt8),(98:UInt8),(108:UInt8),(101:UInt8),(32:UInt8),(116:UInt8)]++r16++ByteArray.mk #[(58:UInt8),(32:UInt8)]).size+r15.size≤9223372036854775807)) (.i (decide ((ByteArray.mk #[(116:UInt8),(97:UInt8),(98:UInt8),(108:UInt8),(101:UInt8),(32:UInt8),(116:UInt8)]++r16++ByteArray.mk #[(58:UInt8),(32:UInt8)]++r15).size+(ByteArray.mk #[(32:UInt8),(114:UInt8),(111:UInt8),(119:UInt8),(115:UInt8)]).size≤9223372036854775807)) (.bn (zyx (s.Columns.length+(Int.ofNat s.Columns.length).toNat +Int.toNat 0+s.Columns.length+[ByteArray.mk #[(116:UInt8),(97:UInt8),(98:UInt8),(108:UInt8),(101:UInt8),(32:UInt8),(116:UInt8)]++r16++ByteArray.mk #[(58:UInt8),(32:UInt8)]++r15++ByteArray.mk #[(32:UInt8),(114:UInt8),(111:UInt8),(119:UInt8),(115:UInt8)]].length+1000) s.Columns (Int.ofNat s.Columns.length) 0 s [ByteArray.mk #[(116:UInt8),(97:UInt8),(98:UInt8),(108:UInt8),(101:UInt8),(32:UInt8),(116:UInt8)]++r16++ByteArray.mk #[(58:UInt8),(32:UInt8)]++r15++ByteArray.mk #[(32:UInt8),(114:UInt8),(111:UInt8),(119:UInt8),(115:UInt8)]]) fun r14=>.k r14) .d) .d) .d) .d)
def ztQ (s:Stats):Bool×List ByteArray:=(zrJ s).fin default
def zqd (r:List ByteArray):ARes ty:=⟨[.own 9 r],[]⟩
def zrB:AL base0 (Stats×Unit):=zf (zg (vAgg 30)) aNil
def zoU:Ab.Spec ty:=zl zrB fun x=>((ztQ x.1).1,zqd (ztQ x.1).2)
theorem zvq:Sound Tryz.prog base0 24 zoU:=
 zt (cx':=zlF) zD zr2 zB (zu ⟨zei.nodr,zzQ.nodr,zz1,zzO,trivial⟩) Tryz.call24 Tryz.func24 (c:=body Tryz.f24) (by kernel_rfl) (zh (l:=[lp (body Tryz.f24) 0,lp (body Tryz.f24) 1]) (by kernel_rfl) ⟨zxl,zwI,trivial⟩) (sg:=⟨[.own 9],[]⟩) (A:=zrB) (res:=zqd) (W:=fun x=>zrJ x.1) (z:=default)
def zow (r:Int):ARes ty:=⟨[.pure (.lit (.int .i64 r))],[]⟩
def zq8:AL base (List Term×List Term×Unit):=zf (zg (vSl 152)) (zf (zg (vSl 152)) aNil)
def zcu (F:List Term→List Term→Bool×Int):Ab.Spec ty:=zl zq8 fun x=>((F x.1 x.2.1).1,zow (F x.1 x.2.1).2)
def zmy (r:Int):ARes ty:=⟨[.pure (.lit (.int .i64 r))],[]⟩
def znT:AL base (Term×Term×Unit):=zf (zg (vAgg 152)) (zf (zg (vAgg 152)) aNil)
def zdY (F:Term→Term→Bool×Int):Ab.Spec ty:=zl znT fun x=>((F x.1 x.2.1).1,zmy (F x.1 x.2.1).2)
def zlf (r:Int):ARes ty:=⟨[.pure (.lit (.int .i64 r))],[]⟩
def zmM:AL base (Term×Term×Unit):=zf (zg (vAgg 152)) (zf (zg (vAgg 152)) aNil)
def zeI (F:Term→Term→Bool×Int):Ab.Spec ty:=zl zmM fun x=>((F x.1 x.2.1).1,zlf (F x.1 x.2.1).2)
def zkn (r:Int):ARes ty:=⟨[.pure (.lit (.int .i64 r))],[]⟩
def zlc:AL base (Factor×Factor×Unit):=zf (zg (vAgg 160)) (zf (zg (vAgg 160)) aNil)
def zcM (F:Factor→Factor→Bool×Int):Ab.Spec ty:=zl zlc fun x=>((F x.1 x.2.1).1,zkn (F x.1 x.2.1).2)
def zlg (r:Int):ARes ty:=⟨[.pure (.lit (.int .i64 r))],[]⟩
def zmo:AL base (Atom×Atom×Unit):=zf (zg (vAgg 158)) (zf (zg (vAgg 158)) aNil)
def zeC (F:Atom→Atom→Bool×Int):Ab.Spec ty:=zl zmo fun x=>((F x.1 x.2.1).1,zlg (F x.1 x.2.1).2)
def zlo (r:Int):ARes ty:=⟨[.pure (.lit (.int .i64 r))],[]⟩
def zmG:AL base (Weighted×Weighted×Unit):=zf (zg (vAgg 182)) (zf (zg (vAgg 182)) aNil)
def zcv (F:Weighted→Weighted→Bool×Int):Ab.Spec ty:=zl zmG fun x=>((F x.1 x.2.1).1,zlo (F x.1 x.2.1).2)
def zcb (r:Int):ARes ty:=⟨[.pure (.lit (.int .i64 r))],[]⟩
def zcp:AL base (List Term×List Term×Unit×Unit):=zf (zg (vSl 152)) (zf (zg (vSl 152)) (zf (zg (vFn 198 vNil)) aNil))
def zU (F:List Term→List Term→Bool×Int):Ab.Spec ty:=zl zcp fun x=>((F x.1 x.2.1).1,zcb (F x.1 x.2.1).2)
def zcs (r:Int):ARes ty:=⟨[.pure (.lit (.int .i64 r))],[]⟩
def zcw:AL base (List Factor×List Factor×Unit×Unit):=zf (zg (vSl 160)) (zf (zg (vSl 160)) (zf (zg (vFn 143 vNil)) aNil))
def z8 (F:List Factor→List Factor→Bool×Int):Ab.Spec ty:=zl zcw fun x=>((F x.1 x.2.1).1,zcs (F x.1 x.2.1).2)
def zbB (r:Int):ARes ty:=⟨[.pure (.lit (.int .i64 r))],[]⟩
def zbH:AL base (List (List Term)×List (List Term)×Unit×Unit):=zf (zg (vSl 36)) (zf (zg (vSl 36)) (zf (zg (vFn 145 vNil)) aNil))
def zM (F:List (List Term)→List (List Term)→Bool×Int):Ab.Spec ty:=zl zbH fun x=>((F x.1 x.2.1).1,zbB (F x.1 x.2.1).2)
def zbR (r:Int):ARes ty:=⟨[.pure (.lit (.int .i64 r))],[]⟩
def zbY:AL base (List Weighted×List Weighted×Unit×Unit):=zf (zg (vSl 182)) (zf (zg (vSl 182)) (zf (zg (vFn 147 vNil)) aNil))
def zT (F:List Weighted→List Weighted→Bool×Int):Ab.Spec ty:=zl zbY fun x=>((F x.1 x.2.1).1,zbR (F x.1 x.2.1).2)
def zvm (zx:List Term→List Term→Bool×Int) (zy:Term→Term→Bool×Int):Cx ty:=mkCx base 8 [(197,(zU zx)),(198,(zdY zy))] [] [] [] [] []
def zoQ (zx:List Term→List Term→Bool×Int) (zy:Term→Term→Bool×Int) (a:List Term) (b:List Term):Wy0 (Int):=.bn (zx a b) fun r0=>.k r0
def zqT (zx:List Term→List Term→Bool×Int) (zy:Term→Term→Bool×Int) (a:List Term) (b:List Term):Bool×Int:=(zoQ zx zy a b).fin default
theorem zta (zx:List Term→List Term→Bool×Int) (zy:Term→Term→Bool×Int) (zfF:Sound Tryz.prog base 197 (zU zx)) (zi0:Sound Tryz.prog base 198 (zdY zy)):Sound Tryz.prog base 145 (zcu (zqT zx zy)):=
 zt (cx':=(zvm zx zy)) zD zo zB (zu ⟨zfF,zi0,trivial⟩) Tryz.call145 Tryz.func145 (c:=body Tryz.f145) (by kernel_rfl) (zh (l:=[]) (by kernel_rfl) trivial) (sg:=⟨[.pure],[]⟩) (A:=zq8) (res:=zow) (W:=fun x=>zoQ zx zy x.1 x.2.1) (z:=default)
def ztp (zbl:Term→Term→Bool×Int):Cx ty:=mkCx base 15 [(108,(zeI zbl)),(121,ziq),(123,zke)] [] [] [] [] []
def zmw (zbl:Term→Term→Bool×Int) (x_:Term) (y_:Term):Wy0 (Int):=.bn (zbl x_ y_) fun r2=>.bn (zhl x_.Coeff y_.Coeff) fun r1=>.bn (ziS [r2,r1]) fun r0=>.k r0
def zn8 (zbl:Term→Term→Bool×Int) (x_:Term) (y_:Term):Bool×Int:=(zmw zbl x_ y_).fin default
theorem zro (zbl:Term→Term→Bool×Int) (zsZ:Sound Tryz.prog base 108 (zeI zbl)):Sound Tryz.prog base 198 (zdY (zn8 zbl)):=
 zt (cx':=(ztp zbl)) zD zo zB (zu ⟨zsZ,zjy,zn2,trivial⟩) Tryz.call198 Tryz.func198 (c:=body Tryz.f198) (by kernel_rfl) (zh (l:=[]) (by kernel_rfl) trivial) (sg:=⟨[.pure],[]⟩) (A:=znT) (res:=zmy) (W:=fun x=>zmw zbl x.1 x.2.1) (z:=default)
def zr4 (zk:List (List Term)→List (List Term)→Bool×Int) (zn:List Term→List Term→Bool×Int) (zp:List Weighted→List Weighted→Bool×Int) (zr:Weighted→Weighted→Bool×Int):Cx ty:=mkCx base 51 [(79,zb5),(121,ziq),(122,ziY),(144,(zM zk)),(145,(zcu zn)),(146,(zT zp)),(147,(zcv zr))] [] [] [] [] []
def zk9 (zk:List (List Term)→List (List Term)→Bool×Int) (zn:List Term→List Term→Bool×Int) (zp:List Weighted→List Weighted→Bool×Int) (zr:Weighted→Weighted→Bool×Int) (a:Atom) (b:Atom):Wy0 (Int):=.bn (zc3 a.Kind b.Kind) fun r8=>.bn (zc3 a.Row.Table b.Row.Table) fun r7=>.bn (zc3 a.Row.Seq b.Row.Seq) fun r6=>.bn (zk a.Args b.Args) fun r5=>.bn (zc3 a.Func b.Func) fun r4=>.bn (zp a.Items b.Items) fun r3=>.bn (zc3 a.Op b.Op) fun r2=>.bn (zbF a.Bound b.Bound) fun r1=>.bn (ziS [r8,r7,r6,r5,r4,r3,r2,r1]) fun r0=>.k r0
def zmJ (zk:List (List Term)→List (List Term)→Bool×Int) (zn:List Term→List Term→Bool×Int) (zp:List Weighted→List Weighted→Bool×Int) (zr:Weighted→Weighted→Bool×Int) (a:Atom) (b:Atom):Bool×Int:=(zk9 zk zn zp zr a b).fin default
theorem zqo (zk:List (List Term)→List (List Term)→Bool×Int) (zn:List Term→List Term→Bool×Int) (zp:List Weighted→List Weighted→Bool×Int) (zr:Weighted→Weighted→Bool×Int) (zdt:Sound Tryz.prog base 144 (zM zk)) (zgz:Sound Tryz.prog base 145 (zcu zn)) (zeA:Sound Tryz.prog base 146 (zT zp)) (zid:Sound Tryz.prog base 147 (zcv zr)):Sound Tryz.prog base 110 (zeC (zmJ zk zn zp zr)):=
 zt (cx':=(zr4 zk zn zp zr)) zD zo zB (zu ⟨zcf,zjy,zkM,zdt,zgz,zeA,zid,trivial⟩) Tryz.call110 Tryz.func110 (c:=body Tryz.f110) (by kernel_rfl) (zh (l:=[]) (by kernel_rfl) trivial) (sg:=⟨[.pure],[]⟩) (A:=zmo) (res:=zlg) (W:=fun x=>zk9 zk zn zp zr x.1 x.2.1) (z:=default)
def zqR (zbm:Atom→Atom→Bool×Int):Cx ty:=mkCx base 17 [(110,(zeC zbm)),(121,ziq),(122,ziY)] [] [] [] [] []
def zks (zbm:Atom→Atom→Bool×Int) (a:Factor) (b:Factor):Wy0 (Int):=.bn (zbm (Atom.mk a.Atom.Kind a.Atom.Row a.Atom.Args a.Atom.Func a.Atom.Items a.Atom.Op a.Atom.Bound) (Atom.mk b.Atom.Kind b.Atom.Row b.Atom.Args b.Atom.Func b.Atom.Items b.Atom.Op b.Atom.Bound)) fun r2=>.bn (zc3 a.Exp b.Exp) fun r1=>.bn (ziS [r2,r1]) fun r0=>.k r0
def zly (zbm:Atom→Atom→Bool×Int) (a:Factor) (b:Factor):Bool×Int:=(zks zbm a b).fin default
theorem zpc (zbm:Atom→Atom→Bool×Int) (zsB:Sound Tryz.prog base 110 (zeC zbm)):Sound Tryz.prog base 143 (zcM (zly zbm)):=
 zt (cx':=(zqR zbm)) zD zo zB (zu ⟨zsB,zjy,zkM,trivial⟩) Tryz.call143 Tryz.func143 (c:=body Tryz.f143) (by kernel_rfl) (zh (l:=[]) (by kernel_rfl) trivial) (sg:=⟨[.pure],[]⟩) (A:=zlc) (res:=zkn) (W:=fun x=>zks zbm x.1 x.2.1) (z:=default)
def zr1 (zn:List Term→List Term→Bool×Int):Cx ty:=mkCx base 17 [(79,zb5),(121,ziq),(145,(zcu zn))] [] [] [] [] []
def zlh (zn:List Term→List Term→Bool×Int) (a:Weighted) (b:Weighted):Wy0 (Int):=.bn (zbF a.Value b.Value) fun r2=>.bn (zn a.Ann b.Ann) fun r1=>.bn (ziS [r2,r1]) fun r0=>.k r0
def zmW (zn:List Term→List Term→Bool×Int) (a:Weighted) (b:Weighted):Bool×Int:=(zlh zn a b).fin default
theorem zqt (zn:List Term→List Term→Bool×Int) (zgz:Sound Tryz.prog base 145 (zcu zn)):Sound Tryz.prog base 147 (zcv (zmW zn)):=
 zt (cx':=(zr1 zn)) zD zo zB (zu ⟨zcf,zjy,zgz,trivial⟩) Tryz.call147 Tryz.func147 (c:=body Tryz.f147) (by kernel_rfl) (zh (l:=[]) (by kernel_rfl) trivial) (sg:=⟨[.pure],[]⟩) (A:=zmG) (res:=zlo) (W:=fun x=>zlh zn x.1 x.2.1) (z:=default)
def zrV (zA:List Factor→List Factor→Bool×Int) (zm:Factor→Factor→Bool×Int):Cx ty:=mkCx base 10 [(142,(z8 zA)),(143,(zcM zm))] [] [] [] [] []
def zlb (zA:List Factor→List Factor→Bool×Int) (zm:Factor→Factor→Bool×Int) (a:Term) (b:Term):Wy0 (Int):=.bn (zA a.Factors b.Factors) fun r0=>.k r0
def zmK (zA:List Factor→List Factor→Bool×Int) (zm:Factor→Factor→Bool×Int) (a:Term) (b:Term):Bool×Int:=(zlb zA zm a b).fin default
theorem zqv (zA:List Factor→List Factor→Bool×Int) (zm:Factor→Factor→Bool×Int) (zf3:Sound Tryz.prog base 142 (z8 zA)) (zhA:Sound Tryz.prog base 143 (zcM zm)):Sound Tryz.prog base 108 (zeI (zmK zA zm)):=
 zt (cx':=(zrV zA zm)) zD zo zB (zu ⟨zf3,zhA,trivial⟩) Tryz.call108 Tryz.func108 (c:=body Tryz.f108) (by kernel_rfl) (zh (l:=[]) (by kernel_rfl) trivial) (sg:=⟨[.pure],[]⟩) (A:=zmM) (res:=zlf) (W:=fun x=>zlb zA zm x.1 x.2.1) (z:=default)
abbrev ttTslicesCompareFuncLapiAnnotationLapiAnnotationapiAnnotationapiAnnotation0:=List (List Term)×List (List Term)×Unit×List (List Term)×Int×Int×Unit
abbrev ttTslicesCompareFuncLapiAnnotationLapiAnnotationapiAnnotationapiAnnotation1:=Int⊕(List (List Term)×List (List Term))
def zdp (zn:List Term→List Term→Bool×Int) (s1:List (List Term)) (s2:List (List Term)) (t11:List (List Term)) (t12:Int) (t13:Int):Wy ttTslicesCompareFuncLapiAnnotationLapiAnnotationapiAnnotationapiAnnotation0 (Unit) ttTslicesCompareFuncLapiAnnotationLapiAnnotationapiAnnotationapiAnnotation1:=.i (decide (t13<t12)) (.i (decide (0≤t13)&&decide (t13<Int.ofNat t11.length)) (.i (decide (t13≥Int.ofNat s2.length)) (.k (.inl 1)) (.i (decide (0≤t13)&&decide (t13<Int.ofNat s2.length)) (.bn (zn (t11.getD t13.toNat default) (s2.getD t13.toNat default)) fun r0=>.i (r0 != 0) (.k (.inl (r0))) (.h (s1,s2,(),t11,t12,(IntKind.i64.wrap (t13+1)),()) ())) .d)) .d) (.k (.inr (s1,s2)))
def zW (zn:List Term→List Term→Bool×Int) (x:ttTslicesCompareFuncLapiAnnotationLapiAnnotationapiAnnotationapiAnnotation0) (y:Unit):Wy ttTslicesCompareFuncLapiAnnotationLapiAnnotationapiAnnotationapiAnnotation0 (Unit) ttTslicesCompareFuncLapiAnnotationLapiAnnotationapiAnnotationapiAnnotation1:=zdp zn x.1 x.2.1 x.2.2.2.1 x.2.2.2.2.1 x.2.2.2.2.2.1
def zdo (zn:List Term→List Term→Bool×Int) (n:Nat) (s1:List (List Term)) (s2:List (List Term)) (t11:List (List Term)) (t12:Int) (t13:Int):Bool×ttTslicesCompareFuncLapiAnnotationLapiAnnotationapiAnnotationapiAnnotation1:=zY (zW zn) (.inl default) n (s1,s2,(),t11,t12,t13,()) ()
def zbu (r:ttTslicesCompareFuncLapiAnnotationLapiAnnotationapiAnnotationapiAnnotation1):LTree ty:=.ite (isL r) (.done .ret [.lit (.int .i64 (getL r))] []) (.done (.exit 0) [.sl 36 (getR r).1,.sl 36 (getR r).2] [])
def zbz:LL ty ttTslicesCompareFuncLapiAnnotationLapiAnnotationapiAnnotationapiAnnotation0:=za (lSl 36) (za (lSl 36) (za (lFn 145 (zG)) (za (lSl 36) (za (lInt .i64) (za (lInt .i64) zG)))))
def zbA:BL ty (Unit):=bNil
def zbv (x:ttTslicesCompareFuncLapiAnnotationLapiAnnotationapiAnnotationapiAnnotation0) (y:Unit):Nat:=(x.1.length+x.2.1.length+x.2.2.2.1.length+Int.toNat x.2.2.2.2.1+Int.toNat x.2.2.2.2.2.1+1000)
def zbx (zn:List Term→List Term→Bool×Int):Cx ty:=mkCx base 39 [(145,(zcu zn))] [] [(2,[(0,.keep),(1,.keep),(2,.keep),(11,.keep),(12,.keep),(13,.keep)])] [(2,1,[(0,.keep),(1,.keep)]),(2,0,[(6,.keep)])] [(2,spW zbz zbA (zW zn) (.inl default) zbu zbv)] []
theorem zdb (zn:List Term→List Term→Bool×Int):zX (zbx zn) (lp (body Tryz.f144) 0):=zN (id:=2) (V:=zbz) (B:=zbA) (W:=zW zn) (z:=.inl default) (tr:=zbu) (m:=zbv)
def zbC (zn:List Term→List Term→Bool×Int) (s1:List (List Term)) (s2:List (List Term)):Wy0 (Int):=.bn (zdo zn (s1.length+s2.length+s1.length+(Int.ofNat s1.length).toNat +Int.toNat 0+1000) s1 s2 s1 (Int.ofNat s1.length) 0) fun r2=>.i (isL r2) (.k (getL r2)) (.i (decide (Int.ofNat (getR r2).1.length<Int.ofNat (getR r2).2.length)) (.k (-1:Int)) (.k 0))
def zbG (zn:List Term→List Term→Bool×Int) (s1:List (List Term)) (s2:List (List Term)):Bool×Int:=(zbC zn s1 s2).fin default
theorem zc6 (zn:List Term→List Term→Bool×Int) (zgz:Sound Tryz.prog base 145 (zcu zn)):Sound Tryz.prog base 144 (zM (zbG zn)):=
 zt (cx':=(zbx zn)) zD zo zB (zu ⟨zgz,trivial⟩) Tryz.call144 Tryz.func144 (c:=body Tryz.f144) (by kernel_rfl) (zh (l:=[lp (body Tryz.f144) 0]) (by kernel_rfl) ⟨zdb zn,trivial⟩) (sg:=⟨[.pure],[]⟩) (A:=zbH) (res:=zbB) (W:=fun x=>zbC zn x.1 x.2.1) (z:=default)
abbrev ttTslicesCompareFuncLapiFactorLapiFactorapiFactorapiFactor0:=List Factor×List Factor×Unit×List Factor×Int×Int×Unit
abbrev ttTslicesCompareFuncLapiFactorLapiFactorapiFactorapiFactor1:=Int⊕(List Factor×List Factor)
def zfV (zm:Factor→Factor→Bool×Int) (s1:List Factor) (s2:List Factor) (t11:List Factor) (t12:Int) (t13:Int):Wy ttTslicesCompareFuncLapiFactorLapiFactorapiFactorapiFactor0 (Unit) ttTslicesCompareFuncLapiFactorLapiFactorapiFactorapiFactor1:=.i (decide (t13<t12)) (.i (decide (0≤t13)&&decide (t13<Int.ofNat t11.length)) (.i (decide (t13≥Int.ofNat s2.length)) (.k (.inl 1)) (.i (decide (0≤t13)&&decide (t13<Int.ofNat s2.length)) (.bn (zm (FactorOf.mk (Atom.mk (t11.getD t13.toNat default).Atom.Kind (t11.getD t13.toNat default).Atom.Row (t11.getD t13.toNat default).Atom.Args (t11.getD t13.toNat default).Atom.Func (t11.getD t13.toNat default).Atom.Items (t11.getD t13.toNat default).Atom.Op (t11.getD t13.toNat default).Atom.Bound) (t11.getD t13.toNat default).Exp) (FactorOf.mk (Atom.mk (s2.getD t13.toNat default).Atom.Kind (s2.getD t13.toNat default).Atom.Row (s2.getD t13.toNat default).Atom.Args (s2.getD t13.toNat default).Atom.Func (s2.getD t13.toNat default).Atom.Items (s2.getD t13.toNat default).Atom.Op (s2.getD t13.toNat default).Atom.Bound) (s2.getD t13.toNat default).Exp)) fun r0=>.i (r0 != 0) (.k (.inl (r0))) (.h (s1,s2,(),t11,t12,(IntKind.i64.wrap (t13+1)),()) ())) .d)) .d) (.k (.inr (s1,s2)))
def zbk (zm:Factor→Factor→Bool×Int) (x:ttTslicesCompareFuncLapiFactorLapiFactorapiFactorapiFactor0) (y:Unit):Wy ttTslicesCompareFuncLapiFactorLapiFactorapiFactorapiFactor0 (Unit) ttTslicesCompareFuncLapiFactorLapiFactorapiFactorapiFactor1:=zfV zm x.1 x.2.1 x.2.2.2.1 x.2.2.2.2.1 x.2.2.2.2.2.1
def zfU (zm:Factor→Factor→Bool×Int) (n:Nat) (s1:List Factor) (s2:List Factor) (t11:List Factor) (t12:Int) (t13:Int):Bool×ttTslicesCompareFuncLapiFactorLapiFactorapiFactorapiFactor1:=zY (zbk zm) (.inl default) n (s1,s2,(),t11,t12,t13,()) ()
def zcc (r:ttTslicesCompareFuncLapiFactorLapiFactorapiFactorapiFactor1):LTree ty:=.ite (isL r) (.done .ret [.lit (.int .i64 (getL r))] []) (.done (.exit 0) [.sl 160 (getR r).1,.sl 160 (getR r).2] [])
def zcg:LL ty ttTslicesCompareFuncLapiFactorLapiFactorapiFactorapiFactor0:=za (lSl 160) (za (lSl 160) (za (lFn 143 (zG)) (za (lSl 160) (za (lInt .i64) (za (lInt .i64) zG)))))
def zci:BL ty (Unit):=bNil
def zce (x:ttTslicesCompareFuncLapiFactorLapiFactorapiFactorapiFactor0) (y:Unit):Nat:=(x.1.length+x.2.1.length+x.2.2.2.1.length+Int.toNat x.2.2.2.2.1+Int.toNat x.2.2.2.2.2.1+1000)
def zcl (zm:Factor→Factor→Bool×Int):Cx ty:=mkCx base 39 [(143,(zcM zm))] [] [(2,[(0,.keep),(1,.keep),(2,.keep),(11,.keep),(12,.keep),(13,.keep)])] [(2,1,[(0,.keep),(1,.keep)]),(2,0,[(6,.keep)])] [(2,spW zcg zci (zbk zm) (.inl default) zcc zce)] []
theorem zfE (zm:Factor→Factor→Bool×Int):zX (zcl zm) (lp (body Tryz.f142) 0):=zN (id:=2) (V:=zcg) (B:=zci) (W:=zbk zm) (z:=.inl default) (tr:=zcc) (m:=zce)
def zco (zm:Factor→Factor→Bool×Int) (s1:List Factor) (s2:List Factor):Wy0 (Int):=.bn (zfU zm (s1.length+s2.length+s1.length+(Int.ofNat s1.length).toNat +Int.toNat 0+1000) s1 s2 s1 (Int.ofNat s1.length) 0) fun r2=>.i (isL r2) (.k (getL r2)) (.i (decide (Int.ofNat (getR r2).1.length<Int.ofNat (getR r2).2.length)) (.k (-1:Int)) (.k 0))
def zcy (zm:Factor→Factor→Bool×Int) (s1:List Factor) (s2:List Factor):Bool×Int:=(zco zm s1 s2).fin default
theorem ze9 (zm:Factor→Factor→Bool×Int) (zhA:Sound Tryz.prog base 143 (zcM zm)):Sound Tryz.prog base 142 (z8 (zcy zm)):=
 zt (cx':=(zcl zm)) zD zo zB (zu ⟨zhA,trivial⟩) Tryz.call142 Tryz.func142 (c:=body Tryz.f142) (by kernel_rfl) (zh (l:=[lp (body Tryz.f142) 0]) (by kernel_rfl) ⟨zfE zm,trivial⟩) (sg:=⟨[.pure],[]⟩) (A:=zcw) (res:=zcs) (W:=fun x=>zco zm x.1 x.2.1) (z:=default)
abbrev ttTslicesCompareFuncLapiWeightedLapiWeightedapiWeightedapiWeighted0:=List Weighted×List Weighted×Unit×List Weighted×Int×Int×Unit
abbrev ttTslicesCompareFuncLapiWeightedLapiWeightedapiWeightedapiWeighted1:=Int⊕(List Weighted×List Weighted)
def zek (zr:Weighted→Weighted→Bool×Int) (s1:List Weighted) (s2:List Weighted) (t11:List Weighted) (t12:Int) (t13:Int):Wy ttTslicesCompareFuncLapiWeightedLapiWeightedapiWeightedapiWeighted0 (Unit) ttTslicesCompareFuncLapiWeightedLapiWeightedapiWeightedapiWeighted1:=.i (decide (t13<t12)) (.i (decide (0≤t13)&&decide (t13<Int.ofNat t11.length)) (.i (decide (t13≥Int.ofNat s2.length)) (.k (.inl 1)) (.i (decide (0≤t13)&&decide (t13<Int.ofNat s2.length)) (.bn (zr (t11.getD t13.toNat default) (s2.getD t13.toNat default)) fun r0=>.i (r0 != 0) (.k (.inl (r0))) (.h (s1,s2,(),t11,t12,(IntKind.i64.wrap (t13+1)),()) ())) .d)) .d) (.k (.inr (s1,s2)))
def zba (zr:Weighted→Weighted→Bool×Int) (x:ttTslicesCompareFuncLapiWeightedLapiWeightedapiWeightedapiWeighted0) (y:Unit):Wy ttTslicesCompareFuncLapiWeightedLapiWeightedapiWeightedapiWeighted0 (Unit) ttTslicesCompareFuncLapiWeightedLapiWeightedapiWeightedapiWeighted1:=zek zr x.1 x.2.1 x.2.2.2.1 x.2.2.2.2.1 x.2.2.2.2.2.1
def zej (zr:Weighted→Weighted→Bool×Int) (n:Nat) (s1:List Weighted) (s2:List Weighted) (t11:List Weighted) (t12:Int) (t13:Int):Bool×ttTslicesCompareFuncLapiWeightedLapiWeightedapiWeightedapiWeighted1:=zY (zba zr) (.inl default) n (s1,s2,(),t11,t12,t13,()) ()
def zbL (r:ttTslicesCompareFuncLapiWeightedLapiWeightedapiWeightedapiWeighted1):LTree ty:=.ite (isL r) (.done .ret [.lit (.int .i64 (getL r))] []) (.done (.exit 0) [.sl 182 (getR r).1,.sl 182 (getR r).2] [])
def zbP:LL ty ttTslicesCompareFuncLapiWeightedLapiWeightedapiWeightedapiWeighted0:=za (lSl 182) (za (lSl 182) (za (lFn 147 (zG)) (za (lSl 182) (za (lInt .i64) (za (lInt .i64) zG)))))
def zbO:BL ty (Unit):=bNil
def zbM (x:ttTslicesCompareFuncLapiWeightedLapiWeightedapiWeightedapiWeighted0) (y:Unit):Nat:=(x.1.length+x.2.1.length+x.2.2.2.1.length+Int.toNat x.2.2.2.2.1+Int.toNat x.2.2.2.2.2.1+1000)
def zbN (zr:Weighted→Weighted→Bool×Int):Cx ty:=mkCx base 39 [(147,(zcv zr))] [] [(2,[(0,.keep),(1,.keep),(2,.keep),(11,.keep),(12,.keep),(13,.keep)])] [(2,1,[(0,.keep),(1,.keep)]),(2,0,[(6,.keep)])] [(2,spW zbP zbO (zba zr) (.inl default) zbL zbM)] []
theorem zd8 (zr:Weighted→Weighted→Bool×Int):zX (zbN zr) (lp (body Tryz.f146) 0):=zN (id:=2) (V:=zbP) (B:=zbO) (W:=zba zr) (z:=.inl default) (tr:=zbL) (m:=zbM)
def zbQ (zr:Weighted→Weighted→Bool×Int) (s1:List Weighted) (s2:List Weighted):Wy0 (Int):=.bn (zej zr (s1.length+s2.length+s1.length+(Int.ofNat s1.length).toNat +Int.toNat 0+1000) s1 s2 s1 (Int.ofNat s1.length) 0) fun r2=>.i (isL r2) (.k (getL r2)) (.i (decide (Int.ofNat (getR r2).1.length<Int.ofNat (getR r2).2.length)) (.k (-1:Int)) (.k 0))
def zbZ (zr:Weighted→Weighted→Bool×Int) (s1:List Weighted) (s2:List Weighted):Bool×Int:=(zbQ zr s1 s2).fin default
theorem zd1 (zr:Weighted→Weighted→Bool×Int) (zid:Sound Tryz.prog base 147 (zcv zr)):Sound Tryz.prog base 146 (zT (zbZ zr)):=
 zt (cx':=(zbN zr)) zD zo zB (zu ⟨zid,trivial⟩) Tryz.call146 Tryz.func146 (c:=body Tryz.f146) (by kernel_rfl) (zh (l:=[lp (body Tryz.f146) 0]) (by kernel_rfl) ⟨zd8 zr,trivial⟩) (sg:=⟨[.pure],[]⟩) (A:=zbY) (res:=zbR) (W:=fun x=>zbQ zr x.1 x.2.1) (z:=default)
abbrev ttTslicesCompareFuncapiAnnotationapiAnnotationapiTermapiTerm0:=List Term×List Term×Unit×List Term×Int×Int×Unit
abbrev ttTslicesCompareFuncapiAnnotationapiAnnotationapiTermapiTerm1:=Int⊕(List Term×List Term)
def zfq (zy:Term→Term→Bool×Int) (s1:List Term) (s2:List Term) (t11:List Term) (t12:Int) (t13:Int):Wy ttTslicesCompareFuncapiAnnotationapiAnnotationapiTermapiTerm0 (Unit) ttTslicesCompareFuncapiAnnotationapiAnnotationapiTermapiTerm1:=.i (decide (t13<t12)) (.i (decide (0≤t13)&&decide (t13<Int.ofNat t11.length)) (.i (decide (t13≥Int.ofNat s2.length)) (.k (.inl 1)) (.i (decide (0≤t13)&&decide (t13<Int.ofNat s2.length)) (.bn (zy (t11.getD t13.toNat default) (s2.getD t13.toNat default)) fun r0=>.i (r0 != 0) (.k (.inl (r0))) (.h (s1,s2,(),t11,t12,(IntKind.i64.wrap (t13+1)),()) ())) .d)) .d) (.k (.inr (s1,s2)))
def zbg (zy:Term→Term→Bool×Int) (x:ttTslicesCompareFuncapiAnnotationapiAnnotationapiTermapiTerm0) (y:Unit):Wy ttTslicesCompareFuncapiAnnotationapiAnnotationapiTermapiTerm0 (Unit) ttTslicesCompareFuncapiAnnotationapiAnnotationapiTermapiTerm1:=zfq zy x.1 x.2.1 x.2.2.2.1 x.2.2.2.2.1 x.2.2.2.2.2.1
def zfp (zy:Term→Term→Bool×Int) (n:Nat) (s1:List Term) (s2:List Term) (t11:List Term) (t12:Int) (t13:Int):Bool×ttTslicesCompareFuncapiAnnotationapiAnnotationapiTermapiTerm1:=zY (zbg zy) (.inl default) n (s1,s2,(),t11,t12,t13,()) ()
def zb6 (r:ttTslicesCompareFuncapiAnnotationapiAnnotationapiTermapiTerm1):LTree ty:=.ite (isL r) (.done .ret [.lit (.int .i64 (getL r))] []) (.done (.exit 0) [.sl 152 (getR r).1,.sl 152 (getR r).2] [])
def zb9:LL ty ttTslicesCompareFuncapiAnnotationapiAnnotationapiTermapiTerm0:=za (lSl 152) (za (lSl 152) (za (lFn 198 (zG)) (za (lSl 152) (za (lInt .i64) (za (lInt .i64) zG)))))
def zb7:BL ty (Unit):=bNil
def zb4 (x:ttTslicesCompareFuncapiAnnotationapiAnnotationapiTermapiTerm0) (y:Unit):Nat:=(x.1.length+x.2.1.length+x.2.2.2.1.length+Int.toNat x.2.2.2.2.1+Int.toNat x.2.2.2.2.2.1+1000)
def zb8 (zy:Term→Term→Bool×Int):Cx ty:=mkCx base 39 [(198,(zdY zy))] [] [(2,[(0,.keep),(1,.keep),(2,.keep),(11,.keep),(12,.keep),(13,.keep)])] [(2,1,[(0,.keep),(1,.keep)]),(2,0,[(6,.keep)])] [(2,spW zb9 zb7 (zbg zy) (.inl default) zb6 zb4)] []
theorem zff (zy:Term→Term→Bool×Int):zX (zb8 zy) (lp (body Tryz.f197) 0):=zN (id:=2) (V:=zb9) (B:=zb7) (W:=zbg zy) (z:=.inl default) (tr:=zb6) (m:=zb4)
def zca (zy:Term→Term→Bool×Int) (s1:List Term) (s2:List Term):Wy0 (Int):=.bn (zfp zy (s1.length+s2.length+s1.length+(Int.ofNat s1.length).toNat +Int.toNat 0+1000) s1 s2 s1 (Int.ofNat s1.length) 0) fun r2=>.i (isL r2) (.k (getL r2)) (.i (decide (Int.ofNat (getR r2).1.length<Int.ofNat (getR r2).2.length)) (.k (-1:Int)) (.k 0))
def zcq (zy:Term→Term→Bool×Int) (s1:List Term) (s2:List Term):Bool×Int:=(zca zy s1 s2).fin default
theorem zeU (zy:Term→Term→Bool×Int) (zi0:Sound Tryz.prog base 198 (zdY zy)):Sound Tryz.prog base 197 (zU (zcq zy)):=
 zt (cx':=(zb8 zy)) zD zo zB (zu ⟨zi0,trivial⟩) Tryz.call197 Tryz.func197 (c:=body Tryz.f197) (by kernel_rfl) (zh (l:=[lp (body Tryz.f197) 0]) (by kernel_rfl) ⟨zff zy,trivial⟩) (sg:=⟨[.pure],[]⟩) (A:=zcp) (res:=zcb) (W:=fun x=>zca zy x.1 x.2.1) (z:=default)
def zbf:Nat→(List Term→List Term→Bool×Int)×(Term→Term→Bool×Int)×(Term→Term→Bool×Int)×(Factor→Factor→Bool×Int)×(Atom→Atom→Bool×Int)×(Weighted→Weighted→Bool×Int)×(List Term→List Term→Bool×Int)×(List Factor→List Factor→Bool×Int)×(List (List Term)→List (List Term)→Bool×Int)×(List Weighted→List Weighted→Bool×Int)
 | 0=>(fun _ _=>(false,default),fun _ _=>(false,default),fun _ _=>(false,default),fun _ _=>(false,default),fun _ _=>(false,default),fun _ _=>(false,default),fun _ _=>(false,default),fun _ _=>(false,default),fun _ _=>(false,default),fun _ _=>(false,default))
 | n+1=>(zqT ((zbf n).2.2.2.2.2.2.1) ((zbf n).2.1),zn8 ((zbf n).2.2.1),zmK ((zbf n).2.2.2.2.2.2.2.1) ((zbf n).2.2.2.1),zly ((zbf n).2.2.2.2.1),zmJ ((zbf n).2.2.2.2.2.2.2.2.1) ((zbf n).1) ((zbf n).2.2.2.2.2.2.2.2.2) ((zbf n).2.2.2.2.2.1),zmW ((zbf n).1),zcq ((zbf n).2.1),zcy ((zbf n).2.2.2.1),zbG ((zbf n).1),zbZ ((zbf n).2.2.2.2.2.1))
def zrb (n:Nat):List Term→List Term→Bool×Int:=(zbf n).1
def zvl (n:Nat):Term→Term→Bool×Int:=(zbf n).2.1
def zmF (n:Nat):Term→Term→Bool×Int:=(zbf n).2.2.1
def zsr (n:Nat):Factor→Factor→Bool×Int:=(zbf n).2.2.2.1
def zmS (n:Nat):Atom→Atom→Bool×Int:=(zbf n).2.2.2.2.1
def zm0 (n:Nat):Weighted→Weighted→Bool×Int:=(zbf n).2.2.2.2.2.1
def zf2 (n:Nat):List Term→List Term→Bool×Int:=(zbf n).2.2.2.2.2.2.1
def zgw (n:Nat):List Factor→List Factor→Bool×Int:=(zbf n).2.2.2.2.2.2.2.1
def zdO (n:Nat):List (List Term)→List (List Term)→Bool×Int:=(zbf n).2.2.2.2.2.2.2.2.1
def zeV (n:Nat):List Weighted→List Weighted→Bool×Int:=(zbf n).2.2.2.2.2.2.2.2.2
theorem zlV:∀ n,Sound Tryz.prog base 145 (zcu (zrb n))∧Sound Tryz.prog base 198 (zdY (zvl n))∧Sound Tryz.prog base 108 (zeI (zmF n))∧Sound Tryz.prog base 143 (zcM (zsr n))∧Sound Tryz.prog base 110 (zeC (zmS n))∧Sound Tryz.prog base 147 (zcv (zm0 n))∧Sound Tryz.prog base 197 (zU (zf2 n))∧Sound Tryz.prog base 142 (z8 (zgw n))∧Sound Tryz.prog base 144 (zM (zdO n))∧Sound Tryz.prog base 146 (zT (zeV n))
 | 0=>⟨zbp Tryz.call145 (fun _=>rfl),zbp Tryz.call198 (fun _=>rfl),zbp Tryz.call108 (fun _=>rfl),zbp Tryz.call143 (fun _=>rfl),zbp Tryz.call110 (fun _=>rfl),zbp Tryz.call147 (fun _=>rfl),zbp Tryz.call197 (fun _=>rfl),zbp Tryz.call142 (fun _=>rfl),zbp Tryz.call144 (fun _=>rfl),zbp Tryz.call146 (fun _=>rfl)⟩
 | n+1=>by
  have ih:=zlV n
  exact ⟨zta _ _ (ih.2.2.2.2.2.2.1) (ih.2.1),zro _ (ih.2.2.1),zqv _ _ (ih.2.2.2.2.2.2.2.1) (ih.2.2.2.1),zpc _ (ih.2.2.2.2.1),zqo _ _ _ _ (ih.2.2.2.2.2.2.2.2.1) (ih.1) (ih.2.2.2.2.2.2.2.2.2) (ih.2.2.2.2.2.1),zqt _ (ih.1),zeU _ (ih.2.1),ze9 _ (ih.2.2.2.1),zc6 _ (ih.1),zd1 _ (ih.2.2.2.2.2.1)⟩
def zs1:List Term→List Term→Bool×Int:=zrb 1000
def annotation_Compare_spec:Ab.Spec ty:=zcu zs1
theorem zuL:Sound Tryz.prog base 145 annotation_Compare_spec:=(zlV 1000).1
def znV:Term→Term→Bool×Int:=zmF 1000
def annotation_compareLists_spec:Ab.Spec ty:=zeI znV
theorem zrn:Sound Tryz.prog base 108 annotation_compareLists_spec:=(zlV 1000).2.2.1
def zjO:Atom→Atom→Bool×Int:=zmS 1000
def annotation_compareAtoms_spec:Ab.Spec ty:=zeC zjO
theorem zrl:Sound Tryz.prog base 110 annotation_compareAtoms_spec:=(zlV 1000).2.2.2.2.1
def zn7:Weighted→Weighted→Bool×Int:=zm0 1000
def annotation_compareItems_spec:Ab.Spec ty:=zcv zn7
theorem zko:Sound Tryz.prog base 147 annotation_compareItems_spec:=(zlV 1000).2.2.2.2.2.1
def zrf (r:Bool):ARes ty:=⟨[.pure (.lit (.bool r))],[]⟩
def zsP:AL base (List Term×Unit):=zf (zg (vSl 152)) aNil
def zfh (F:List Term→Bool×Bool):Ab.Spec ty:=zl zsP fun x=>((F x.1).1,zrf (F x.1).2)
def zbq (r:Bool):ARes ty:=⟨[.pure (.lit (.bool r))],[]⟩
def zoR:AL base (Atom×Unit):=zf (zg (vAgg 158)) aNil
def zhT (F:Atom→Bool×Bool):Ab.Spec ty:=zl zoR fun x=>((F x.1).1,zbq (F x.1).2)
def zlz (r:Bool):ARes ty:=⟨[.pure (.lit (.bool r))],[]⟩
def zm1:AL base (List Term×Unit):=zf (zg (vSl 152)) aNil
def zbU (F:List Term→Bool×Bool):Ab.Spec ty:=zl zm1 fun x=>((F x.1).1,zlz (F x.1).2)
def zll (r:Bool):ARes ty:=⟨[.pure (.lit (.bool r))],[]⟩
def zmI:AL base (Weighted×Unit):=zf (zg (vAgg 182)) aNil
def zbT (F:Weighted→Bool×Bool):Ab.Spec ty:=zl zmI fun x=>((F x.1).1,zll (F x.1).2)
def zdR (r:Int):ARes ty:=⟨[.pure (.lit (.int .i64 r))],[]⟩
def zeb:AL base (List (List Term)×Unit×Unit):=zf (zg (vSl 36)) (zf (zg (vFn 149 vNil)) aNil)
def zbr (F:List (List Term)→Bool×Int):Ab.Spec ty:=zl zeb fun x=>((F x.1).1,zdR (F x.1).2)
def zdi (r:Bool):ARes ty:=⟨[.pure (.lit (.bool r))],[]⟩
def zdI:AL base (List (List Term)×Unit×Unit):=zf (zg (vSl 36)) (zf (zg (vFn 149 vNil)) aNil)
def zbn (F:List (List Term)→Bool×Bool):Ab.Spec ty:=zl zdI fun x=>((F x.1).1,zdi (F x.1).2)
def zeL (r:Int):ARes ty:=⟨[.pure (.lit (.int .i64 r))],[]⟩
def ze6:AL base (List Weighted×Unit×Unit):=zf (zg (vSl 182)) (zf (zg (vFn 156 vNil)) aNil)
def zbK (F:List Weighted→Bool×Int):Ab.Spec ty:=zl ze6 fun x=>((F x.1).1,zeL (F x.1).2)
def zd3 (r:Bool):ARes ty:=⟨[.pure (.lit (.bool r))],[]⟩
def zev:AL base (List Weighted×Unit×Unit):=zf (zg (vSl 182)) (zf (zg (vFn 156 vNil)) aNil)
def zby (F:List Weighted→Bool×Bool):Ab.Spec ty:=zl zev fun x=>((F x.1).1,zd3 (F x.1).2)
def zuX:Cx ty:=mkCx base 11 [] [] [] [] [] []
def znQ (x_:Atom):Wy0 (Bool):=.i (x_.Kind==3) (.k true) (.k (x_.Kind==4))
def zim (x_:Atom):Bool×Bool:=(znQ x_).fin default
def zmU (r:Bool):ARes ty:=⟨[.pure (.lit (.bool r))],[]⟩
def zob:AL base (Atom×Unit):=zf (zg (vAgg 158)) aNil
def ziw:Ab.Spec ty:=zl zob fun x=>((zim x.1).1,zmU (zim x.1).2)
theorem zk7:Sound Tryz.prog base 109 ziw:=
 zt (cx':=zuX) zD zo zB (zu trivial) Tryz.call109 Tryz.func109 (c:=body Tryz.f109) (by kernel_rfl) (zh (l:=[]) (by kernel_rfl) trivial) (sg:=⟨[.pure],[]⟩) (A:=zob) (res:=zmU) (W:=fun x=>znQ x.1) (z:=default)
def zrD (r:Int):ARes ty:=⟨[.pure (.lit (.int .i64 r))],[]⟩
def ztM:AL base (List Term×Unit):=zf (zg (vSl 152)) aNil
def ziF (F:List Term→Bool×Int):Ab.Spec ty:=zl ztM fun x=>((F x.1).1,zrD (F x.1).2)
abbrev ttTannotationSize0:=Int×Unit×List Term×Int×Int×List Factor×Int×Int×List (List Term)×Int×Int×Unit
abbrev ttTannotationSize1:=Int×List Term×Int×Int×List Factor×Int×Int×Factor
abbrev ttTannotationSize2:=Int×List Term×Int×Int×List Factor×Int×Int×List Weighted×Int×Int×Unit
abbrev ttTannotationSize3:=Int×List Term×Int×Int×List Factor×Int×Int
abbrev ttTannotationSize4:=Int×List Term×Int×Int×List Factor×Int×Int×Unit
abbrev ttTannotationSize5:=Int×List Term×Int×Int
abbrev ttTannotationSize6:=Int×List Term×Int×Int×Unit
def zxG (zj:List Term→Bool×Int) (n_:Int) (t12:List Term) (t13:Int) (t14:Int) (t25:List Factor) (t26:Int) (t27:Int) (t33:List (List Term)) (t34:Int) (t35:Int) (f:Factor):Wy ttTannotationSize0 (Factor×Unit) ttTannotationSize1:=.i (decide (t35<t34)) (.i (decide (0≤t35)&&decide (t35<Int.ofNat t33.length)) (.bn (zj (t33.getD t35.toNat default)) fun r0=>.h ((IntKind.i64.wrap (n_+r0)),(),t12,t13,t14,t25,t26,t27,t33,t34,(IntKind.i64.wrap (t35+1)),()) (f,())) .d) (.k (n_,t12,t13,t14,t25,t26,t27,f))
def zkN (zj:List Term→Bool×Int) (x:ttTannotationSize0) (y:Factor×Unit):Wy ttTannotationSize0 (Factor×Unit) ttTannotationSize1:=zxG zj x.1 x.2.2.1 x.2.2.2.1 x.2.2.2.2.1 x.2.2.2.2.2.1 x.2.2.2.2.2.2.1 x.2.2.2.2.2.2.2.1 x.2.2.2.2.2.2.2.2.1 x.2.2.2.2.2.2.2.2.2.1 x.2.2.2.2.2.2.2.2.2.2.1 y.1
def zxw (zj:List Term→Bool×Int) (n:Nat) (n_:Int) (t12:List Term) (t13:Int) (t14:Int) (t25:List Factor) (t26:Int) (t27:Int) (t33:List (List Term)) (t34:Int) (t35:Int) (f:Factor):Bool×ttTannotationSize1:=zY (zkN zj) default n (n_,(),t12,t13,t14,t25,t26,t27,t33,t34,t35,()) (f,())
def zoF (r:ttTannotationSize1):LTree ty:=.done (.exit 4) [.lit (.int .i64 r.1),.ptr 248 0,.sl 152 r.2.1,.lit (.int .i64 r.2.2.1),.lit (.int .i64 r.2.2.2.1),.sl 160 r.2.2.2.2.1,.lit (.int .i64 r.2.2.2.2.2.1),.lit (.int .i64 r.2.2.2.2.2.2.1)] [.box (base.enc 160 r.2.2.2.2.2.2.2) false]
def zpY:LL ty ttTannotationSize0:=za (lInt .i64) (za (zc8 248 0) (za (lSl 152) (za (lInt .i64) (za (lInt .i64) (za (lSl 160) (za (lInt .i64) (za (lInt .i64) (za (lSl 36) (za (lInt .i64) (za (lInt .i64) zG))))))))))
def zpv:BL ty (Factor×Unit):=bBox (zgF (fun x=>(⟨⟨x.1,⟨x.2.1,x.2.2.1⟩,x.2.2.2.1,x.2.2.2.2.1,x.2.2.2.2.2.1,x.2.2.2.2.2.2.1,⟨x.2.2.2.2.2.2.2.1,x.2.2.2.2.2.2.2.2.1,x.2.2.2.2.2.2.2.2.2.1⟩⟩,x.2.2.2.2.2.2.2.2.2.2.1⟩:Factor)) (fun x=>(x.Atom.Kind,x.Atom.Row.Table,x.Atom.Row.Seq,x.Atom.Args,x.Atom.Func,x.Atom.Items,x.Atom.Op,x.Atom.Bound.Kind,x.Atom.Bound.Int,x.Atom.Bound.Text,x.Exp,())) (fun _=>rfl) (za (lInt .i64) (za (lInt .i64) (za (lInt .i64) (za (lSl 36) (za (lInt .i64) (za (lSl 182) (za (lInt .i64) (za (lInt .i64) (za (lInt .i64) (za lStr (za (lInt .i64) zG)))))))))))) false (bNil)
def zxm (zj:List Term→Bool×Int) (n_:Int) (t12:List Term) (t13:Int) (t14:Int) (t25:List Factor) (t26:Int) (t27:Int) (t46:List Weighted) (t47:Int) (t48:Int):Wy ttTannotationSize2 (Unit) ttTannotationSize3:=.i (decide (t48<t47)) (.i (decide (0≤t48)&&decide (t48<Int.ofNat t46.length)) (.bn (zj (t46.getD t48.toNat default).Ann) fun r2=>.h ((IntKind.i64.wrap (n_+IntKind.i64.wrap (1+r2))),t12,t13,t14,t25,t26,t27,t46,t47,(IntKind.i64.wrap (t48+1)),()) ()) .d) (.k (n_,t12,t13,t14,t25,t26,t27))
def zkZ (zj:List Term→Bool×Int) (x:ttTannotationSize2) (y:Unit):Wy ttTannotationSize2 (Unit) ttTannotationSize3:=zxm zj x.1 x.2.1 x.2.2.1 x.2.2.2.1 x.2.2.2.2.1 x.2.2.2.2.2.1 x.2.2.2.2.2.2.1 x.2.2.2.2.2.2.2.1 x.2.2.2.2.2.2.2.2.1 x.2.2.2.2.2.2.2.2.2.1
def zwS (zj:List Term→Bool×Int) (n:Nat) (n_:Int) (t12:List Term) (t13:Int) (t14:Int) (t25:List Factor) (t26:Int) (t27:Int) (t46:List Weighted) (t47:Int) (t48:Int):Bool×ttTannotationSize3:=zY (zkZ zj) default n (n_,t12,t13,t14,t25,t26,t27,t46,t47,t48,()) ()
def zoK (r:ttTannotationSize3):LTree ty:=.done (.exit 6) [.lit (.int .i64 r.1),.sl 152 r.2.1,.lit (.int .i64 r.2.2.1),.lit (.int .i64 r.2.2.2.1),.sl 160 r.2.2.2.2.1,.lit (.int .i64 r.2.2.2.2.2.1),.lit (.int .i64 r.2.2.2.2.2.2)] []
def zpy:LL ty ttTannotationSize2:=za (lInt .i64) (za (lSl 152) (za (lInt .i64) (za (lInt .i64) (za (lSl 160) (za (lInt .i64) (za (lInt .i64) (za (lSl 182) (za (lInt .i64) (za (lInt .i64) zG)))))))))
def zqm:BL ty (Unit):=bNil
def zyE (zj:List Term→Bool×Int) (n_:Int) (t12:List Term) (t13:Int) (t14:Int) (t25:List Factor) (t26:Int) (t27:Int):Wy ttTannotationSize4 (Unit) ttTannotationSize5:=.i (decide (t27<t26)) (.i (decide (0≤t27)&&decide (t27<Int.ofNat t25.length)) (.bn (zxw zj (n_.toNat +t12.length+t13.toNat +t14.toNat +t25.length+t26.toNat +t27.toNat +(t25.getD t27.toNat default).Atom.Args.length+(Int.ofNat (t25.getD t27.toNat default).Atom.Args.length).toNat +Int.toNat 0+(t25.getD t27.toNat default).Atom.Args.length+(t25.getD t27.toNat default).Atom.Items.length+1000) n_ t12 t13 t14 t25 t26 t27 (t25.getD t27.toNat default).Atom.Args (Int.ofNat (t25.getD t27.toNat default).Atom.Args.length) 0 (FactorOf.mk (Atom.mk (t25.getD t27.toNat default).Atom.Kind (t25.getD t27.toNat default).Atom.Row (t25.getD t27.toNat default).Atom.Args (t25.getD t27.toNat default).Atom.Func (t25.getD t27.toNat default).Atom.Items (t25.getD t27.toNat default).Atom.Op (t25.getD t27.toNat default).Atom.Bound) (t25.getD t27.toNat default).Exp)) fun r5=>.bn (zwS zj (r5.1.toNat +r5.2.1.length+r5.2.2.1.toNat +r5.2.2.2.1.toNat +r5.2.2.2.2.1.length+r5.2.2.2.2.2.1.toNat +r5.2.2.2.2.2.2.1.toNat +r5.2.2.2.2.2.2.2.Atom.Items.length+(Int.ofNat r5.2.2.2.2.2.2.2.Atom.Items.length).toNat +Int.toNat 0+1000) r5.1 r5.2.1 r5.2.2.1 r5.2.2.2.1 r5.2.2.2.2.1 r5.2.2.2.2.2.1 r5.2.2.2.2.2.2.1 r5.2.2.2.2.2.2.2.Atom.Items (Int.ofNat r5.2.2.2.2.2.2.2.Atom.Items.length) 0) fun r4=>.h ((r4.1),(r4.2.1),(r4.2.2.1),(r4.2.2.2.1),(r4.2.2.2.2.1),(r4.2.2.2.2.2.1),(IntKind.i64.wrap (r4.2.2.2.2.2.2+1)),()) ()) .d) (.k (n_,t12,t13,t14))
def zlP (zj:List Term→Bool×Int) (x:ttTannotationSize4) (y:Unit):Wy ttTannotationSize4 (Unit) ttTannotationSize5:=zyE zj x.1 x.2.1 x.2.2.1 x.2.2.2.1 x.2.2.2.2.1 x.2.2.2.2.2.1 x.2.2.2.2.2.2.1
def zx3 (zj:List Term→Bool×Int) (n:Nat) (n_:Int) (t12:List Term) (t13:Int) (t14:Int) (t25:List Factor) (t26:Int) (t27:Int):Bool×ttTannotationSize5:=zY (zlP zj) default n (n_,t12,t13,t14,t25,t26,t27,()) ()
def zpB (r:ttTannotationSize5):LTree ty:=.done (.exit 2) [.lit (.int .i64 r.1),.sl 152 r.2.1,.lit (.int .i64 r.2.2.1),.lit (.int .i64 r.2.2.2)] []
def zq1:LL ty ttTannotationSize4:=za (lInt .i64) (za (lSl 152) (za (lInt .i64) (za (lInt .i64) (za (lSl 160) (za (lInt .i64) (za (lInt .i64) zG))))))
def zqS:BL ty (Unit):=bNil
def zyk (zj:List Term→Bool×Int) (n_:Int) (t12:List Term) (t13:Int) (t14:Int):Wy ttTannotationSize6 (Unit) (Int):=.i (decide (t14<t13)) (.i (decide (0≤t14)&&decide (t14<Int.ofNat t12.length)) (.bn (zx3 zj ((IntKind.i64.wrap (n_+IntKind.i64.wrap (1+Int.ofNat (t12.getD t14.toNat default).Factors.length))).toNat +t12.length+t13.toNat +t14.toNat +(t12.getD t14.toNat default).Factors.length+(Int.ofNat (t12.getD t14.toNat default).Factors.length).toNat +Int.toNat 0+1000) (IntKind.i64.wrap (n_+IntKind.i64.wrap (1+Int.ofNat (t12.getD t14.toNat default).Factors.length))) t12 t13 t14 (t12.getD t14.toNat default).Factors (Int.ofNat (t12.getD t14.toNat default).Factors.length) 0) fun r8=>.h ((r8.1),(r8.2.1),(r8.2.2.1),(IntKind.i64.wrap (r8.2.2.2+1)),()) ()) .d) (.k n_)
def zlM (zj:List Term→Bool×Int) (x:ttTannotationSize6) (y:Unit):Wy ttTannotationSize6 (Unit) (Int):=zyk zj x.1 x.2.1 x.2.2.1 x.2.2.2.1
def zye (zj:List Term→Bool×Int) (n:Nat) (n_:Int) (t12:List Term) (t13:Int) (t14:Int):Bool×Int:=zY (zlM zj) default n (n_,t12,t13,t14,()) ()
def zpH (r:Int):LTree ty:=.done (.exit 0) [.lit (.int .i64 r)] []
def zqV:LL ty ttTannotationSize6:=za (lInt .i64) (za (lSl 152) (za (lInt .i64) (za (lInt .i64) zG)))
def zqy:BL ty (Unit):=bNil
def zoL (x:ttTannotationSize0) (y:Factor×Unit):Nat:=(Int.toNat x.1+x.2.2.1.length+Int.toNat x.2.2.2.1+Int.toNat x.2.2.2.2.1+x.2.2.2.2.2.1.length+Int.toNat x.2.2.2.2.2.2.1+Int.toNat x.2.2.2.2.2.2.2.1+x.2.2.2.2.2.2.2.2.1.length+Int.toNat x.2.2.2.2.2.2.2.2.2.1+Int.toNat x.2.2.2.2.2.2.2.2.2.2.1+y.1.Atom.Args.length+y.1.Atom.Items.length+1000)
def zoW (x:ttTannotationSize2) (y:Unit):Nat:=(Int.toNat x.1+x.2.1.length+Int.toNat x.2.2.1+Int.toNat x.2.2.2.1+x.2.2.2.2.1.length+Int.toNat x.2.2.2.2.2.1+Int.toNat x.2.2.2.2.2.2.1+x.2.2.2.2.2.2.2.1.length+Int.toNat x.2.2.2.2.2.2.2.2.1+Int.toNat x.2.2.2.2.2.2.2.2.2.1+1000)
def zpX (x:ttTannotationSize4) (y:Unit):Nat:=(Int.toNat x.1+x.2.1.length+Int.toNat x.2.2.1+Int.toNat x.2.2.2.1+x.2.2.2.2.1.length+Int.toNat x.2.2.2.2.2.1+Int.toNat x.2.2.2.2.2.2.1+1000)
def zps (x:ttTannotationSize6) (y:Unit):Nat:=(Int.toNat x.1+x.2.1.length+Int.toNat x.2.2.1+Int.toNat x.2.2.2.1+1000)
def zhi (zj:List Term→Bool×Int):Cx ty:=mkCx base 62 [(137,(ziF zj))] [] [(3,[(3,.keep),(12,.keep),(13,.keep),(14,.keep)]),(7,[(3,.keep),(12,.keep),(13,.keep),(14,.keep),(25,.keep),(26,.keep),(27,.keep)]),(10,[(3,.keep),(7,.keep),(12,.keep),(13,.keep),(14,.keep),(25,.keep),(26,.keep),(27,.keep),(33,.keep),(34,.keep),(35,.keep)]),(15,[(3,.keep),(12,.keep),(13,.keep),(14,.keep),(25,.keep),(26,.keep),(27,.keep),(46,.keep),(47,.keep),(48,.keep)])] [(3,1,[(3,.keep)]),(7,3,[(3,.keep),(12,.keep),(13,.keep),(14,.keep)]),(10,5,[(3,.keep),(7,.keep),(12,.keep),(13,.keep),(14,.keep),(25,.keep),(26,.keep),(27,.keep)]),(15,7,[(3,.keep),(12,.keep),(13,.keep),(14,.keep),(25,.keep),(26,.keep),(27,.keep)])] [(10,spW zpY zpv (zkN zj) default zoF zoL),(15,spW zpy zqm (zkZ zj) default zoK zoW),(7,spW zq1 zqS (zlP zj) default zpB zpX),(3,spW zqV zqy (zlM zj) default zpH zps)] []
theorem zwz (zj:List Term→Bool×Int):zX (zhi zj) (lp (body Tryz.f137) 2):=zN (id:=10) (V:=zpY) (B:=zpv) (W:=zkN zj) (z:=default) (tr:=zoF) (m:=zoL)
theorem zwj (zj:List Term→Bool×Int):zX (zhi zj) (lp (body Tryz.f137) 3):=zN (id:=15) (V:=zpy) (B:=zqm) (W:=zkZ zj) (z:=default) (tr:=zoK) (m:=zoW)
theorem zw7 (zj:List Term→Bool×Int):zX (zhi zj) (lp (body Tryz.f137) 1):=zN (id:=7) (V:=zq1) (B:=zqS) (W:=zlP zj) (z:=default) (tr:=zpB) (m:=zpX)
theorem zxi (zj:List Term→Bool×Int):zX (zhi zj) (lp (body Tryz.f137) 0):=zN (id:=3) (V:=zqV) (B:=zqy) (W:=zlM zj) (z:=default) (tr:=zpH) (m:=zps)
def zrp (zj:List Term→Bool×Int) (a:List Term):Wy0 (Int):=.bn (zye zj (Int.toNat 0+a.length+(Int.ofNat a.length).toNat +Int.toNat 0+1000) 0 a (Int.ofNat a.length) 0) fun r10=>.k r10
def ztD (zj:List Term→Bool×Int) (a:List Term):Bool×Int:=(zrp zj a).fin default
theorem zvk (zj:List Term→Bool×Int) (zze:Sound Tryz.prog base 137 (ziF zj)):Sound Tryz.prog base 137 (ziF (ztD zj)):=
 zt (cx':=(zhi zj)) zD zo zB (zu ⟨zze,trivial⟩) Tryz.call137 Tryz.func137 (c:=body Tryz.f137) (by kernel_rfl) (zh (l:=[lp (body Tryz.f137) 0,lp (body Tryz.f137) 1,lp (body Tryz.f137) 2,lp (body Tryz.f137) 3]) (by kernel_rfl) ⟨zxi zj,zw7 zj,zwz zj,zwj zj,trivial⟩) (sg:=⟨[.pure],[]⟩) (A:=ztM) (res:=zrD) (W:=fun x=>zrp zj x.1) (z:=default)
def zEp:Nat→(List Term→Bool×Int)
 | 0=>fun _=>(false,default)
 | n+1=>ztD (zEp n)
def zty (n:Nat):List Term→Bool×Int:=zEp n
theorem zCv:∀ n,Sound Tryz.prog base 137 (ziF (zty n))
 | 0=>zbp Tryz.call137 (fun _=>rfl)
 | n+1=>by
  have ih:=zCv n
  exact zvk _ (ih)
def zwa:List Term→Bool×Int:=zty 1000
def annotation_Size_spec:Ab.Spec ty:=ziF zwa
theorem zwU:Sound Tryz.prog base 137 annotation_Size_spec:=(zCv 1000)
def zoY (r:Int):ARes ty:=⟨[.pure (.lit (.int .i64 r))],[]⟩
def zqz:AL base (List Term×Unit):=zf (zg (vSl 152)) aNil
def zhg (F:List Term→Bool×Int):Ab.Spec ty:=zl zqz fun x=>((F x.1).1,zoY (F x.1).2)
abbrev ttTannotationnesting0:=Int×Unit×Int×List Term×Int×Int×List Factor×Int×Int×List (List Term)×Int×Int×Unit
abbrev ttTannotationnesting1:=Int×Int×List Term×Int×Int×List Factor×Int×Int×Factor
abbrev ttTannotationnesting2:=Int×Int×List Term×Int×Int×List Factor×Int×Int×List Weighted×Int×Int×Unit
abbrev ttTannotationnesting3:=Int×Int×List Term×Int×Int×List Factor×Int×Int
abbrev ttTannotationnesting4:=Int×List Term×Int×Int×List Factor×Int×Int×Unit
abbrev ttTannotationnesting5:=Int×List Term×Int×Int
abbrev ttTannotationnesting6:=Int×List Term×Int×Int×Unit
def zuk (zi:List Term→Bool×Int) (n_:Int) (inner:Int) (t13:List Term) (t14:Int) (t15:Int) (t20:List Factor) (t21:Int) (t22:Int) (t32:List (List Term)) (t33:Int) (t34:Int) (f:Factor):Wy ttTannotationnesting0 (Factor×Unit) ttTannotationnesting1:=.i (decide (t34<t33)) (.i (decide (0≤t34)&&decide (t34<Int.ofNat t32.length)) (.bn (zi (t32.getD t34.toNat default)) fun r0=>.h (n_,(),(if r0>inner then r0 else inner),t13,t14,t15,t20,t21,t22,t32,t33,(IntKind.i64.wrap (t34+1)),()) (f,())) .d) (.k (n_,inner,t13,t14,t15,t20,t21,t22,f))
def zjx (zi:List Term→Bool×Int) (x:ttTannotationnesting0) (y:Factor×Unit):Wy ttTannotationnesting0 (Factor×Unit) ttTannotationnesting1:=zuk zi x.1 x.2.2.1 x.2.2.2.1 x.2.2.2.2.1 x.2.2.2.2.2.1 x.2.2.2.2.2.2.1 x.2.2.2.2.2.2.2.1 x.2.2.2.2.2.2.2.2.1 x.2.2.2.2.2.2.2.2.2.1 x.2.2.2.2.2.2.2.2.2.2.1 x.2.2.2.2.2.2.2.2.2.2.2.1 y.1
def zuI (zi:List Term→Bool×Int) (n:Nat) (n_:Int) (inner:Int) (t13:List Term) (t14:Int) (t15:Int) (t20:List Factor) (t21:Int) (t22:Int) (t32:List (List Term)) (t33:Int) (t34:Int) (f:Factor):Bool×ttTannotationnesting1:=zY (zjx zi) default n (n_,(),inner,t13,t14,t15,t20,t21,t22,t32,t33,t34,()) (f,())
def zmL (r:ttTannotationnesting1):LTree ty:=.done (.exit 4) [.lit (.int .i64 r.1),.ptr 256 0,.lit (.int .i64 r.2.1),.sl 152 r.2.2.1,.lit (.int .i64 r.2.2.2.1),.lit (.int .i64 r.2.2.2.2.1),.sl 160 r.2.2.2.2.2.1,.lit (.int .i64 r.2.2.2.2.2.2.1),.lit (.int .i64 r.2.2.2.2.2.2.2.1)] [.box (base.enc 160 r.2.2.2.2.2.2.2.2) false]
def znh:LL ty ttTannotationnesting0:=za (lInt .i64) (za (zc8 256 0) (za (lInt .i64) (za (lSl 152) (za (lInt .i64) (za (lInt .i64) (za (lSl 160) (za (lInt .i64) (za (lInt .i64) (za (lSl 36) (za (lInt .i64) (za (lInt .i64) zG)))))))))))
def zng:BL ty (Factor×Unit):=bBox (zgF (fun x=>(⟨⟨x.1,⟨x.2.1,x.2.2.1⟩,x.2.2.2.1,x.2.2.2.2.1,x.2.2.2.2.2.1,x.2.2.2.2.2.2.1,⟨x.2.2.2.2.2.2.2.1,x.2.2.2.2.2.2.2.2.1,x.2.2.2.2.2.2.2.2.2.1⟩⟩,x.2.2.2.2.2.2.2.2.2.2.1⟩:Factor)) (fun x=>(x.Atom.Kind,x.Atom.Row.Table,x.Atom.Row.Seq,x.Atom.Args,x.Atom.Func,x.Atom.Items,x.Atom.Op,x.Atom.Bound.Kind,x.Atom.Bound.Int,x.Atom.Bound.Text,x.Exp,())) (fun _=>rfl) (za (lInt .i64) (za (lInt .i64) (za (lInt .i64) (za (lSl 36) (za (lInt .i64) (za (lSl 182) (za (lInt .i64) (za (lInt .i64) (za (lInt .i64) (za lStr (za (lInt .i64) zG)))))))))))) false (bNil)
def zu3 (zi:List Term→Bool×Int) (n_:Int) (inner:Int) (t13:List Term) (t14:Int) (t15:Int) (t20:List Factor) (t21:Int) (t22:Int) (t45:List Weighted) (t46:Int) (t47:Int):Wy ttTannotationnesting2 (Unit) ttTannotationnesting3:=.i (decide (t47<t46)) (.i (decide (0≤t47)&&decide (t47<Int.ofNat t45.length)) (.bn (zi (t45.getD t47.toNat default).Ann) fun r2=>.h (n_,(if r2>inner then r2 else inner),t13,t14,t15,t20,t21,t22,t45,t46,(IntKind.i64.wrap (t47+1)),()) ()) .d) (.k (n_,inner,t13,t14,t15,t20,t21,t22))
def zjt (zi:List Term→Bool×Int) (x:ttTannotationnesting2) (y:Unit):Wy ttTannotationnesting2 (Unit) ttTannotationnesting3:=zu3 zi x.1 x.2.1 x.2.2.1 x.2.2.2.1 x.2.2.2.2.1 x.2.2.2.2.2.1 x.2.2.2.2.2.2.1 x.2.2.2.2.2.2.2.1 x.2.2.2.2.2.2.2.2.1 x.2.2.2.2.2.2.2.2.2.1 x.2.2.2.2.2.2.2.2.2.2.1
def zuW (zi:List Term→Bool×Int) (n:Nat) (n_:Int) (inner:Int) (t13:List Term) (t14:Int) (t15:Int) (t20:List Factor) (t21:Int) (t22:Int) (t45:List Weighted) (t46:Int) (t47:Int):Bool×ttTannotationnesting3:=zY (zjt zi) default n (n_,inner,t13,t14,t15,t20,t21,t22,t45,t46,t47,()) ()
def zm2 (r:ttTannotationnesting3):LTree ty:=.done (.exit 6) [.lit (.int .i64 r.1),.lit (.int .i64 r.2.1),.sl 152 r.2.2.1,.lit (.int .i64 r.2.2.2.1),.lit (.int .i64 r.2.2.2.2.1),.sl 160 r.2.2.2.2.2.1,.lit (.int .i64 r.2.2.2.2.2.2.1),.lit (.int .i64 r.2.2.2.2.2.2.2)] []
def znd:LL ty ttTannotationnesting2:=za (lInt .i64) (za (lInt .i64) (za (lSl 152) (za (lInt .i64) (za (lInt .i64) (za (lSl 160) (za (lInt .i64) (za (lInt .i64) (za (lSl 182) (za (lInt .i64) (za (lInt .i64) zG))))))))))
def znc:BL ty (Unit):=bNil
def zvg (zi:List Term→Bool×Int) (n_:Int) (t13:List Term) (t14:Int) (t15:Int) (t20:List Factor) (t21:Int) (t22:Int):Wy ttTannotationnesting4 (Unit) ttTannotationnesting5:=.i (decide (t22<t21)) (.i (decide (0≤t22)&&decide (t22<Int.ofNat t20.length)) (.i ((t20.getD t22.toNat default).Atom.Kind==0) (.h (n_,t13,t14,t15,t20,t21,(IntKind.i64.wrap (t22+1)),()) ()) (.bn (zuI zi (n_.toNat +Int.toNat 0+t13.length+t14.toNat +t15.toNat +t20.length+t21.toNat +t22.toNat +(t20.getD t22.toNat default).Atom.Args.length+(Int.ofNat (t20.getD t22.toNat default).Atom.Args.length).toNat +Int.toNat 0+(t20.getD t22.toNat default).Atom.Args.length+(t20.getD t22.toNat default).Atom.Items.length+1000) n_ 0 t13 t14 t15 t20 t21 t22 (t20.getD t22.toNat default).Atom.Args (Int.ofNat (t20.getD t22.toNat default).Atom.Args.length) 0 (FactorOf.mk (Atom.mk (t20.getD t22.toNat default).Atom.Kind (t20.getD t22.toNat default).Atom.Row (t20.getD t22.toNat default).Atom.Args (t20.getD t22.toNat default).Atom.Func (t20.getD t22.toNat default).Atom.Items (t20.getD t22.toNat default).Atom.Op (t20.getD t22.toNat default).Atom.Bound) (t20.getD t22.toNat default).Exp)) fun r5=>.bn (zuW zi (r5.1.toNat +r5.2.1.toNat +r5.2.2.1.length+r5.2.2.2.1.toNat +r5.2.2.2.2.1.toNat +r5.2.2.2.2.2.1.length+r5.2.2.2.2.2.2.1.toNat +r5.2.2.2.2.2.2.2.1.toNat +r5.2.2.2.2.2.2.2.2.Atom.Items.length+(Int.ofNat r5.2.2.2.2.2.2.2.2.Atom.Items.length).toNat +Int.toNat 0+1000) r5.1 r5.2.1 r5.2.2.1 r5.2.2.2.1 r5.2.2.2.2.1 r5.2.2.2.2.2.1 r5.2.2.2.2.2.2.1 r5.2.2.2.2.2.2.2.1 r5.2.2.2.2.2.2.2.2.Atom.Items (Int.ofNat r5.2.2.2.2.2.2.2.2.Atom.Items.length) 0) fun r4=>.h ((if IntKind.i64.wrap (1+r4.2.1)>r4.1 then IntKind.i64.wrap (1+r4.2.1) else r4.1),(r4.2.2.1),(r4.2.2.2.1),(r4.2.2.2.2.1),(r4.2.2.2.2.2.1),(r4.2.2.2.2.2.2.1),(IntKind.i64.wrap (r4.2.2.2.2.2.2.2+1)),()) ())) .d) (.k (n_,t13,t14,t15))
def zjN (zi:List Term→Bool×Int) (x:ttTannotationnesting4) (y:Unit):Wy ttTannotationnesting4 (Unit) ttTannotationnesting5:=zvg zi x.1 x.2.1 x.2.2.1 x.2.2.2.1 x.2.2.2.2.1 x.2.2.2.2.2.1 x.2.2.2.2.2.2.1
def zvo (zi:List Term→Bool×Int) (n:Nat) (n_:Int) (t13:List Term) (t14:Int) (t15:Int) (t20:List Factor) (t21:Int) (t22:Int):Bool×ttTannotationnesting5:=zY (zjN zi) default n (n_,t13,t14,t15,t20,t21,t22,()) ()
def zne (r:ttTannotationnesting5):LTree ty:=.done (.exit 2) [.lit (.int .i64 r.1),.sl 152 r.2.1,.lit (.int .i64 r.2.2.1),.lit (.int .i64 r.2.2.2)] []
def znM:LL ty ttTannotationnesting4:=za (lInt .i64) (za (lSl 152) (za (lInt .i64) (za (lInt .i64) (za (lSl 160) (za (lInt .i64) (za (lInt .i64) zG))))))
def znY:BL ty (Unit):=bNil
def zvu (zi:List Term→Bool×Int) (n_:Int) (t13:List Term) (t14:Int) (t15:Int):Wy ttTannotationnesting6 (Unit) (Int):=.i (decide (t15<t14)) (.i (decide (0≤t15)&&decide (t15<Int.ofNat t13.length)) (.bn (zvo zi (n_.toNat +t13.length+t14.toNat +t15.toNat +(t13.getD t15.toNat default).Factors.length+(Int.ofNat (t13.getD t15.toNat default).Factors.length).toNat +Int.toNat 0+1000) n_ t13 t14 t15 (t13.getD t15.toNat default).Factors (Int.ofNat (t13.getD t15.toNat default).Factors.length) 0) fun r8=>.h ((r8.1),(r8.2.1),(r8.2.2.1),(IntKind.i64.wrap (r8.2.2.2+1)),()) ()) .d) (.k n_)
def zjI (zi:List Term→Bool×Int) (x:ttTannotationnesting6) (y:Unit):Wy ttTannotationnesting6 (Unit) (Int):=zvu zi x.1 x.2.1 x.2.2.1 x.2.2.2.1
def zvp (zi:List Term→Bool×Int) (n:Nat) (n_:Int) (t13:List Term) (t14:Int) (t15:Int):Bool×Int:=zY (zjI zi) default n (n_,t13,t14,t15,()) ()
def zni (r:Int):LTree ty:=.done (.exit 0) [.lit (.int .i64 r)] []
def zn1:LL ty ttTannotationnesting6:=za (lInt .i64) (za (lSl 152) (za (lInt .i64) (za (lInt .i64) zG)))
def znO:BL ty (Unit):=bNil
def zmZ (x:ttTannotationnesting0) (y:Factor×Unit):Nat:=(Int.toNat x.1+Int.toNat x.2.2.1+x.2.2.2.1.length+Int.toNat x.2.2.2.2.1+Int.toNat x.2.2.2.2.2.1+x.2.2.2.2.2.2.1.length+Int.toNat x.2.2.2.2.2.2.2.1+Int.toNat x.2.2.2.2.2.2.2.2.1+x.2.2.2.2.2.2.2.2.2.1.length+Int.toNat x.2.2.2.2.2.2.2.2.2.2.1+Int.toNat x.2.2.2.2.2.2.2.2.2.2.2.1+y.1.Atom.Args.length+y.1.Atom.Items.length+1000)
def zmv (x:ttTannotationnesting2) (y:Unit):Nat:=(Int.toNat x.1+Int.toNat x.2.1+x.2.2.1.length+Int.toNat x.2.2.2.1+Int.toNat x.2.2.2.2.1+x.2.2.2.2.2.1.length+Int.toNat x.2.2.2.2.2.2.1+Int.toNat x.2.2.2.2.2.2.2.1+x.2.2.2.2.2.2.2.2.1.length+Int.toNat x.2.2.2.2.2.2.2.2.2.1+Int.toNat x.2.2.2.2.2.2.2.2.2.2.1+1000)
def zm9 (x:ttTannotationnesting4) (y:Unit):Nat:=(Int.toNat x.1+x.2.1.length+Int.toNat x.2.2.1+Int.toNat x.2.2.2.1+x.2.2.2.2.1.length+Int.toNat x.2.2.2.2.2.1+Int.toNat x.2.2.2.2.2.2.1+1000)
def znv (x:ttTannotationnesting6) (y:Unit):Nat:=(Int.toNat x.1+x.2.1.length+Int.toNat x.2.2.1+Int.toNat x.2.2.2.1+1000)
def zfR (zi:List Term→Bool×Int):Cx ty:=mkCx base 64 [(136,(zhg zi))] [] [(3,[(3,.keep),(13,.keep),(14,.keep),(15,.keep)]),(6,[(3,.keep),(13,.keep),(14,.keep),(15,.keep),(20,.keep),(21,.keep),(22,.keep)]),(11,[(3,.keep),(7,.keep),(8,.keep),(13,.keep),(14,.keep),(15,.keep),(20,.keep),(21,.keep),(22,.keep),(32,.keep),(33,.keep),(34,.keep)]),(16,[(3,.keep),(8,.keep),(13,.keep),(14,.keep),(15,.keep),(20,.keep),(21,.keep),(22,.keep),(45,.keep),(46,.keep),(47,.keep)])] [(3,1,[(3,.keep)]),(6,3,[(3,.keep),(13,.keep),(14,.keep),(15,.keep)]),(11,5,[(3,.keep),(7,.keep),(8,.keep),(13,.keep),(14,.keep),(15,.keep),(20,.keep),(21,.keep),(22,.keep)]),(16,7,[(3,.keep),(8,.keep),(13,.keep),(14,.keep),(15,.keep),(20,.keep),(21,.keep),(22,.keep)])] [(11,spW znh zng (zjx zi) default zmL zmZ),(16,spW znd znc (zjt zi) default zm2 zmv),(6,spW znM znY (zjN zi) default zne zm9),(3,spW zn1 znO (zjI zi) default zni znv)] []
theorem zt7 (zi:List Term→Bool×Int):zX (zfR zi) (lp (body Tryz.f136) 2):=zN (id:=11) (V:=znh) (B:=zng) (W:=zjx zi) (z:=default) (tr:=zmL) (m:=zmZ)
theorem zt3 (zi:List Term→Bool×Int):zX (zfR zi) (lp (body Tryz.f136) 3):=zN (id:=16) (V:=znd) (B:=znc) (W:=zjt zi) (z:=default) (tr:=zm2) (m:=zmv)
theorem zuB (zi:List Term→Bool×Int):zX (zfR zi) (lp (body Tryz.f136) 1):=zN (id:=6) (V:=znM) (B:=znY) (W:=zjN zi) (z:=default) (tr:=zne) (m:=zm9)
theorem zuh (zi:List Term→Bool×Int):zX (zfR zi) (lp (body Tryz.f136) 0):=zN (id:=3) (V:=zn1) (B:=znO) (W:=zjI zi) (z:=default) (tr:=zni) (m:=znv)
def zo0 (zi:List Term→Bool×Int) (a:List Term):Wy0 (Int):=.bn (zvp zi (Int.toNat 0+a.length+(Int.ofNat a.length).toNat +Int.toNat 0+1000) 0 a (Int.ofNat a.length) 0) fun r10=>.k r10
def zq4 (zi:List Term→Bool×Int) (a:List Term):Bool×Int:=(zo0 zi a).fin default
theorem ztl (zi:List Term→Bool×Int) (zwp:Sound Tryz.prog base 136 (zhg zi)):Sound Tryz.prog base 136 (zhg (zq4 zi)):=
 zt (cx':=(zfR zi)) zD zo zB (zu ⟨zwp,trivial⟩) Tryz.call136 Tryz.func136 (c:=body Tryz.f136) (by kernel_rfl) (zh (l:=[lp (body Tryz.f136) 0,lp (body Tryz.f136) 1,lp (body Tryz.f136) 2,lp (body Tryz.f136) 3]) (by kernel_rfl) ⟨zuh zi,zuB zi,zt7 zi,zt3 zi,trivial⟩) (sg:=⟨[.pure],[]⟩) (A:=zqz) (res:=zoY) (W:=fun x=>zo0 zi x.1) (z:=default)
def zAX:Nat→(List Term→Bool×Int)
 | 0=>fun _=>(false,default)
 | n+1=>zq4 (zAX n)
def zra (n:Nat):List Term→Bool×Int:=zAX n
theorem zy4:∀ n,Sound Tryz.prog base 136 (zhg (zra n))
 | 0=>zbp Tryz.call136 (fun _=>rfl)
 | n+1=>by
  have ih:=zy4 n
  exact ztl _ (ih)
def zsN:List Term→Bool×Int:=zra 1000
def annotation_nesting_spec:Ab.Spec ty:=zhg zsN
theorem zuq:Sound Tryz.prog base 136 annotation_nesting_spec:=(zy4 1000)
def ztn:Cx ty:=mkCx base 13 [] [] [] [] [] []
def zmQ (f:Factor):Wy0 (Bool):=.i (decide (f.Exp>64)) (.k true) (.k (decide (Int.ofNat f.Atom.Items.length>1024)))
def zjQ (f:Factor):Bool×Bool:=(zmQ f).fin default
def zk6 (r:Bool):ARes ty:=⟨[.pure (.lit (.bool r))],[]⟩
def zmz:AL base (Factor×Unit):=zf (zg (vAgg 160)) aNil
def zfH:Ab.Spec ty:=zl zmz fun x=>((zjQ x.1).1,zk6 (zjQ x.1).2)
theorem zhu:Sound Tryz.prog base 141 zfH:=
 zt (cx':=ztn) zD zo zB (zu trivial) Tryz.call141 Tryz.func141 (c:=body Tryz.f141) (by kernel_rfl) (zh (l:=[]) (by kernel_rfl) trivial) (sg:=⟨[.pure],[]⟩) (A:=zmz) (res:=zk6) (W:=fun x=>zmQ x.1) (z:=default)
abbrev ttTslicesIndexFuncLapiFactorapiFactorwi0:=List Factor×Unit×Int×Int×Unit
def zj0 (s:List Factor) (t7:Int) (t8:Int):Wy ttTslicesIndexFuncLapiFactorapiFactorwi0 (Unit) (Int⊕Unit):=.i (decide (t8<t7)) (.i (decide (0≤t8)&&decide (t8<Int.ofNat s.length)) (.bn (zjQ (FactorOf.mk (Atom.mk (s.getD t8.toNat default).Atom.Kind (s.getD t8.toNat default).Atom.Row (s.getD t8.toNat default).Atom.Args (s.getD t8.toNat default).Atom.Func (s.getD t8.toNat default).Atom.Items (s.getD t8.toNat default).Atom.Op (s.getD t8.toNat default).Atom.Bound) (s.getD t8.toNat default).Exp)) fun r0=>.i (r0) (.k (.inl t8)) (.h (s,(),t7,(IntKind.i64.wrap (t8+1)),()) ())) .d) (.k (.inr ()))
def zcY (x:ttTslicesIndexFuncLapiFactorapiFactorwi0) (y:Unit):Wy ttTslicesIndexFuncLapiFactorapiFactorwi0 (Unit) (Int⊕Unit):=zj0 x.1 x.2.2.1 x.2.2.2.1
def zj8 (n:Nat) (s:List Factor) (t7:Int) (t8:Int):Bool×(Int⊕Unit):=zY (zcY) (.inl default) n (s,(),t7,t8,()) ()
def zfQ (r:Int⊕Unit):LTree ty:=.ite (isL r) (.done .ret [.lit (.int .i64 (getL r))] []) (.done (.exit 0) [] [])
def zgk:LL ty ttTslicesIndexFuncLapiFactorapiFactorwi0:=za (lSl 160) (za (lFn 141 (zG)) (za (lInt .i64) (za (lInt .i64) zG)))
def zgi:BL ty (Unit):=bNil
def zfN (x:ttTslicesIndexFuncLapiFactorapiFactorwi0) (y:Unit):Nat:=(x.1.length+Int.toNat x.2.2.1+Int.toNat x.2.2.2.1+1000)
def zf7:Cx ty:=mkCx base 19 [(141,zfH)] [] [(2,[(0,.keep),(1,.keep),(7,.keep),(8,.keep)])] [(2,1,[]),(2,0,[(4,.keep)])] [(2,spW zgk zgi (zcY) (.inl default) zfQ zfN)] []
theorem zjH:zX zf7 (lp (body Tryz.f196) 0):=zN (id:=2) (V:=zgk) (B:=zgi) (W:=zcY) (z:=.inl default) (tr:=zfQ) (m:=zfN)
def zgt (s:List Factor):Wy0 (Int):=.bn (zj8 (s.length+(Int.ofNat s.length).toNat +Int.toNat 0+1000) s (Int.ofNat s.length) 0) fun r2=>.i (isL r2) (.k (getL r2)) (.k (-1:Int))
def zdy (s:List Factor):Bool×Int:=(zgt s).fin default
def zfP (r:Int):ARes ty:=⟨[.pure (.lit (.int .i64 r))],[]⟩
def zgs:AL base (List Factor×Unit×Unit):=zf (zg (vSl 160)) (zf (zg (vFn 141 vNil)) aNil)
def zft:Ab.Spec ty:=zl zgs fun x=>((zdy x.1).1,zfP (zdy x.1).2)
theorem zjw:Sound Tryz.prog base 196 zft:=
 zt (cx':=zf7) zD zo zB (zu ⟨zhu,trivial⟩) Tryz.call196 Tryz.func196 (c:=body Tryz.f196) (by kernel_rfl) (zh (l:=[lp (body Tryz.f196) 0]) (by kernel_rfl) ⟨zjH,trivial⟩) (sg:=⟨[.pure],[]⟩) (A:=zgs) (res:=zfP) (W:=fun x=>zgt x.1) (z:=default)
def zjr:Cx ty:=mkCx base 9 [(141,zfH),(196,zft)] [] [] [] [] []
def zfy (s:List Factor):Wy0 (Bool):=.bn (zdy s) fun r0=>.k (decide (r0≥0))
def zcW (s:List Factor):Bool×Bool:=(zfy s).fin default
def zeY (r:Bool):ARes ty:=⟨[.pure (.lit (.bool r))],[]⟩
def zfB:AL base (List Factor×Unit×Unit):=zf (zg (vSl 160)) (zf (zg (vFn 141 vNil)) aNil)
def zeK:Ab.Spec ty:=zl zfB fun x=>((zcW x.1).1,zeY (zcW x.1).2)
theorem ziJ:Sound Tryz.prog base 140 zeK:=
 zt (cx':=zjr) zD zo zB (zu ⟨zhu,zjw,trivial⟩) Tryz.call140 Tryz.func140 (c:=body Tryz.f140) (by kernel_rfl) (zh (l:=[]) (by kernel_rfl) trivial) (sg:=⟨[.pure],[]⟩) (A:=zfB) (res:=zeY) (W:=fun x=>zfy x.1) (z:=default)
def zvr:Cx ty:=mkCx base 12 [(140,zeK),(141,zfH)] [] [] [] [] []
def zo3 (t:Term):Wy0 (Bool):=.i (decide (Int.ofNat t.Factors.length>64)) (.k true) (.bn (zcW t.Factors) fun r0=>.k r0)
def zlA (t:Term):Bool×Bool:=(zo3 t).fin default
def znp (r:Bool):ARes ty:=⟨[.pure (.lit (.bool r))],[]⟩
def zoI:AL base (Term×Unit):=zf (zg (vAgg 152)) aNil
def zgZ:Ab.Spec ty:=zl zoI fun x=>((zlA x.1).1,znp (zlA x.1).2)
theorem ziA:Sound Tryz.prog base 139 zgZ:=
 zt (cx':=zvr) zD zo zB (zu ⟨ziJ,zhu,trivial⟩) Tryz.call139 Tryz.func139 (c:=body Tryz.f139) (by kernel_rfl) (zh (l:=[]) (by kernel_rfl) trivial) (sg:=⟨[.pure],[]⟩) (A:=zoI) (res:=znp) (W:=fun x=>zo3 x.1) (z:=default)
abbrev ttTslicesIndexFuncapiAnnotationapiTermwi0:=List Term×Unit×Int×Int×Unit
def zjK (s:List Term) (t7:Int) (t8:Int):Wy ttTslicesIndexFuncapiAnnotationapiTermwi0 (Unit) (Int⊕Unit):=.i (decide (t8<t7)) (.i (decide (0≤t8)&&decide (t8<Int.ofNat s.length)) (.bn (zlA (s.getD t8.toNat default)) fun r0=>.i (r0) (.k (.inl t8)) (.h (s,(),t7,(IntKind.i64.wrap (t8+1)),()) ())) .d) (.k (.inr ()))
def zcP (x:ttTslicesIndexFuncapiAnnotationapiTermwi0) (y:Unit):Wy ttTslicesIndexFuncapiAnnotationapiTermwi0 (Unit) (Int⊕Unit):=zjK x.1 x.2.2.1 x.2.2.2.1
def zjF (n:Nat) (s:List Term) (t7:Int) (t8:Int):Bool×(Int⊕Unit):=zY (zcP) (.inl default) n (s,(),t7,t8,()) ()
def zfC (r:Int⊕Unit):LTree ty:=.ite (isL r) (.done .ret [.lit (.int .i64 (getL r))] []) (.done (.exit 0) [] [])
def zfO:LL ty ttTslicesIndexFuncapiAnnotationapiTermwi0:=za (lSl 152) (za (lFn 139 (zG)) (za (lInt .i64) (za (lInt .i64) zG)))
def zfW:BL ty (Unit):=bNil
def zfD (x:ttTslicesIndexFuncapiAnnotationapiTermwi0) (y:Unit):Nat:=(x.1.length+Int.toNat x.2.2.1+Int.toNat x.2.2.2.1+1000)
def zfY:Cx ty:=mkCx base 19 [(139,zgZ)] [] [(2,[(0,.keep),(1,.keep),(7,.keep),(8,.keep)])] [(2,1,[]),(2,0,[(4,.keep)])] [(2,spW zfO zfW (zcP) (.inl default) zfC zfD)] []
theorem zjD:zX zfY (lp (body Tryz.f195) 0):=zN (id:=2) (V:=zfO) (B:=zfW) (W:=zcP) (z:=.inl default) (tr:=zfC) (m:=zfD)
def zf9 (s:List Term):Wy0 (Int):=.bn (zjF (s.length+(Int.ofNat s.length).toNat +Int.toNat 0+1000) s (Int.ofNat s.length) 0) fun r2=>.i (isL r2) (.k (getL r2)) (.k (-1:Int))
def zdg (s:List Term):Bool×Int:=(zf9 s).fin default
def zfv (r:Int):ARes ty:=⟨[.pure (.lit (.int .i64 r))],[]⟩
def zgl:AL base (List Term×Unit×Unit):=zf (zg (vSl 152)) (zf (zg (vFn 139 vNil)) aNil)
def zfo:Ab.Spec ty:=zl zgl fun x=>((zdg x.1).1,zfv (zdg x.1).2)
theorem zjh:Sound Tryz.prog base 195 zfo:=
 zt (cx':=zfY) zD zo zB (zu ⟨ziA,trivial⟩) Tryz.call195 Tryz.func195 (c:=body Tryz.f195) (by kernel_rfl) (zh (l:=[lp (body Tryz.f195) 0]) (by kernel_rfl) ⟨zjD,trivial⟩) (sg:=⟨[.pure],[]⟩) (A:=zgl) (res:=zfv) (W:=fun x=>zf9 x.1) (z:=default)
def zjj:Cx ty:=mkCx base 9 [(139,zgZ),(195,zfo)] [] [] [] [] []
def zfg (s:List Term):Wy0 (Bool):=.bn (zdg s) fun r0=>.k (decide (r0≥0))
def zcQ (s:List Term):Bool×Bool:=(zfg s).fin default
def zeP (r:Bool):ARes ty:=⟨[.pure (.lit (.bool r))],[]⟩
def zfd:AL base (List Term×Unit×Unit):=zf (zg (vSl 152)) (zf (zg (vFn 139 vNil)) aNil)
def zeq:Ab.Spec ty:=zl zfd fun x=>((zcQ x.1).1,zeP (zcQ x.1).2)
theorem ziE:Sound Tryz.prog base 138 zeq:=
 zt (cx':=zjj) zD zo zB (zu ⟨ziA,zjh,trivial⟩) Tryz.call138 Tryz.func138 (c:=body Tryz.f138) (by kernel_rfl) (zh (l:=[]) (by kernel_rfl) trivial) (sg:=⟨[.pure],[]⟩) (A:=zfd) (res:=zeP) (W:=fun x=>zfg x.1) (z:=default)
def zyA:Cx ty:=mkCx base 19 [(136,annotation_nesting_spec),(137,annotation_Size_spec),(138,zeq),(139,zgZ)] [] [] [] [] []
def zrE (a:List Term):Wy0 (Bool):=.i (decide (Int.ofNat a.length>512)) (.k false) (.bn (zsN a) fun r2=>.i (decide (r2>8)) (.k false) (.bn (zwa a) fun r1=>.i (decide (r1>4096)) (.k false) (.bn (zcQ a) fun r0=>.k (!r0))))
def zot (a:List Term):Bool×Bool:=(zrE a).fin default
def zpz (r:Bool):ARes ty:=⟨[.pure (.lit (.bool r))],[]⟩
def zrA:AL base (List Term×Unit):=zf (zg (vSl 152)) aNil
def zpd:Ab.Spec ty:=zl zrA fun x=>((zot x.1).1,zpz (zot x.1).2)
theorem zvc:Sound Tryz.prog base 107 zpd:=
 zt (cx':=zyA) zD zo zB (zu ⟨zuq,zwU,ziE,ziA,trivial⟩) Tryz.call107 Tryz.func107 (c:=body Tryz.f107) (by kernel_rfl) (zh (l:=[]) (by kernel_rfl) trivial) (sg:=⟨[.pure],[]⟩) (A:=zrA) (res:=zpz) (W:=fun x=>zrE x.1) (z:=default)
end Go.Proofs.YtddkaehkimnklaaGreatDoor
end
