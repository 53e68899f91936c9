/- Texts of this claim, joined (the program, its functions in plain words, and what they compute). -/
import Derived.Test.YtddkaehkimnklaaGreatDoorGC1
import Derived.Test.YtddkaehkimnklaaGreatDoorGA3
set_option autoImplicit false
set_option linter.unusedVariables false
set_option linter.unusedSectionVars false
set_option linter.unusedSimpArgs false
set_option maxRecDepth 1000000
set_option maxHeartbeats 0
noncomputable section
namespace Go.Proofs.YtddkaehkimnklaaGreatDoor
open Go Go.Ab
abbrev ttTstatisticsFormat0:=Unit×Unit×Unit×ByteArray×Unit×List ColumnStats×Int×Int×List Value×Int×Int×Unit
abbrev ttTstatisticsFormat1:=Stats×List ByteArray×ColumnStats×List ByteArray×Unit
abbrev ttTstatisticsFormat2:=ByteArray×List ColumnStats×Int×Int×Stats×List ByteArray×ColumnStats×List ByteArray
abbrev ttTstatisticsFormat3:=Unit×Unit×List ColumnStats×Int×Int×Unit
abbrev ttTstatisticsFormat4:=Stats×List ByteArray×Unit
def zyh (line:ByteArray) (t25:List ColumnStats) (t26:Int) (t27:Int) (t45:List Value) (t46:Int) (t47:Int) (s:Stats) (out_:List ByteArray) (c:ColumnStats) (l:List ByteArray):Wy ttTstatisticsFormat0 ttTstatisticsFormat1 ttTstatisticsFormat2:=.i (decide (t47<t46)) (.i (decide (0≤t47)&&decide (t47<Int.ofNat t45.length)) (.bn (zoy (t45.getD t47.toNat default)) fun r0=>.i (decide ((l.length+[r0].length)*16≤reach)) (.h ((),(),(),line,(),t25,t26,t27,t45,t46,(IntKind.i64.wrap (t47+1)),()) (s,out_,c,(l++[r0]),())) .d) .d) (.k (line,t25,t26,t27,s,out_,c,l))
def zli (x:ttTstatisticsFormat0) (y:ttTstatisticsFormat1):Wy ttTstatisticsFormat0 ttTstatisticsFormat1 ttTstatisticsFormat2:=zyh x.2.2.2.1 x.2.2.2.2.2.1 x.2.2.2.2.2.2.1 x.2.2.2.2.2.2.2.1 x.2.2.2.2.2.2.2.2.1 x.2.2.2.2.2.2.2.2.2.1 x.2.2.2.2.2.2.2.2.2.2.1 y.1 y.2.1 y.2.2.1 y.2.2.2.1
def zyz (n:Nat) (line:ByteArray) (t25:List ColumnStats) (t26:Int) (t27:Int) (t45:List Value) (t46:Int) (t47:Int) (s:Stats) (out_:List ByteArray) (c:ColumnStats) (l:List ByteArray):Bool×ttTstatisticsFormat2:=zM (zli) default n ((),(),(),line,(),t25,t26,t27,t45,t46,t47,()) (s,out_,c,l,())
def zqi (r:ttTstatisticsFormat2):LTree ty:=.done (.exit 2) [.ptr 312 0,.own 313,.ptr 314 0,.lit (.string r.1),.own 315,.sl 43 r.2.1,.lit (.int .i64 r.2.2.1),.lit (.int .i64 r.2.2.2.1)] [.box (base.enc 30 r.2.2.2.2.1) false,.arr 9 r.2.2.2.2.2.1 false,.box (base.enc 43 r.2.2.2.2.2.2.1) false,.arr 9 r.2.2.2.2.2.2.2 false]
def zrg:LL ty ttTstatisticsFormat0:=za (zb2 312 0) (za (lOwn 313) (za (zb2 314 0) (za lStr (za (lOwn 315) (za (lSl 43) (za (lInt .i64) (za (lInt .i64) (za (lSl 40) (za (lInt .i64) (za (lInt .i64) zD))))))))))
def zrk:BL ty ttTstatisticsFormat1:=bBox (zdo (fun x=>(⟨x.1,x.2.1,x.2.2.1⟩:Stats)) (fun x=>(x.Table,x.Rows,x.Columns,())) (fun _=>rfl) (za (lInt .i64) (za (lInt .i64) (za (lSl 43) zD)))) false (bArr 9 false (bBox (zdo (fun x=>(⟨x.1,⟨x.2.1,x.2.2.1,x.2.2.2.1⟩,⟨x.2.2.2.2.1,x.2.2.2.2.2.1,x.2.2.2.2.2.2.1⟩,x.2.2.2.2.2.2.2.1⟩:ColumnStats)) (fun x=>(x.Distinct,x.Min.Kind,x.Min.Int,x.Min.Text,x.Max.Kind,x.Max.Int,x.Max.Text,x.Bounds,())) (fun _=>rfl) (za (lInt .i64) (za (lInt .i64) (za (lInt .i64) (za lStr (za (lInt .i64) (za (lInt .i64) (za lStr (za (lSl 40) zD))))))))) false (bArr 9 false (bNil))))
def zzb (t25:List ColumnStats) (t26:Int) (t27:Int) (s:Stats) (out_:List ByteArray):Wy ttTstatisticsFormat3 ttTstatisticsFormat4 (List ByteArray):=.i (decide (t27<t26)) (.i (decide (0≤t27)&&decide (t27<Int.ofNat t25.length)) (.bn (strconv_Itoa t27) fun r7=>.i (decide ((ByteArray.mk #[(99:UInt8),(111:UInt8),(108:UInt8),(117:UInt8),(109:UInt8),(110:UInt8),(32:UInt8)]).size+r7.size≤9223372036854775807)) (.i (decide ((ByteArray.mk #[(99:UInt8),(111:UInt8),(108:UInt8),(117:UInt8),(109:UInt8),(110:UInt8),(32:UInt8)]++r7).size+(ByteArray.mk #[(58:UInt8),(32:UInt8)]).size≤9223372036854775807)) (.bn (strconv_Itoa (t25.getD t27.toNat default).Distinct) fun r6=>.i (decide ((ByteArray.mk #[(99:UInt8),(111:UInt8),(108:UInt8),(117:UInt8),(109:UInt8),(110:UInt8),(32:UInt8)]++r7++ByteArray.mk #[(58:UInt8),(32:UInt8)]).size+r6.size≤9223372036854775807)) (.i (decide ((ByteArray.mk #[(99:UInt8),(111:UInt8),(108:UInt8),(117:UInt8),(109:UInt8),(110:UInt8),(32:UInt8)]++r7++ByteArray.mk #[(58:UInt8),(32:UInt8)]++r6).size+(ByteArray.mk #[(32:UInt8),(100:UInt8),(105:UInt8),(115:UInt8),(116:UInt8),(105:UInt8),(110:UInt8),(99:UInt8),(116:UInt8)]).size≤9223372036854775807)) (.i (decide (s.Rows>0)) (.bn (zyz ((ByteArray.mk #[(99:UInt8),(111:UInt8),(108:UInt8),(117:UInt8),(109:UInt8),(110:UInt8),(32:UInt8)]++r7++ByteArray.mk #[(58:UInt8),(32:UInt8)]++r6++ByteArray.mk #[(32:UInt8),(100:UInt8),(105:UInt8),(115:UInt8),(116:UInt8),(105:UInt8),(110:UInt8),(99:UInt8),(116:UInt8)]).size+t25.length+t26.toNat +t27.toNat +(t25.getD t27.toNat default).Bounds.length+(Int.ofNat (t25.getD t27.toNat default).Bounds.length).toNat +Int.toNat 0+s.Columns.length+out_.length+(t25.getD t27.toNat default).Bounds.length+0+1000) (ByteArray.mk #[(99:UInt8),(111:UInt8),(108:UInt8),(117:UInt8),(109:UInt8),(110:UInt8),(32:UInt8)]++r7++ByteArray.mk #[(58:UInt8),(32:UInt8)]++r6++ByteArray.mk #[(32:UInt8),(100:UInt8),(105:UInt8),(115:UInt8),(116:UInt8),(105:UInt8),(110:UInt8),(99:UInt8),(116:UInt8)]) t25 t26 t27 (t25.getD t27.toNat default).Bounds (Int.ofNat (t25.getD t27.toNat default).Bounds.length) 0 s out_ (t25.getD t27.toNat default) []) fun r5=>.bn (zoy r5.2.2.2.2.2.2.1.Min) fun r4=>.i (decide ((ByteArray.mk #[(44:UInt8),(32:UInt8)]).size+r4.size≤9223372036854775807)) (.i (decide ((ByteArray.mk #[(44:UInt8),(32:UInt8)]++r4).size+(ByteArray.mk #[(32:UInt8),(116:UInt8),(111:UInt8),(32:UInt8)]).size≤9223372036854775807)) (.bn (zoy r5.2.2.2.2.2.2.1.Max) fun r3=>.i (decide ((ByteArray.mk #[(44:UInt8),(32:UInt8)]++r4++ByteArray.mk #[(32:UInt8),(116:UInt8),(111:UInt8),(32:UInt8)]).size+r3.size≤9223372036854775807)) (.i (decide ((ByteArray.mk #[(44:UInt8),(32:UInt8)]++r4++ByteArray.mk #[(32:UInt8),(116:UInt8),(111:UInt8),(32:UInt8)]++r3).size+(ByteArray.mk #[(44:UInt8),(32:UInt8),(98:UInt8),(111:UInt8),(117:UInt8),(110:UInt8),(100:UInt8),(97:UInt8),(114:UInt8),(105:UInt8),(101:UInt8),(115:UInt8),(32:UInt8)]).size≤9223372036854775807)) (.bn (strings_Join r5.2.2.2.2.2.2.2 (ByteArray.mk #[(44:UInt8),(32:UInt8)])) fun r2=>.i (decide ((ByteArray.mk #[(44:UInt8),(32:UInt8)]++r4++ByteArray.mk #[(32:UInt8),(116:UInt8),(111:UInt8),(32:UInt8)]++r3++ByteArray.mk #[(44:UInt8),(32:UInt8),(98:UInt8),(111:UInt8),(117:UInt8),(110:UInt8),(100:UInt8),(97:UInt8),(114:UInt8),(105:UInt8),(101:UInt8),(115:UInt8),(32:UInt8)]).size+r2.size≤9223372036854775807)) (.i (decide (r5.1.size+(ByteArray.mk #[(44:UInt8),(32:UInt8)]++r4++ByteArray.mk #[(32:UInt8),(116:UInt8),(111:UInt8),(32:UInt8)]++r3++ByteArray.mk #[(44:UInt8),(32:UInt8),(98:UInt8),(111:UInt8),(117:UInt8),(110:UInt8),(100:UInt8),(97:UInt8),(114:UInt8),(105:UInt8),(101:UInt8),(115:UInt8),(32:UInt8)]++r2).size≤9223372036854775807)) (.i (decide ((r5.2.2.2.2.2.1.length+[r5.1++(ByteArray.mk #[(44:UInt8),(32:UInt8)]++r4++ByteArray.mk #[(32:UInt8),(116:UInt8),(111:UInt8),(32:UInt8)]++r3++ByteArray.mk #[(44:UInt8),(32:UInt8),(98:UInt8),(111:UInt8),(117:UInt8),(110:UInt8),(100:UInt8),(97:UInt8),(114:UInt8),(105:UInt8),(101:UInt8),(115:UInt8),(32:UInt8)]++r2)].length)*16≤reach)) (.h ((),(),(r5.2.1),(r5.2.2.1),(IntKind.i64.wrap (r5.2.2.2.1+1)),()) ((r5.2.2.2.2.1),(r5.2.2.2.2.2.1++[r5.1++(ByteArray.mk #[(44:UInt8),(32:UInt8)]++r4++ByteArray.mk #[(32:UInt8),(116:UInt8),(111:UInt8),(32:UInt8)]++r3++ByteArray.mk #[(44:UInt8),(32:UInt8),(98:UInt8),(111:UInt8),(117:UInt8),(110:UInt8),(100:UInt8),(97:UInt8),(114:UInt8),(105:UInt8),(101:UInt8),(115:UInt8),(32:UInt8)]++r2)]),())) .d) .d) .d) .d) .d) .d) .d) (.i (decide ((out_.length+[ByteArray.mk #[(99:UInt8),(111:UInt8),(108:UInt8),(117:UInt8),(109:UInt8),(110:UInt8),(32:UInt8)]++r7++ByteArray.mk #[(58:UInt8),(32:UInt8)]++r6++ByteArray.mk #[(32:UInt8),(100:UInt8),(105:UInt8),(115:UInt8),(116:UInt8),(105:UInt8),(110:UInt8),(99:UInt8),(116:UInt8)]].length)*16≤reach)) (.h ((),(),t25,t26,(IntKind.i64.wrap (t27+1)),()) (s,(out_++[ByteArray.mk #[(99:UInt8),(111:UInt8),(108:UInt8),(117:UInt8),(109:UInt8),(110:UInt8),(32:UInt8)]++r7++ByteArray.mk #[(58:UInt8),(32:UInt8)]++r6++ByteArray.mk #[(32:UInt8),(100:UInt8),(105:UInt8),(115:UInt8),(116:UInt8),(105:UInt8),(110:UInt8),(99:UInt8),(116:UInt8)]]),())) .d)) .d) .d) .d) .d) .d) (.k out_)
def zmi (x:ttTstatisticsFormat3) (y:ttTstatisticsFormat4):Wy ttTstatisticsFormat3 ttTstatisticsFormat4 (List ByteArray):=zzb x.2.2.1 x.2.2.2.1 x.2.2.2.2.1 y.1 y.2.1
def zy4 (n:Nat) (t25:List ColumnStats) (t26:Int) (t27:Int) (s:Stats) (out_:List ByteArray):Bool×List ByteArray:=zM (zmi) default n ((),(),t25,t26,t27,()) (s,out_,())
def zqI (r:List ByteArray):LTree ty:=.done (.exit 0) [.own 312] [.arr 9 r false]
def zr7:LL ty ttTstatisticsFormat3:=za (zb2 312 0) (za (lOwn 313) (za (lSl 43) (za (lInt .i64) (za (lInt .i64) zD))))
def zrS:BL ty ttTstatisticsFormat4:=bBox (zdo (fun x=>(⟨x.1,x.2.1,x.2.2.1⟩:Stats)) (fun x=>(x.Table,x.Rows,x.Columns,())) (fun _=>rfl) (za (lInt .i64) (za (lInt .i64) (za (lSl 43) zD)))) false (bArr 9 false (bNil))
def zpR (x:ttTstatisticsFormat0) (y:ttTstatisticsFormat1):Nat:=(x.2.2.2.1.size+x.2.2.2.2.2.1.length+Int.toNat x.2.2.2.2.2.2.1+Int.toNat x.2.2.2.2.2.2.2.1+x.2.2.2.2.2.2.2.2.1.length+Int.toNat x.2.2.2.2.2.2.2.2.2.1+Int.toNat x.2.2.2.2.2.2.2.2.2.2.1+y.1.Columns.length+y.2.1.length+y.2.2.1.Bounds.length+y.2.2.2.1.length+1000)
def zqE (x:ttTstatisticsFormat3) (y:ttTstatisticsFormat4):Nat:=(x.2.2.1.length+Int.toNat x.2.2.2.1+Int.toNat x.2.2.2.2.1+y.1.Columns.length+y.2.1.length+1000)
def zml:Cx ty:=mkCx base0 78 [(15,zis),(52,strconv_Itoa_spec),(53,zuL),(54,strings_Join_spec)] [] [(5,[(1,.keep),(3,.keep),(25,.keep),(26,.keep),(27,.keep)]),(11,[(1,.keep),(3,.keep),(5,.keep),(6,.keep),(7,.own 9),(25,.keep),(26,.keep),(27,.keep),(45,.keep),(46,.keep),(47,.keep)])] [(5,1,[(3,.keep)]),(11,3,[(1,.keep),(3,.keep),(5,.keep),(6,.keep),(7,.keep),(25,.keep),(26,.keep),(27,.keep)])] [(11,spW zrg zrk (zli) default zqi zpR),(5,spW zr7 zrS (zmi) default zqI zqE)] []
theorem zxh:zU zml (lp (body Tryz.f24) 1):=zL (id:=11) (V:=zrg) (B:=zrk) (W:=zli) (z:=default) (tr:=zqi) (m:=zpR)
theorem zyG:zU zml (lp (body Tryz.f24) 0):=zL (id:=5) (V:=zr7) (B:=zrS) (W:=zmi) (z:=default) (tr:=zqI) (m:=zqE)
def zsN (s:Stats):Wy0 (List ByteArray):=.bn (zmg s) fun r17=>.i (!r17) (.k []) (.bn (strconv_Itoa s.Table) fun r16=>.i (decide ((ByteArray.mk #[(116:UInt8),(97:UInt8),(98:UInt8),(108:UInt8),(101:UInt8),(32:UInt8),(116:UInt8)]).size+r16.size≤9223372036854775807)) (.i (decide ((ByteArray.mk #[(116:UInt8),(97:UInt8),(98:UInt8),(108:UInt8),(101:UInt8),(32:UInt8),(116:UInt8)]++r16).size+(ByteArray.mk #[(58:UInt8),(32:UInt8)]).size≤9223372036854775807)) (.bn (strconv_Itoa s.Rows) fun r15=>.i (decide ((ByteArray.mk #[(116:UInt8),(97:UInt8),(98:UInt8),(108:UInt8),(101:UInt8),(32:UInt8),(116:UInt8)]++r16++ByteArray.mk #[(58:UInt8),(32:UInt8)]).size+r15.size≤9223372036854775807)) (.i (decide ((ByteArray.mk #[(116:UInt8),(97:UInt8),(98:UInt8),(108:UInt8),(101:UInt8),(32:UInt8),(116:UInt8)]++r16++ByteArray.mk #[(58:UInt8),(32:UInt8)]++r15).size+(ByteArray.mk #[(32:UInt8),(114:UInt8),(111:UInt8),(119:UInt8),(115:UInt8)]).size≤9223372036854775807)) (.bn (zy4 (s.Columns.length+(Int.ofNat s.Columns.length).toNat +Int.toNat 0+s.Columns.length+[ByteArray.mk #[(116:UInt8),(97:UInt8),(98:UInt8),(108:UInt8),(101:UInt8),(32:UInt8),(116:UInt8)]++r16++ByteArray.mk #[(58:UInt8),(32:UInt8)]++r15++ByteArray.mk #[(32:UInt8),(114:UInt8),(111:UInt8),(119:UInt8),(115:UInt8)]].length+1000) s.Columns (Int.ofNat s.Columns.length) 0 s [ByteArray.mk #[(116:UInt8),(97:UInt8),(98:UInt8),(108:UInt8),(101:UInt8),(32:UInt8),(116:UInt8)]++r16++ByteArray.mk #[(58:UInt8),(32:UInt8)]++r15++ByteArray.mk #[(32:UInt8),(114:UInt8),(111:UInt8),(119:UInt8),(115:UInt8)]]) fun r14=>.k r14) .d) .d) .d) .d)
def zu0 (s:Stats):Bool×List ByteArray:=(zsN s).fin default
def zqs (r:List ByteArray):ARes ty:=⟨[.own 9 r],[]⟩
def zsL:AL base0 (Stats×Unit):=zf (zg (vAgg 30)) aNil
def zpV:Ab.Spec ty:=zn zsL fun x=>((zu0 x.1).1,zqs (zu0 x.1).2)
theorem zwq:Sound Tryz.prog base0 24 zpV:=
 zx (cx':=zml) zH zsR zF (zA ⟨zkq.nodr,zA1.nodr,zAp,zAy,trivial⟩) Tryz.call24 Tryz.func24 (c:=body Tryz.f24) (by kernel_rfl) (zi (l:=[lp (body Tryz.f24) 0,lp (body Tryz.f24) 1]) (by kernel_rfl) ⟨zyG,zxh,trivial⟩) (sg:=⟨[.own 9],[]⟩) (A:=zsL) (res:=zqs) (W:=fun x=>zsN x.1) (z:=default)
def zpO (r:Int):ARes ty:=⟨[.pure (.lit (.int .i64 r))],[]⟩
def zsc:AL base (List Term×List Term×Unit):=zf (zg (vSl 152)) (zf (zg (vSl 152)) aNil)
def zcx (F:List Term→List Term→Bool×Int):Ab.Spec ty:=zn zsc fun x=>((F x.1 x.2.1).1,zpO (F x.1 x.2.1).2)
def znw (r:Int):ARes ty:=⟨[.pure (.lit (.int .i64 r))],[]⟩
def zo1:AL base (Term×Term×Unit):=zf (zg (vAgg 152)) (zf (zg (vAgg 152)) aNil)
def zdZ (F:Term→Term→Bool×Int):Ab.Spec ty:=zn zo1 fun x=>((F x.1 x.2.1).1,znw (F x.1 x.2.1).2)
def zlF (r:Int):ARes ty:=⟨[.pure (.lit (.int .i64 r))],[]⟩
def znj:AL base (Term×Term×Unit):=zf (zg (vAgg 152)) (zf (zg (vAgg 152)) aNil)
def zeI (F:Term→Term→Bool×Int):Ab.Spec ty:=zn znj fun x=>((F x.1 x.2.1).1,zlF (F x.1 x.2.1).2)
def zkD (r:Int):ARes ty:=⟨[.pure (.lit (.int .i64 r))],[]⟩
def zlD:AL base (Factor×Factor×Unit):=zf (zg (vAgg 160)) (zf (zg (vAgg 160)) aNil)
def zcP (F:Factor→Factor→Bool×Int):Ab.Spec ty:=zn zlD fun x=>((F x.1 x.2.1).1,zkD (F x.1 x.2.1).2)
def zlY (r:Int):ARes ty:=⟨[.pure (.lit (.int .i64 r))],[]⟩
def znn:AL base (Atom×Atom×Unit):=zf (zg (vAgg 158)) (zf (zg (vAgg 158)) aNil)
def zeP (F:Atom→Atom→Bool×Int):Ab.Spec ty:=zn znn fun x=>((F x.1 x.2.1).1,zlY (F x.1 x.2.1).2)
def zlT (r:Int):ARes ty:=⟨[.pure (.lit (.int .i64 r))],[]⟩
def znS:AL base (Weighted×Weighted×Unit):=zf (zg (vAgg 182)) (zf (zg (vAgg 182)) aNil)
def zcy (F:Weighted→Weighted→Bool×Int):Ab.Spec ty:=zn znS fun x=>((F x.1 x.2.1).1,zlT (F x.1 x.2.1).2)
def zci (r:Int):ARes ty:=⟨[.pure (.lit (.int .i64 r))],[]⟩
def zcw:AL base (List Term×List Term×Unit×Unit):=zf (zg (vSl 152)) (zf (zg (vSl 152)) (zf (zg (vFn 198 vNil)) aNil))
def zZ (F:List Term→List Term→Bool×Int):Ab.Spec ty:=zn zcw fun x=>((F x.1 x.2.1).1,zci (F x.1 x.2.1).2)
def zcr (r:Int):ARes ty:=⟨[.pure (.lit (.int .i64 r))],[]⟩
def zcB:AL base (List Factor×List Factor×Unit×Unit):=zf (zg (vSl 160)) (zf (zg (vSl 160)) (zf (zg (vFn 143 vNil)) aNil))
def z8 (F:List Factor→List Factor→Bool×Int):Ab.Spec ty:=zn zcB fun x=>((F x.1 x.2.1).1,zcr (F x.1 x.2.1).2)
def zbB (r:Int):ARes ty:=⟨[.pure (.lit (.int .i64 r))],[]⟩
def zbG:AL base (List (List Term)×List (List Term)×Unit×Unit):=zf (zg (vSl 36)) (zf (zg (vSl 36)) (zf (zg (vFn 145 vNil)) aNil))
def zP (F:List (List Term)→List (List Term)→Bool×Int):Ab.Spec ty:=zn zbG fun x=>((F x.1 x.2.1).1,zbB (F x.1 x.2.1).2)
def zbS (r:Int):ARes ty:=⟨[.pure (.lit (.int .i64 r))],[]⟩
def zbZ:AL base (List Weighted×List Weighted×Unit×Unit):=zf (zg (vSl 182)) (zf (zg (vSl 182)) (zf (zg (vFn 147 vNil)) aNil))
def zX (F:List Weighted→List Weighted→Bool×Int):Ab.Spec ty:=zn zbZ fun x=>((F x.1 x.2.1).1,zbS (F x.1 x.2.1).2)
def zwu (zw:List Term→List Term→Bool×Int) (zy:Term→Term→Bool×Int):Cx ty:=mkCx base 8 [(197,(zZ zw)),(198,(zdZ zy))] [] [] [] [] []
def zp0 (zw:List Term→List Term→Bool×Int) (zy:Term→Term→Bool×Int) (a:List Term) (b:List Term):Wy0 (Int):=.bn (zw a b) fun r0=>.k r0
def zrJ (zw:List Term→List Term→Bool×Int) (zy:Term→Term→Bool×Int) (a:List Term) (b:List Term):Bool×Int:=(zp0 zw zy a b).fin default
theorem zuv (zw:List Term→List Term→Bool×Int) (zy:Term→Term→Bool×Int) (zfK:Sound Tryz.prog base 197 (zZ zw)) (zjd:Sound Tryz.prog base 198 (zdZ zy)):Sound Tryz.prog base 145 (zcx (zrJ zw zy)):=
 zx (cx':=(zwu zw zy)) zH zo zF (zA ⟨zfK,zjd,trivial⟩) Tryz.call145 Tryz.func145 (c:=body Tryz.f145) (by kernel_rfl) (zi (l:=[]) (by kernel_rfl) trivial) (sg:=⟨[.pure],[]⟩) (A:=zsc) (res:=zpO) (W:=fun x=>zp0 zw zy x.1 x.2.1) (z:=default)
def zuk (zbo:Term→Term→Bool×Int):Cx ty:=mkCx base 15 [(108,(zeI zbo)),(121,zij),(123,zkz)] [] [] [] [] []
def znA (zbo:Term→Term→Bool×Int) (x_:Term) (y_:Term):Wy0 (Int):=.bn (zbo x_ y_) fun r2=>.bn (zhp x_.Coeff y_.Coeff) fun r1=>.bn (zjh [r2,r1]) fun r0=>.k r0
def zo3 (zbo:Term→Term→Bool×Int) (x_:Term) (y_:Term):Bool×Int:=(znA zbo x_ y_).fin default
theorem zsp (zbo:Term→Term→Bool×Int) (ztx:Sound Tryz.prog base 108 (zeI zbo)):Sound Tryz.prog base 198 (zdZ (zo3 zbo)):=
 zx (cx':=(zuk zbo)) zH zo zF (zA ⟨ztx,zjE,zpb,trivial⟩) Tryz.call198 Tryz.func198 (c:=body Tryz.f198) (by kernel_rfl) (zi (l:=[]) (by kernel_rfl) trivial) (sg:=⟨[.pure],[]⟩) (A:=zo1) (res:=znw) (W:=fun x=>znA zbo x.1 x.2.1) (z:=default)
def zsZ (zk:List (List Term)→List (List Term)→Bool×Int) (zm:List Term→List Term→Bool×Int) (zq:List Weighted→List Weighted→Bool×Int) (zr:Weighted→Weighted→Bool×Int):Cx ty:=mkCx base 51 [(79,zb8),(121,zij),(122,ziY),(144,(zP zk)),(145,(zcx zm)),(146,(zX zq)),(147,(zcy zr))] [] [] [] [] []
def zlQ (zk:List (List Term)→List (List Term)→Bool×Int) (zm:List Term→List Term→Bool×Int) (zq:List Weighted→List Weighted→Bool×Int) (zr:Weighted→Weighted→Bool×Int) (a:Atom) (b:Atom):Wy0 (Int):=.bn (zc2 a.Kind b.Kind) fun r8=>.bn (zc2 a.Row.Table b.Row.Table) fun r7=>.bn (zc2 a.Row.Seq b.Row.Seq) fun r6=>.bn (zk a.Args b.Args) fun r5=>.bn (zc2 a.Func b.Func) fun r4=>.bn (zq a.Items b.Items) fun r3=>.bn (zc2 a.Op b.Op) fun r2=>.bn (zba a.Bound b.Bound) fun r1=>.bn (zjh [r8,r7,r6,r5,r4,r3,r2,r1]) fun r0=>.k r0
def znO (zk:List (List Term)→List (List Term)→Bool×Int) (zm:List Term→List Term→Bool×Int) (zq:List Weighted→List Weighted→Bool×Int) (zr:Weighted→Weighted→Bool×Int) (a:Atom) (b:Atom):Bool×Int:=(zlQ zk zm zq zr a b).fin default
theorem zro (zk:List (List Term)→List (List Term)→Bool×Int) (zm:List Term→List Term→Bool×Int) (zq:List Weighted→List Weighted→Bool×Int) (zr:Weighted→Weighted→Bool×Int) (zdA:Sound Tryz.prog base 144 (zP zk)) (zgq:Sound Tryz.prog base 145 (zcx zm)) (zez:Sound Tryz.prog base 146 (zX zq)) (zie:Sound Tryz.prog base 147 (zcy zr)):Sound Tryz.prog base 110 (zeP (znO zk zm zq zr)):=
 zx (cx':=(zsZ zk zm zq zr)) zH zo zF (zA ⟨zcl,zjE,zkR,zdA,zgq,zez,zie,trivial⟩) Tryz.call110 Tryz.func110 (c:=body Tryz.f110) (by kernel_rfl) (zi (l:=[]) (by kernel_rfl) trivial) (sg:=⟨[.pure],[]⟩) (A:=znn) (res:=zlY) (W:=fun x=>zlQ zk zm zq zr x.1 x.2.1) (z:=default)
def zrY (zbp:Atom→Atom→Bool×Int):Cx ty:=mkCx base 17 [(110,(zeP zbp)),(121,zij),(122,ziY)] [] [] [] [] []
def zkB (zbp:Atom→Atom→Bool×Int) (a:Factor) (b:Factor):Wy0 (Int):=.bn (zbp (Atom.mk a.Atom.Kind a.Atom.Row a.Atom.Args a.Atom.Func a.Atom.Items a.Atom.Op a.Atom.Bound) (Atom.mk b.Atom.Kind b.Atom.Row b.Atom.Args b.Atom.Func b.Atom.Items b.Atom.Op b.Atom.Bound)) fun r2=>.bn (zc2 a.Exp b.Exp) fun r1=>.bn (zjh [r2,r1]) fun r0=>.k r0
def zlO (zbp:Atom→Atom→Bool×Int) (a:Factor) (b:Factor):Bool×Int:=(zkB zbp a b).fin default
theorem zqe (zbp:Atom→Atom→Bool×Int) (zt6:Sound Tryz.prog base 110 (zeP zbp)):Sound Tryz.prog base 143 (zcP (zlO zbp)):=
 zx (cx':=(zrY zbp)) zH zo zF (zA ⟨zt6,zjE,zkR,trivial⟩) Tryz.call143 Tryz.func143 (c:=body Tryz.f143) (by kernel_rfl) (zi (l:=[]) (by kernel_rfl) trivial) (sg:=⟨[.pure],[]⟩) (A:=zlD) (res:=zkD) (W:=fun x=>zkB zbp x.1 x.2.1) (z:=default)
def zs2 (zm:List Term→List Term→Bool×Int):Cx ty:=mkCx base 17 [(79,zb8),(121,zij),(145,(zcx zm))] [] [] [] [] []
def zlI (zm:List Term→List Term→Bool×Int) (a:Weighted) (b:Weighted):Wy0 (Int):=.bn (zba a.Value b.Value) fun r2=>.bn (zm a.Ann b.Ann) fun r1=>.bn (zjh [r2,r1]) fun r0=>.k r0
def znV (zm:List Term→List Term→Bool×Int) (a:Weighted) (b:Weighted):Bool×Int:=(zlI zm a b).fin default
theorem zrl (zm:List Term→List Term→Bool×Int) (zgq:Sound Tryz.prog base 145 (zcx zm)):Sound Tryz.prog base 147 (zcy (znV zm)):=
 zx (cx':=(zs2 zm)) zH zo zF (zA ⟨zcl,zjE,zgq,trivial⟩) Tryz.call147 Tryz.func147 (c:=body Tryz.f147) (by kernel_rfl) (zi (l:=[]) (by kernel_rfl) trivial) (sg:=⟨[.pure],[]⟩) (A:=znS) (res:=zlT) (W:=fun x=>zlI zm x.1 x.2.1) (z:=default)
def ztd (zB:List Factor→List Factor→Bool×Int) (zl:Factor→Factor→Bool×Int):Cx ty:=mkCx base 10 [(142,(z8 zB)),(143,(zcP zl))] [] [] [] [] []
def zlL (zB:List Factor→List Factor→Bool×Int) (zl:Factor→Factor→Bool×Int) (a:Term) (b:Term):Wy0 (Int):=.bn (zB a.Factors b.Factors) fun r0=>.k r0
def zno (zB:List Factor→List Factor→Bool×Int) (zl:Factor→Factor→Bool×Int) (a:Term) (b:Term):Bool×Int:=(zlL zB zl a b).fin default
theorem zrm (zB:List Factor→List Factor→Bool×Int) (zl:Factor→Factor→Bool×Int) (zf3:Sound Tryz.prog base 142 (z8 zB)) (zhy:Sound Tryz.prog base 143 (zcP zl)):Sound Tryz.prog base 108 (zeI (zno zB zl)):=
 zx (cx':=(ztd zB zl)) zH zo zF (zA ⟨zf3,zhy,trivial⟩) Tryz.call108 Tryz.func108 (c:=body Tryz.f108) (by kernel_rfl) (zi (l:=[]) (by kernel_rfl) trivial) (sg:=⟨[.pure],[]⟩) (A:=znj) (res:=zlF) (W:=fun x=>zlL zB zl x.1 x.2.1) (z:=default)
abbrev ttTslicesCompareFuncLapiAnnotationLapiAnnotationapiAnnotationapiAnnotation0:=List (List Term)×List (List Term)×Unit×List (List Term)×Int×Int×Unit
abbrev ttTslicesCompareFuncLapiAnnotationLapiAnnotationapiAnnotationapiAnnotation1:=Int⊕(List (List Term)×List (List Term))
def zdq (zm:List Term→List Term→Bool×Int) (s1:List (List Term)) (s2:List (List Term)) (t11:List (List Term)) (t12:Int) (t13:Int):Wy ttTslicesCompareFuncLapiAnnotationLapiAnnotationapiAnnotationapiAnnotation0 (Unit) ttTslicesCompareFuncLapiAnnotationLapiAnnotationapiAnnotationapiAnnotation1:=.i (decide (t13<t12)) (.i (decide (0≤t13)&&decide (t13<Int.ofNat t11.length)) (.i (decide (t13≥Int.ofNat s2.length)) (.k (.inl 1)) (.i (decide (0≤t13)&&decide (t13<Int.ofNat s2.length)) (.bn (zm (t11.getD t13.toNat default) (s2.getD t13.toNat default)) fun r0=>.i (r0 != 0) (.k (.inl (r0))) (.h (s1,s2,(),t11,t12,(IntKind.i64.wrap (t13+1)),()) ())) .d)) .d) (.k (.inr (s1,s2)))
def z6 (zm:List Term→List Term→Bool×Int) (x:ttTslicesCompareFuncLapiAnnotationLapiAnnotationapiAnnotationapiAnnotation0) (y:Unit):Wy ttTslicesCompareFuncLapiAnnotationLapiAnnotationapiAnnotationapiAnnotation0 (Unit) ttTslicesCompareFuncLapiAnnotationLapiAnnotationapiAnnotationapiAnnotation1:=zdq zm x.1 x.2.1 x.2.2.2.1 x.2.2.2.2.1 x.2.2.2.2.2.1
def zdp (zm:List Term→List Term→Bool×Int) (n:Nat) (s1:List (List Term)) (s2:List (List Term)) (t11:List (List Term)) (t12:Int) (t13:Int):Bool×ttTslicesCompareFuncLapiAnnotationLapiAnnotationapiAnnotationapiAnnotation1:=zM (z6 zm) (.inl default) n (s1,s2,(),t11,t12,t13,()) ()
def zbu (r:ttTslicesCompareFuncLapiAnnotationLapiAnnotationapiAnnotationapiAnnotation1):LTree ty:=.ite (isL r) (.done .ret [.lit (.int .i64 (getL r))] []) (.done (.exit 0) [.sl 36 (getR r).1,.sl 36 (getR r).2] [])
def zbA:LL ty ttTslicesCompareFuncLapiAnnotationLapiAnnotationapiAnnotationapiAnnotation0:=za (lSl 36) (za (lSl 36) (za (lFn 145 (zD)) (za (lSl 36) (za (lInt .i64) (za (lInt .i64) zD)))))
def zbx:BL ty (Unit):=bNil
def zbv (x:ttTslicesCompareFuncLapiAnnotationLapiAnnotationapiAnnotationapiAnnotation0) (y:Unit):Nat:=(x.1.length+x.2.1.length+x.2.2.2.1.length+Int.toNat x.2.2.2.2.1+Int.toNat x.2.2.2.2.2.1+1000)
def zbz (zm:List Term→List Term→Bool×Int):Cx ty:=mkCx base 39 [(145,(zcx zm))] [] [(2,[(0,.keep),(1,.keep),(2,.keep),(11,.keep),(12,.keep),(13,.keep)])] [(2,1,[(0,.keep),(1,.keep)]),(2,0,[(6,.keep)])] [(2,spW zbA zbx (z6 zm) (.inl default) zbu zbv)] []
theorem zdh (zm:List Term→List Term→Bool×Int):zU (zbz zm) (lp (body Tryz.f144) 0):=zL (id:=2) (V:=zbA) (B:=zbx) (W:=z6 zm) (z:=.inl default) (tr:=zbu) (m:=zbv)
def zbC (zm:List Term→List Term→Bool×Int) (s1:List (List Term)) (s2:List (List Term)):Wy0 (Int):=.bn (zdp zm (s1.length+s2.length+s1.length+(Int.ofNat s1.length).toNat +Int.toNat 0+1000) s1 s2 s1 (Int.ofNat s1.length) 0) fun r2=>.i (isL r2) (.k (getL r2)) (.i (decide (Int.ofNat (getR r2).1.length<Int.ofNat (getR r2).2.length)) (.k (-1:Int)) (.k 0))
def zbF (zm:List Term→List Term→Bool×Int) (s1:List (List Term)) (s2:List (List Term)):Bool×Int:=(zbC zm s1 s2).fin default
theorem zda (zm:List Term→List Term→Bool×Int) (zgq:Sound Tryz.prog base 145 (zcx zm)):Sound Tryz.prog base 144 (zP (zbF zm)):=
 zx (cx':=(zbz zm)) zH zo zF (zA ⟨zgq,trivial⟩) Tryz.call144 Tryz.func144 (c:=body Tryz.f144) (by kernel_rfl) (zi (l:=[lp (body Tryz.f144) 0]) (by kernel_rfl) ⟨zdh zm,trivial⟩) (sg:=⟨[.pure],[]⟩) (A:=zbG) (res:=zbB) (W:=fun x=>zbC zm x.1 x.2.1) (z:=default)
abbrev ttTslicesCompareFuncLapiFactorLapiFactorapiFactorapiFactor0:=List Factor×List Factor×Unit×List Factor×Int×Int×Unit
abbrev ttTslicesCompareFuncLapiFactorLapiFactorapiFactorapiFactor1:=Int⊕(List Factor×List Factor)
def zfV (zl:Factor→Factor→Bool×Int) (s1:List Factor) (s2:List Factor) (t11:List Factor) (t12:Int) (t13:Int):Wy ttTslicesCompareFuncLapiFactorLapiFactorapiFactorapiFactor0 (Unit) ttTslicesCompareFuncLapiFactorLapiFactorapiFactorapiFactor1:=.i (decide (t13<t12)) (.i (decide (0≤t13)&&decide (t13<Int.ofNat t11.length)) (.i (decide (t13≥Int.ofNat s2.length)) (.k (.inl 1)) (.i (decide (0≤t13)&&decide (t13<Int.ofNat s2.length)) (.bn (zl (FactorOf.mk (Atom.mk (t11.getD t13.toNat default).Atom.Kind (t11.getD t13.toNat default).Atom.Row (t11.getD t13.toNat default).Atom.Args (t11.getD t13.toNat default).Atom.Func (t11.getD t13.toNat default).Atom.Items (t11.getD t13.toNat default).Atom.Op (t11.getD t13.toNat default).Atom.Bound) (t11.getD t13.toNat default).Exp) (FactorOf.mk (Atom.mk (s2.getD t13.toNat default).Atom.Kind (s2.getD t13.toNat default).Atom.Row (s2.getD t13.toNat default).Atom.Args (s2.getD t13.toNat default).Atom.Func (s2.getD t13.toNat default).Atom.Items (s2.getD t13.toNat default).Atom.Op (s2.getD t13.toNat default).Atom.Bound) (s2.getD t13.toNat default).Exp)) fun r0=>.i (r0 != 0) (.k (.inl (r0))) (.h (s1,s2,(),t11,t12,(IntKind.i64.wrap (t13+1)),()) ())) .d)) .d) (.k (.inr (s1,s2)))
def zbl (zl:Factor→Factor→Bool×Int) (x:ttTslicesCompareFuncLapiFactorLapiFactorapiFactorapiFactor0) (y:Unit):Wy ttTslicesCompareFuncLapiFactorLapiFactorapiFactorapiFactor0 (Unit) ttTslicesCompareFuncLapiFactorLapiFactorapiFactorapiFactor1:=zfV zl x.1 x.2.1 x.2.2.2.1 x.2.2.2.2.1 x.2.2.2.2.2.1
def zf0 (zl:Factor→Factor→Bool×Int) (n:Nat) (s1:List Factor) (s2:List Factor) (t11:List Factor) (t12:Int) (t13:Int):Bool×ttTslicesCompareFuncLapiFactorLapiFactorapiFactorapiFactor1:=zM (zbl zl) (.inl default) n (s1,s2,(),t11,t12,t13,()) ()
def zcg (r:ttTslicesCompareFuncLapiFactorLapiFactorapiFactorapiFactor1):LTree ty:=.ite (isL r) (.done .ret [.lit (.int .i64 (getL r))] []) (.done (.exit 0) [.sl 160 (getR r).1,.sl 160 (getR r).2] [])
def zco:LL ty ttTslicesCompareFuncLapiFactorLapiFactorapiFactorapiFactor0:=za (lSl 160) (za (lSl 160) (za (lFn 143 (zD)) (za (lSl 160) (za (lInt .i64) (za (lInt .i64) zD)))))
def zcn:BL ty (Unit):=bNil
def zce (x:ttTslicesCompareFuncLapiFactorLapiFactorapiFactorapiFactor0) (y:Unit):Nat:=(x.1.length+x.2.1.length+x.2.2.2.1.length+Int.toNat x.2.2.2.2.1+Int.toNat x.2.2.2.2.2.1+1000)
def zcp (zl:Factor→Factor→Bool×Int):Cx ty:=mkCx base 39 [(143,(zcP zl))] [] [(2,[(0,.keep),(1,.keep),(2,.keep),(11,.keep),(12,.keep),(13,.keep)])] [(2,1,[(0,.keep),(1,.keep)]),(2,0,[(6,.keep)])] [(2,spW zco zcn (zbl zl) (.inl default) zcg zce)] []
theorem zfH (zl:Factor→Factor→Bool×Int):zU (zcp zl) (lp (body Tryz.f142) 0):=zL (id:=2) (V:=zco) (B:=zcn) (W:=zbl zl) (z:=.inl default) (tr:=zcg) (m:=zce)
def zcs (zl:Factor→Factor→Bool×Int) (s1:List Factor) (s2:List Factor):Wy0 (Int):=.bn (zf0 zl (s1.length+s2.length+s1.length+(Int.ofNat s1.length).toNat +Int.toNat 0+1000) s1 s2 s1 (Int.ofNat s1.length) 0) fun r2=>.i (isL r2) (.k (getL r2)) (.i (decide (Int.ofNat (getR r2).1.length<Int.ofNat (getR r2).2.length)) (.k (-1:Int)) (.k 0))
def zcz (zl:Factor→Factor→Bool×Int) (s1:List Factor) (s2:List Factor):Bool×Int:=(zcs zl s1 s2).fin default
theorem zfn (zl:Factor→Factor→Bool×Int) (zhy:Sound Tryz.prog base 143 (zcP zl)):Sound Tryz.prog base 142 (z8 (zcz zl)):=
 zx (cx':=(zcp zl)) zH zo zF (zA ⟨zhy,trivial⟩) Tryz.call142 Tryz.func142 (c:=body Tryz.f142) (by kernel_rfl) (zi (l:=[lp (body Tryz.f142) 0]) (by kernel_rfl) ⟨zfH zl,trivial⟩) (sg:=⟨[.pure],[]⟩) (A:=zcB) (res:=zcr) (W:=fun x=>zcs zl x.1 x.2.1) (z:=default)
abbrev ttTslicesCompareFuncLapiWeightedLapiWeightedapiWeightedapiWeighted0:=List Weighted×List Weighted×Unit×List Weighted×Int×Int×Unit
abbrev ttTslicesCompareFuncLapiWeightedLapiWeightedapiWeightedapiWeighted1:=Int⊕(List Weighted×List Weighted)
def zek (zr:Weighted→Weighted→Bool×Int) (s1:List Weighted) (s2:List Weighted) (t11:List Weighted) (t12:Int) (t13:Int):Wy ttTslicesCompareFuncLapiWeightedLapiWeightedapiWeightedapiWeighted0 (Unit) ttTslicesCompareFuncLapiWeightedLapiWeightedapiWeightedapiWeighted1:=.i (decide (t13<t12)) (.i (decide (0≤t13)&&decide (t13<Int.ofNat t11.length)) (.i (decide (t13≥Int.ofNat s2.length)) (.k (.inl 1)) (.i (decide (0≤t13)&&decide (t13<Int.ofNat s2.length)) (.bn (zr (t11.getD t13.toNat default) (s2.getD t13.toNat default)) fun r0=>.i (r0 != 0) (.k (.inl (r0))) (.h (s1,s2,(),t11,t12,(IntKind.i64.wrap (t13+1)),()) ())) .d)) .d) (.k (.inr (s1,s2)))
def zbc (zr:Weighted→Weighted→Bool×Int) (x:ttTslicesCompareFuncLapiWeightedLapiWeightedapiWeightedapiWeighted0) (y:Unit):Wy ttTslicesCompareFuncLapiWeightedLapiWeightedapiWeightedapiWeighted0 (Unit) ttTslicesCompareFuncLapiWeightedLapiWeightedapiWeightedapiWeighted1:=zek zr x.1 x.2.1 x.2.2.2.1 x.2.2.2.2.1 x.2.2.2.2.2.1
def zei (zr:Weighted→Weighted→Bool×Int) (n:Nat) (s1:List Weighted) (s2:List Weighted) (t11:List Weighted) (t12:Int) (t13:Int):Bool×ttTslicesCompareFuncLapiWeightedLapiWeightedapiWeightedapiWeighted1:=zM (zbc zr) (.inl default) n (s1,s2,(),t11,t12,t13,()) ()
def zbN (r:ttTslicesCompareFuncLapiWeightedLapiWeightedapiWeightedapiWeighted1):LTree ty:=.ite (isL r) (.done .ret [.lit (.int .i64 (getL r))] []) (.done (.exit 0) [.sl 182 (getR r).1,.sl 182 (getR r).2] [])
def zbP:LL ty ttTslicesCompareFuncLapiWeightedLapiWeightedapiWeightedapiWeighted0:=za (lSl 182) (za (lSl 182) (za (lFn 147 (zD)) (za (lSl 182) (za (lInt .i64) (za (lInt .i64) zD)))))
def zbQ:BL ty (Unit):=bNil
def zbL (x:ttTslicesCompareFuncLapiWeightedLapiWeightedapiWeightedapiWeighted0) (y:Unit):Nat:=(x.1.length+x.2.1.length+x.2.2.2.1.length+Int.toNat x.2.2.2.2.1+Int.toNat x.2.2.2.2.2.1+1000)
def zbR (zr:Weighted→Weighted→Bool×Int):Cx ty:=mkCx base 39 [(147,(zcy zr))] [] [(2,[(0,.keep),(1,.keep),(2,.keep),(11,.keep),(12,.keep),(13,.keep)])] [(2,1,[(0,.keep),(1,.keep)]),(2,0,[(6,.keep)])] [(2,spW zbP zbQ (zbc zr) (.inl default) zbN zbL)] []
theorem zee (zr:Weighted→Weighted→Bool×Int):zU (zbR zr) (lp (body Tryz.f146) 0):=zL (id:=2) (V:=zbP) (B:=zbQ) (W:=zbc zr) (z:=.inl default) (tr:=zbN) (m:=zbL)
def zbT (zr:Weighted→Weighted→Bool×Int) (s1:List Weighted) (s2:List Weighted):Wy0 (Int):=.bn (zei zr (s1.length+s2.length+s1.length+(Int.ofNat s1.length).toNat +Int.toNat 0+1000) s1 s2 s1 (Int.ofNat s1.length) 0) fun r2=>.i (isL r2) (.k (getL r2)) (.i (decide (Int.ofNat (getR r2).1.length<Int.ofNat (getR r2).2.length)) (.k (-1:Int)) (.k 0))
def zb0 (zr:Weighted→Weighted→Bool×Int) (s1:List Weighted) (s2:List Weighted):Bool×Int:=(zbT zr s1 s2).fin default
theorem zd2 (zr:Weighted→Weighted→Bool×Int) (zie:Sound Tryz.prog base 147 (zcy zr)):Sound Tryz.prog base 146 (zX (zb0 zr)):=
 zx (cx':=(zbR zr)) zH zo zF (zA ⟨zie,trivial⟩) Tryz.call146 Tryz.func146 (c:=body Tryz.f146) (by kernel_rfl) (zi (l:=[lp (body Tryz.f146) 0]) (by kernel_rfl) ⟨zee zr,trivial⟩) (sg:=⟨[.pure],[]⟩) (A:=zbZ) (res:=zbS) (W:=fun x=>zbT zr x.1 x.2.1) (z:=default)
abbrev ttTslicesCompareFuncapiAnnotationapiAnnotationapiTermapiTerm0:=List Term×List Term×Unit×List Term×Int×Int×Unit
abbrev ttTslicesCompareFuncapiAnnotationapiAnnotationapiTermapiTerm1:=Int⊕(List Term×List Term)
def zfr (zy:Term→Term→Bool×Int) (s1:List Term) (s2:List Term) (t11:List Term) (t12:Int) (t13:Int):Wy ttTslicesCompareFuncapiAnnotationapiAnnotationapiTermapiTerm0 (Unit) ttTslicesCompareFuncapiAnnotationapiAnnotationapiTermapiTerm1:=.i (decide (t13<t12)) (.i (decide (0≤t13)&&decide (t13<Int.ofNat t11.length)) (.i (decide (t13≥Int.ofNat s2.length)) (.k (.inl 1)) (.i (decide (0≤t13)&&decide (t13<Int.ofNat s2.length)) (.bn (zy (t11.getD t13.toNat default) (s2.getD t13.toNat default)) fun r0=>.i (r0 != 0) (.k (.inl (r0))) (.h (s1,s2,(),t11,t12,(IntKind.i64.wrap (t13+1)),()) ())) .d)) .d) (.k (.inr (s1,s2)))
def zbh (zy:Term→Term→Bool×Int) (x:ttTslicesCompareFuncapiAnnotationapiAnnotationapiTermapiTerm0) (y:Unit):Wy ttTslicesCompareFuncapiAnnotationapiAnnotationapiTermapiTerm0 (Unit) ttTslicesCompareFuncapiAnnotationapiAnnotationapiTermapiTerm1:=zfr zy x.1 x.2.1 x.2.2.2.1 x.2.2.2.2.1 x.2.2.2.2.2.1
def zfq (zy:Term→Term→Bool×Int) (n:Nat) (s1:List Term) (s2:List Term) (t11:List Term) (t12:Int) (t13:Int):Bool×ttTslicesCompareFuncapiAnnotationapiAnnotationapiTermapiTerm1:=zM (zbh zy) (.inl default) n (s1,s2,(),t11,t12,t13,()) ()
def zb9 (r:ttTslicesCompareFuncapiAnnotationapiAnnotationapiTermapiTerm1):LTree ty:=.ite (isL r) (.done .ret [.lit (.int .i64 (getL r))] []) (.done (.exit 0) [.sl 152 (getR r).1,.sl 152 (getR r).2] [])
def zca:LL ty ttTslicesCompareFuncapiAnnotationapiAnnotationapiTermapiTerm0:=za (lSl 152) (za (lSl 152) (za (lFn 198 (zD)) (za (lSl 152) (za (lInt .i64) (za (lInt .i64) zD)))))
def zcc:BL ty (Unit):=bNil
def zb7 (x:ttTslicesCompareFuncapiAnnotationapiAnnotationapiTermapiTerm0) (y:Unit):Nat:=(x.1.length+x.2.1.length+x.2.2.2.1.length+Int.toNat x.2.2.2.2.1+Int.toNat x.2.2.2.2.2.1+1000)
def zcb (zy:Term→Term→Bool×Int):Cx ty:=mkCx base 39 [(198,(zdZ zy))] [] [(2,[(0,.keep),(1,.keep),(2,.keep),(11,.keep),(12,.keep),(13,.keep)])] [(2,1,[(0,.keep),(1,.keep)]),(2,0,[(6,.keep)])] [(2,spW zca zcc (zbh zy) (.inl default) zb9 zb7)] []
theorem zfe (zy:Term→Term→Bool×Int):zU (zcb zy) (lp (body Tryz.f197) 0):=zL (id:=2) (V:=zca) (B:=zcc) (W:=zbh zy) (z:=.inl default) (tr:=zb9) (m:=zb7)
def zch (zy:Term→Term→Bool×Int) (s1:List Term) (s2:List Term):Wy0 (Int):=.bn (zfq zy (s1.length+s2.length+s1.length+(Int.ofNat s1.length).toNat +Int.toNat 0+1000) s1 s2 s1 (Int.ofNat s1.length) 0) fun r2=>.i (isL r2) (.k (getL r2)) (.i (decide (Int.ofNat (getR r2).1.length<Int.ofNat (getR r2).2.length)) (.k (-1:Int)) (.k 0))
def zct (zy:Term→Term→Bool×Int) (s1:List Term) (s2:List Term):Bool×Int:=(zch zy s1 s2).fin default
theorem zeV (zy:Term→Term→Bool×Int) (zjd:Sound Tryz.prog base 198 (zdZ zy)):Sound Tryz.prog base 197 (zZ (zct zy)):=
 zx (cx':=(zcb zy)) zH zo zF (zA ⟨zjd,trivial⟩) Tryz.call197 Tryz.func197 (c:=body Tryz.f197) (by kernel_rfl) (zi (l:=[lp (body Tryz.f197) 0]) (by kernel_rfl) ⟨zfe zy,trivial⟩) (sg:=⟨[.pure],[]⟩) (A:=zcw) (res:=zci) (W:=fun x=>zch zy x.1 x.2.1) (z:=default)
def zbg:Nat→(List Term→List Term→Bool×Int)×(Term→Term→Bool×Int)×(Term→Term→Bool×Int)×(Factor→Factor→Bool×Int)×(Atom→Atom→Bool×Int)×(Weighted→Weighted→Bool×Int)×(List Term→List Term→Bool×Int)×(List Factor→List Factor→Bool×Int)×(List (List Term)→List (List Term)→Bool×Int)×(List Weighted→List Weighted→Bool×Int)
 | 0=>(fun _ _=>(false,default),fun _ _=>(false,default),fun _ _=>(false,default),fun _ _=>(false,default),fun _ _=>(false,default),fun _ _=>(false,default),fun _ _=>(false,default),fun _ _=>(false,default),fun _ _=>(false,default),fun _ _=>(false,default))
 | n+1=>(zrJ ((zbg n).2.2.2.2.2.2.1) ((zbg n).2.1),zo3 ((zbg n).2.2.1),zno ((zbg n).2.2.2.2.2.2.2.1) ((zbg n).2.2.2.1),zlO ((zbg n).2.2.2.2.1),znO ((zbg n).2.2.2.2.2.2.2.2.1) ((zbg n).1) ((zbg n).2.2.2.2.2.2.2.2.2) ((zbg n).2.2.2.2.2.1),znV ((zbg n).1),zct ((zbg n).2.1),zcz ((zbg n).2.2.2.1),zbF ((zbg n).1),zb0 ((zbg n).2.2.2.2.2.1))
def zrw (n:Nat):List Term→List Term→Bool×Int:=(zbg n).1
def zwv (n:Nat):Term→Term→Bool×Int:=(zbg n).2.1
def zng (n:Nat):Term→Term→Bool×Int:=(zbg n).2.2.1
def ztD (n:Nat):Factor→Factor→Bool×Int:=(zbg n).2.2.2.1
def znz (n:Nat):Atom→Atom→Bool×Int:=(zbg n).2.2.2.2.1
def znK (n:Nat):Weighted→Weighted→Bool×Int:=(zbg n).2.2.2.2.2.1
def zf2 (n:Nat):List Term→List Term→Bool×Int:=(zbg n).2.2.2.2.2.2.1
def zgz (n:Nat):List Factor→List Factor→Bool×Int:=(zbg n).2.2.2.2.2.2.2.1
def zdN (n:Nat):List (List Term)→List (List Term)→Bool×Int:=(zbg n).2.2.2.2.2.2.2.2.1
def zeW (n:Nat):List Weighted→List Weighted→Bool×Int:=(zbg n).2.2.2.2.2.2.2.2.2
theorem zmy:∀ n,Sound Tryz.prog base 145 (zcx (zrw n))∧Sound Tryz.prog base 198 (zdZ (zwv n))∧Sound Tryz.prog base 108 (zeI (zng n))∧Sound Tryz.prog base 143 (zcP (ztD n))∧Sound Tryz.prog base 110 (zeP (znz n))∧Sound Tryz.prog base 147 (zcy (znK n))∧Sound Tryz.prog base 197 (zZ (zf2 n))∧Sound Tryz.prog base 142 (z8 (zgz n))∧Sound Tryz.prog base 144 (zP (zdN n))∧Sound Tryz.prog base 146 (zX (zeW n))
 | 0=>⟨zbm Tryz.call145 (fun _=>rfl),zbm Tryz.call198 (fun _=>rfl),zbm Tryz.call108 (fun _=>rfl),zbm Tryz.call143 (fun _=>rfl),zbm Tryz.call110 (fun _=>rfl),zbm Tryz.call147 (fun _=>rfl),zbm Tryz.call197 (fun _=>rfl),zbm Tryz.call142 (fun _=>rfl),zbm Tryz.call144 (fun _=>rfl),zbm Tryz.call146 (fun _=>rfl)⟩
 | n+1=>by
  have ih:=zmy n
  exact ⟨zuv _ _ (ih.2.2.2.2.2.2.1) (ih.2.1),zsp _ (ih.2.2.1),zrm _ _ (ih.2.2.2.2.2.2.2.1) (ih.2.2.2.1),zqe _ (ih.2.2.2.2.1),zro _ _ _ _ (ih.2.2.2.2.2.2.2.2.1) (ih.1) (ih.2.2.2.2.2.2.2.2.2) (ih.2.2.2.2.2.1),zrl _ (ih.1),zeV _ (ih.2.1),zfn _ (ih.2.2.2.1),zda _ (ih.1),zd2 _ (ih.2.2.2.2.2.1)⟩
def zt4:List Term→List Term→Bool×Int:=zrw 1000
def annotation_Compare_spec:Ab.Spec ty:=zcx zt4
theorem zvx:Sound Tryz.prog base 145 annotation_Compare_spec:=(zmy 1000).1
def zpe:Term→Term→Bool×Int:=zng 1000
def annotation_compareLists_spec:Ab.Spec ty:=zeI zpe
theorem zss:Sound Tryz.prog base 108 annotation_compareLists_spec:=(zmy 1000).2.2.1
def zjV:Atom→Atom→Bool×Int:=znz 1000
def annotation_compareAtoms_spec:Ab.Spec ty:=zeP zjV
theorem zsr:Sound Tryz.prog base 110 annotation_compareAtoms_spec:=(zmy 1000).2.2.2.2.1
def zpa:Weighted→Weighted→Bool×Int:=znK 1000
def annotation_compareItems_spec:Ab.Spec ty:=zcy zpa
theorem zkH:Sound Tryz.prog base 147 annotation_compareItems_spec:=(zmy 1000).2.2.2.2.2.1
def zrt (r:Bool):ARes ty:=⟨[.pure (.lit (.bool r))],[]⟩
def zt2:AL base (List Term×Unit):=zf (zg (vSl 152)) aNil
def ze9 (F:List Term→Bool×Bool):Ab.Spec ty:=zn zt2 fun x=>((F x.1).1,zrt (F x.1).2)
def zbr (r:Bool):ARes ty:=⟨[.pure (.lit (.bool r))],[]⟩
def zqh:AL base (Atom×Unit):=zf (zg (vAgg 158)) aNil
def zh2 (F:Atom→Bool×Bool):Ab.Spec ty:=zn zqh fun x=>((F x.1).1,zbr (F x.1).2)
def zlx (r:Bool):ARes ty:=⟨[.pure (.lit (.bool r))],[]⟩
def znk:AL base (List Term×Unit):=zf (zg (vSl 152)) aNil
def zbU (F:List Term→Bool×Bool):Ab.Spec ty:=zn znk fun x=>((F x.1).1,zlx (F x.1).2)
def zlC (r:Bool):ARes ty:=⟨[.pure (.lit (.bool r))],[]⟩
def znN:AL base (Weighted×Unit):=zf (zg (vAgg 182)) aNil
def zbV (F:Weighted→Bool×Bool):Ab.Spec ty:=zn znN fun x=>((F x.1).1,zlC (F x.1).2)
def zdW (r:Int):ARes ty:=⟨[.pure (.lit (.int .i64 r))],[]⟩
def zed:AL base (List (List Term)×Unit×Unit):=zf (zg (vSl 36)) (zf (zg (vFn 149 vNil)) aNil)
def zbt (F:List (List Term)→Bool×Int):Ab.Spec ty:=zn zed fun x=>((F x.1).1,zdW (F x.1).2)
def zdj (r:Bool):ARes ty:=⟨[.pure (.lit (.bool r))],[]⟩
def zdM:AL base (List (List Term)×Unit×Unit):=zf (zg (vSl 36)) (zf (zg (vFn 149 vNil)) aNil)
def zbn (F:List (List Term)→Bool×Bool):Ab.Spec ty:=zn zdM fun x=>((F x.1).1,zdj (F x.1).2)
def zeE (r:Int):ARes ty:=⟨[.pure (.lit (.int .i64 r))],[]⟩
def zfj:AL base (List Weighted×Unit×Unit):=zf (zg (vSl 182)) (zf (zg (vFn 156 vNil)) aNil)
def zbI (F:List Weighted→Bool×Int):Ab.Spec ty:=zn zfj fun x=>((F x.1).1,zeE (F x.1).2)
def zd8 (r:Bool):ARes ty:=⟨[.pure (.lit (.bool r))],[]⟩
def zep:AL base (List Weighted×Unit×Unit):=zf (zg (vSl 182)) (zf (zg (vFn 156 vNil)) aNil)
def zby (F:List Weighted→Bool×Bool):Ab.Spec ty:=zn zep fun x=>((F x.1).1,zd8 (F x.1).2)
def zv9:Cx ty:=mkCx base 11 [] [] [] [] [] []
def zoY (x_:Atom):Wy0 (Bool):=.i (x_.Kind==3) (.k true) (.k (x_.Kind==4))
def ziq (x_:Atom):Bool×Bool:=(zoY x_).fin default
def znq (r:Bool):ARes ty:=⟨[.pure (.lit (.bool r))],[]⟩
def zo4:AL base (Atom×Unit):=zf (zg (vAgg 158)) aNil
def ziA:Ab.Spec ty:=zn zo4 fun x=>((ziq x.1).1,znq (ziq x.1).2)
theorem zlE:Sound Tryz.prog base 109 ziA:=
 zx (cx':=zv9) zH zo zF (zA trivial) Tryz.call109 Tryz.func109 (c:=body Tryz.f109) (by kernel_rfl) (zi (l:=[]) (by kernel_rfl) trivial) (sg:=⟨[.pure],[]⟩) (A:=zo4) (res:=znq) (W:=fun x=>zoY x.1) (z:=default)
def zsI (r:Int):ARes ty:=⟨[.pure (.lit (.int .i64 r))],[]⟩
def zuT:AL base (List Term×Unit):=zf (zg (vSl 152)) aNil
def ziT (F:List Term→Bool×Int):Ab.Spec ty:=zn zuT fun x=>((F x.1).1,zsI (F x.1).2)
abbrev ttTannotationSize0:=Int×Unit×List Term×Int×Int×List Factor×Int×Int×List (List Term)×Int×Int×Unit
abbrev ttTannotationSize1:=Int×List Term×Int×Int×List Factor×Int×Int×Factor
abbrev ttTannotationSize2:=Int×List Term×Int×Int×List Factor×Int×Int×List Weighted×Int×Int×Unit
abbrev ttTannotationSize3:=Int×List Term×Int×Int×List Factor×Int×Int
abbrev ttTannotationSize4:=Int×List Term×Int×Int×List Factor×Int×Int×Unit
abbrev ttTannotationSize5:=Int×List Term×Int×Int
abbrev ttTannotationSize6:=Int×List Term×Int×Int×Unit
def zyC (zj:List Term→Bool×Int) (n_:Int) (t12:List Term) (t13:Int) (t14:Int) (t25:List Factor) (t26:Int) (t27:Int) (t33:List (List Term)) (t34:Int) (t35:Int) (f:Factor):Wy ttTannotationSize0 (Factor×Unit) ttTannotationSize1:=.i (decide (t35<t34)) (.i (decide (0≤t35)&&decide (t35<Int.ofNat t33.length)) (.bn (zj (t33.getD t35.toNat default)) fun r0=>.h ((IntKind.i64.wrap (n_+r0)),(),t12,t13,t14,t25,t26,t27,t33,t34,(IntKind.i64.wrap (t35+1)),()) (f,())) .d) (.k (n_,t12,t13,t14,t25,t26,t27,f))
def zlj (zj:List Term→Bool×Int) (x:ttTannotationSize0) (y:Factor×Unit):Wy ttTannotationSize0 (Factor×Unit) ttTannotationSize1:=zyC zj x.1 x.2.2.1 x.2.2.2.1 x.2.2.2.2.1 x.2.2.2.2.2.1 x.2.2.2.2.2.2.1 x.2.2.2.2.2.2.2.1 x.2.2.2.2.2.2.2.2.1 x.2.2.2.2.2.2.2.2.2.1 x.2.2.2.2.2.2.2.2.2.2.1 y.1
def zxQ (zj:List Term→Bool×Int) (n:Nat) (n_:Int) (t12:List Term) (t13:Int) (t14:Int) (t25:List Factor) (t26:Int) (t27:Int) (t33:List (List Term)) (t34:Int) (t35:Int) (f:Factor):Bool×ttTannotationSize1:=zM (zlj zj) default n (n_,(),t12,t13,t14,t25,t26,t27,t33,t34,t35,()) (f,())
def zpX (r:ttTannotationSize1):LTree ty:=.done (.exit 4) [.lit (.int .i64 r.1),.ptr 248 0,.sl 152 r.2.1,.lit (.int .i64 r.2.2.1),.lit (.int .i64 r.2.2.2.1),.sl 160 r.2.2.2.2.1,.lit (.int .i64 r.2.2.2.2.2.1),.lit (.int .i64 r.2.2.2.2.2.2.1)] [.box (base.enc 160 r.2.2.2.2.2.2.2) false]
def zq0:LL ty ttTannotationSize0:=za (lInt .i64) (za (zb2 248 0) (za (lSl 152) (za (lInt .i64) (za (lInt .i64) (za (lSl 160) (za (lInt .i64) (za (lInt .i64) (za (lSl 36) (za (lInt .i64) (za (lInt .i64) zD))))))))))
def zre:BL ty (Factor×Unit):=bBox (zdo (fun x=>(⟨⟨x.1,⟨x.2.1,x.2.2.1⟩,x.2.2.2.1,x.2.2.2.2.1,x.2.2.2.2.2.1,x.2.2.2.2.2.2.1,⟨x.2.2.2.2.2.2.2.1,x.2.2.2.2.2.2.2.2.1,x.2.2.2.2.2.2.2.2.2.1⟩⟩,x.2.2.2.2.2.2.2.2.2.2.1⟩:Factor)) (fun x=>(x.Atom.Kind,x.Atom.Row.Table,x.Atom.Row.Seq,x.Atom.Args,x.Atom.Func,x.Atom.Items,x.Atom.Op,x.Atom.Bound.Kind,x.Atom.Bound.Int,x.Atom.Bound.Text,x.Exp,())) (fun _=>rfl) (za (lInt .i64) (za (lInt .i64) (za (lInt .i64) (za (lSl 36) (za (lInt .i64) (za (lSl 182) (za (lInt .i64) (za (lInt .i64) (za (lInt .i64) (za lStr (za (lInt .i64) zD)))))))))))) false (bNil)
def zyi (zj:List Term→Bool×Int) (n_:Int) (t12:List Term) (t13:Int) (t14:Int) (t25:List Factor) (t26:Int) (t27:Int) (t46:List Weighted) (t47:Int) (t48:Int):Wy ttTannotationSize2 (Unit) ttTannotationSize3:=.i (decide (t48<t47)) (.i (decide (0≤t48)&&decide (t48<Int.ofNat t46.length)) (.bn (zj (t46.getD t48.toNat default).Ann) fun r2=>.h ((IntKind.i64.wrap (n_+IntKind.i64.wrap (1+r2))),t12,t13,t14,t25,t26,t27,t46,t47,(IntKind.i64.wrap (t48+1)),()) ()) .d) (.k (n_,t12,t13,t14,t25,t26,t27))
def zk6 (zj:List Term→Bool×Int) (x:ttTannotationSize2) (y:Unit):Wy ttTannotationSize2 (Unit) ttTannotationSize3:=zyi zj x.1 x.2.1 x.2.2.1 x.2.2.2.1 x.2.2.2.2.1 x.2.2.2.2.2.1 x.2.2.2.2.2.2.1 x.2.2.2.2.2.2.2.1 x.2.2.2.2.2.2.2.2.1 x.2.2.2.2.2.2.2.2.2.1
def zye (zj:List Term→Bool×Int) (n:Nat) (n_:Int) (t12:List Term) (t13:Int) (t14:Int) (t25:List Factor) (t26:Int) (t27:Int) (t46:List Weighted) (t47:Int) (t48:Int):Bool×ttTannotationSize3:=zM (zk6 zj) default n (n_,t12,t13,t14,t25,t26,t27,t46,t47,t48,()) ()
def zpG (r:ttTannotationSize3):LTree ty:=.done (.exit 6) [.lit (.int .i64 r.1),.sl 152 r.2.1,.lit (.int .i64 r.2.2.1),.lit (.int .i64 r.2.2.2.1),.sl 160 r.2.2.2.2.1,.lit (.int .i64 r.2.2.2.2.2.1),.lit (.int .i64 r.2.2.2.2.2.2)] []
def zrc:LL ty ttTannotationSize2:=za (lInt .i64) (za (lSl 152) (za (lInt .i64) (za (lInt .i64) (za (lSl 160) (za (lInt .i64) (za (lInt .i64) (za (lSl 182) (za (lInt .i64) (za (lInt .i64) zD)))))))))
def zqP:BL ty (Unit):=bNil
def zy7 (zj:List Term→Bool×Int) (n_:Int) (t12:List Term) (t13:Int) (t14:Int) (t25:List Factor) (t26:Int) (t27:Int):Wy ttTannotationSize4 (Unit) ttTannotationSize5:=.i (decide (t27<t26)) (.i (decide (0≤t27)&&decide (t27<Int.ofNat t25.length)) (.bn (zxQ zj (n_.toNat +t12.length+t13.toNat +t14.toNat +t25.length+t26.toNat +t27.toNat +(t25.getD t27.toNat default).Atom.Args.length+(Int.ofNat (t25.getD t27.toNat default).Atom.Args.length).toNat +Int.toNat 0+(t25.getD t27.toNat default).Atom.Args.length+(t25.getD t27.toNat default).Atom.Items.length+1000) n_ t12 t13 t14 t25 t26 t27 (t25.getD t27.toNat default).Atom.Args (Int.ofNat (t25.getD t27.toNat default).Atom.Args.length) 0 (FactorOf.mk (Atom.mk (t25.getD t27.toNat default).Atom.Kind (t25.getD t27.toNat default).Atom.Row (t25.getD t27.toNat default).Atom.Args (t25.getD t27.toNat default).Atom.Func (t25.getD t27.toNat default).Atom.Items (t25.getD t27.toNat default).Atom.Op (t25.getD t27.toNat default).Atom.Bound) (t25.getD t27.toNat default).Exp)) fun r5=>.bn (zye zj (r5.1.toNat +r5.2.1.length+r5.2.2.1.toNat +r5.2.2.2.1.toNat +r5.2.2.2.2.1.length+r5.2.2.2.2.2.1.toNat +r5.2.2.2.2.2.2.1.toNat +r5.2.2.2.2.2.2.2.Atom.Items.length+(Int.ofNat r5.2.2.2.2.2.2.2.Atom.Items.length).toNat +Int.toNat 0+1000) r5.1 r5.2.1 r5.2.2.1 r5.2.2.2.1 r5.2.2.2.2.1 r5.2.2.2.2.2.1 r5.2.2.2.2.2.2.1 r5.2.2.2.2.2.2.2.Atom.Items (Int.ofNat r5.2.2.2.2.2.2.2.Atom.Items.length) 0) fun r4=>.h ((r4.1),(r4.2.1),(r4.2.2.1),(r4.2.2.2.1),(r4.2.2.2.2.1),(r4.2.2.2.2.2.1),(IntKind.i64.wrap (r4.2.2.2.2.2.2+1)),()) ()) .d) (.k (n_,t12,t13,t14))
def zl1 (zj:List Term→Bool×Int) (x:ttTannotationSize4) (y:Unit):Wy ttTannotationSize4 (Unit) ttTannotationSize5:=zy7 zj x.1 x.2.1 x.2.2.1 x.2.2.2.1 x.2.2.2.2.1 x.2.2.2.2.2.1 x.2.2.2.2.2.2.1
def zy6 (zj:List Term→Bool×Int) (n:Nat) (n_:Int) (t12:List Term) (t13:Int) (t14:Int) (t25:List Factor) (t26:Int) (t27:Int):Bool×ttTannotationSize5:=zM (zl1 zj) default n (n_,t12,t13,t14,t25,t26,t27,()) ()
def zqR (r:ttTannotationSize5):LTree ty:=.done (.exit 2) [.lit (.int .i64 r.1),.sl 152 r.2.1,.lit (.int .i64 r.2.2.1),.lit (.int .i64 r.2.2.2)] []
def zrQ:LL ty ttTannotationSize4:=za (lInt .i64) (za (lSl 152) (za (lInt .i64) (za (lInt .i64) (za (lSl 160) (za (lInt .i64) (za (lInt .i64) zD))))))
def zrW:BL ty (Unit):=bNil
def zzm (zj:List Term→Bool×Int) (n_:Int) (t12:List Term) (t13:Int) (t14:Int):Wy ttTannotationSize6 (Unit) (Int):=.i (decide (t14<t13)) (.i (decide (0≤t14)&&decide (t14<Int.ofNat t12.length)) (.bn (zy6 zj ((IntKind.i64.wrap (n_+IntKind.i64.wrap (1+Int.ofNat (t12.getD t14.toNat default).Factors.length))).toNat +t12.length+t13.toNat +t14.toNat +(t12.getD t14.toNat default).Factors.length+(Int.ofNat (t12.getD t14.toNat default).Factors.length).toNat +Int.toNat 0+1000) (IntKind.i64.wrap (n_+IntKind.i64.wrap (1+Int.ofNat (t12.getD t14.toNat default).Factors.length))) t12 t13 t14 (t12.getD t14.toNat default).Factors (Int.ofNat (t12.getD t14.toNat default).Factors.length) 0) fun r8=>.h ((r8.1),(r8.2.1),(r8.2.2.1),(IntKind.i64.wrap (r8.2.2.2+1)),()) ()) .d) (.k n_)
def zmb (zj:List Term→Bool×Int) (x:ttTannotationSize6) (y:Unit):Wy ttTannotationSize6 (Unit) (Int):=zzm zj x.1 x.2.1 x.2.2.1 x.2.2.2.1
def zzd (zj:List Term→Bool×Int) (n:Nat) (n_:Int) (t12:List Term) (t13:Int) (t14:Int):Bool×Int:=zM (zmb zj) default n (n_,t12,t13,t14,()) ()
def zqu (r:Int):LTree ty:=.done (.exit 0) [.lit (.int .i64 r)] []
def zsk:LL ty ttTannotationSize6:=za (lInt .i64) (za (lSl 152) (za (lInt .i64) (za (lInt .i64) zD)))
def zr4:BL ty (Unit):=bNil
def zp2 (x:ttTannotationSize0) (y:Factor×Unit):Nat:=(Int.toNat x.1+x.2.2.1.length+Int.toNat x.2.2.2.1+Int.toNat x.2.2.2.2.1+x.2.2.2.2.2.1.length+Int.toNat x.2.2.2.2.2.2.1+Int.toNat x.2.2.2.2.2.2.2.1+x.2.2.2.2.2.2.2.2.1.length+Int.toNat x.2.2.2.2.2.2.2.2.2.1+Int.toNat x.2.2.2.2.2.2.2.2.2.2.1+y.1.Atom.Args.length+y.1.Atom.Items.length+1000)
def zpQ (x:ttTannotationSize2) (y:Unit):Nat:=(Int.toNat x.1+x.2.1.length+Int.toNat x.2.2.1+Int.toNat x.2.2.2.1+x.2.2.2.2.1.length+Int.toNat x.2.2.2.2.2.1+Int.toNat x.2.2.2.2.2.2.1+x.2.2.2.2.2.2.2.1.length+Int.toNat x.2.2.2.2.2.2.2.2.1+Int.toNat x.2.2.2.2.2.2.2.2.2.1+1000)
def zqN (x:ttTannotationSize4) (y:Unit):Nat:=(Int.toNat x.1+x.2.1.length+Int.toNat x.2.2.1+Int.toNat x.2.2.2.1+x.2.2.2.2.1.length+Int.toNat x.2.2.2.2.2.1+Int.toNat x.2.2.2.2.2.2.1+1000)
def zqY (x:ttTannotationSize6) (y:Unit):Nat:=(Int.toNat x.1+x.2.1.length+Int.toNat x.2.2.1+Int.toNat x.2.2.2.1+1000)
def zhe (zj:List Term→Bool×Int):Cx ty:=mkCx base 62 [(137,(ziT zj))] [] [(3,[(3,.keep),(12,.keep),(13,.keep),(14,.keep)]),(7,[(3,.keep),(12,.keep),(13,.keep),(14,.keep),(25,.keep),(26,.keep),(27,.keep)]),(10,[(3,.keep),(7,.keep),(12,.keep),(13,.keep),(14,.keep),(25,.keep),(26,.keep),(27,.keep),(33,.keep),(34,.keep),(35,.keep)]),(15,[(3,.keep),(12,.keep),(13,.keep),(14,.keep),(25,.keep),(26,.keep),(27,.keep),(46,.keep),(47,.keep),(48,.keep)])] [(3,1,[(3,.keep)]),(7,3,[(3,.keep),(12,.keep),(13,.keep),(14,.keep)]),(10,5,[(3,.keep),(7,.keep),(12,.keep),(13,.keep),(14,.keep),(25,.keep),(26,.keep),(27,.keep)]),(15,7,[(3,.keep),(12,.keep),(13,.keep),(14,.keep),(25,.keep),(26,.keep),(27,.keep)])] [(10,spW zq0 zre (zlj zj) default zpX zp2),(15,spW zrc zqP (zk6 zj) default zpG zpQ),(7,spW zrQ zrW (zl1 zj) default zqR zqN),(3,spW zsk zr4 (zmb zj) default zqu zqY)] []
theorem zxm (zj:List Term→Bool×Int):zU (zhe zj) (lp (body Tryz.f137) 2):=zL (id:=10) (V:=zq0) (B:=zre) (W:=zlj zj) (z:=default) (tr:=zpX) (m:=zp2)
theorem zxE (zj:List Term→Bool×Int):zU (zhe zj) (lp (body Tryz.f137) 3):=zL (id:=15) (V:=zrc) (B:=zqP) (W:=zk6 zj) (z:=default) (tr:=zpG) (m:=zpQ)
theorem zyy (zj:List Term→Bool×Int):zU (zhe zj) (lp (body Tryz.f137) 1):=zL (id:=7) (V:=zrQ) (B:=zrW) (W:=zl1 zj) (z:=default) (tr:=zqR) (m:=zqN)
theorem zxX (zj:List Term→Bool×Int):zU (zhe zj) (lp (body Tryz.f137) 0):=zL (id:=3) (V:=zsk) (B:=zr4) (W:=zmb zj) (z:=default) (tr:=zqu) (m:=zqY)
def zsC (zj:List Term→Bool×Int) (a:List Term):Wy0 (Int):=.bn (zzd zj (Int.toNat 0+a.length+(Int.ofNat a.length).toNat +Int.toNat 0+1000) 0 a (Int.ofNat a.length) 0) fun r10=>.k r10
def zuV (zj:List Term→Bool×Int) (a:List Term):Bool×Int:=(zsC zj a).fin default
theorem zwy (zj:List Term→Bool×Int) (zz7:Sound Tryz.prog base 137 (ziT zj)):Sound Tryz.prog base 137 (ziT (zuV zj)):=
 zx (cx':=(zhe zj)) zH zo zF (zA ⟨zz7,trivial⟩) Tryz.call137 Tryz.func137 (c:=body Tryz.f137) (by kernel_rfl) (zi (l:=[lp (body Tryz.f137) 0,lp (body Tryz.f137) 1,lp (body Tryz.f137) 2,lp (body Tryz.f137) 3]) (by kernel_rfl) ⟨zxX zj,zyy zj,zxm zj,zxE zj,trivial⟩) (sg:=⟨[.pure],[]⟩) (A:=zuT) (res:=zsI) (W:=fun x=>zsC zj x.1) (z:=default)
def zFA:Nat→(List Term→Bool×Int)
 | 0=>fun _=>(false,default)
 | n+1=>zuV (zFA n)
def zuO (n:Nat):List Term→Bool×Int:=zFA n
theorem zCV:∀ n,Sound Tryz.prog base 137 (ziT (zuO n))
 | 0=>zbm Tryz.call137 (fun _=>rfl)
 | n+1=>by
  have ih:=zCV n
  exact zwy _ (ih)
def zwL:List Term→Bool×Int:=zuO 1000
def annotation_Size_spec:Ab.Spec ty:=ziT zwL
theorem zxS:Sound Tryz.prog base 137 annotation_Size_spec:=(zCV 1000)
def zqj (r:Int):ARes ty:=⟨[.pure (.lit (.int .i64 r))],[]⟩
def zrK:AL base (List Term×Unit):=zf (zg (vSl 152)) aNil
def zhf (F:List Term→Bool×Int):Ab.Spec ty:=zn zrK fun x=>((F x.1).1,zqj (F x.1).2)
abbrev ttTannotationnesting0:=Int×Unit×Int×List Term×Int×Int×List Factor×Int×Int×List (List Term)×Int×Int×Unit
abbrev ttTannotationnesting1:=Int×Int×List Term×Int×Int×List Factor×Int×Int×Factor
abbrev ttTannotationnesting2:=Int×Int×List Term×Int×Int×List Factor×Int×Int×List Weighted×Int×Int×Unit
abbrev ttTannotationnesting3:=Int×Int×List Term×Int×Int×List Factor×Int×Int
abbrev ttTannotationnesting4:=Int×List Term×Int×Int×List Factor×Int×Int×Unit
abbrev ttTannotationnesting5:=Int×List Term×Int×Int
abbrev ttTannotationnesting6:=Int×List Term×Int×Int×Unit
def zvQ (zh:List Term→Bool×Int) (n_:Int) (inner:Int) (t13:List Term) (t14:Int) (t15:Int) (t20:List Factor) (t21:Int) (t22:Int) (t32:List (List Term)) (t33:Int) (t34:Int) (f:Factor):Wy ttTannotationnesting0 (Factor×Unit) ttTannotationnesting1:=.i (decide (t34<t33)) (.i (decide (0≤t34)&&decide (t34<Int.ofNat t32.length)) (.bn (zh (t32.getD t34.toNat default)) fun r0=>.h (n_,(),(if r0>inner then r0 else inner),t13,t14,t15,t20,t21,t22,t32,t33,(IntKind.i64.wrap (t34+1)),()) (f,())) .d) (.k (n_,inner,t13,t14,t15,t20,t21,t22,f))
def zjP (zh:List Term→Bool×Int) (x:ttTannotationnesting0) (y:Factor×Unit):Wy ttTannotationnesting0 (Factor×Unit) ttTannotationnesting1:=zvQ zh x.1 x.2.2.1 x.2.2.2.1 x.2.2.2.2.1 x.2.2.2.2.2.1 x.2.2.2.2.2.2.1 x.2.2.2.2.2.2.2.1 x.2.2.2.2.2.2.2.2.1 x.2.2.2.2.2.2.2.2.2.1 x.2.2.2.2.2.2.2.2.2.2.1 x.2.2.2.2.2.2.2.2.2.2.2.1 y.1
def zwi (zh:List Term→Bool×Int) (n:Nat) (n_:Int) (inner:Int) (t13:List Term) (t14:Int) (t15:Int) (t20:List Factor) (t21:Int) (t22:Int) (t32:List (List Term)) (t33:Int) (t34:Int) (f:Factor):Bool×ttTannotationnesting1:=zM (zjP zh) default n (n_,(),inner,t13,t14,t15,t20,t21,t22,t32,t33,t34,()) (f,())
def znd (r:ttTannotationnesting1):LTree ty:=.done (.exit 4) [.lit (.int .i64 r.1),.ptr 256 0,.lit (.int .i64 r.2.1),.sl 152 r.2.2.1,.lit (.int .i64 r.2.2.2.1),.lit (.int .i64 r.2.2.2.2.1),.sl 160 r.2.2.2.2.2.1,.lit (.int .i64 r.2.2.2.2.2.2.1),.lit (.int .i64 r.2.2.2.2.2.2.2.1)] [.box (base.enc 160 r.2.2.2.2.2.2.2.2) false]
def zoi:LL ty ttTannotationnesting0:=za (lInt .i64) (za (zb2 256 0) (za (lInt .i64) (za (lSl 152) (za (lInt .i64) (za (lInt .i64) (za (lSl 160) (za (lInt .i64) (za (lInt .i64) (za (lSl 36) (za (lInt .i64) (za (lInt .i64) zD)))))))))))
def zn0:BL ty (Factor×Unit):=bBox (zdo (fun x=>(⟨⟨x.1,⟨x.2.1,x.2.2.1⟩,x.2.2.2.1,x.2.2.2.2.1,x.2.2.2.2.2.1,x.2.2.2.2.2.2.1,⟨x.2.2.2.2.2.2.2.1,x.2.2.2.2.2.2.2.2.1,x.2.2.2.2.2.2.2.2.2.1⟩⟩,x.2.2.2.2.2.2.2.2.2.2.1⟩:Factor)) (fun x=>(x.Atom.Kind,x.Atom.Row.Table,x.Atom.Row.Seq,x.Atom.Args,x.Atom.Func,x.Atom.Items,x.Atom.Op,x.Atom.Bound.Kind,x.Atom.Bound.Int,x.Atom.Bound.Text,x.Exp,())) (fun _=>rfl) (za (lInt .i64) (za (lInt .i64) (za (lInt .i64) (za (lSl 36) (za (lInt .i64) (za (lSl 182) (za (lInt .i64) (za (lInt .i64) (za (lInt .i64) (za lStr (za (lInt .i64) zD)))))))))))) false (bNil)
def zwb (zh:List Term→Bool×Int) (n_:Int) (inner:Int) (t13:List Term) (t14:Int) (t15:Int) (t20:List Factor) (t21:Int) (t22:Int) (t45:List Weighted) (t46:Int) (t47:Int):Wy ttTannotationnesting2 (Unit) ttTannotationnesting3:=.i (decide (t47<t46)) (.i (decide (0≤t47)&&decide (t47<Int.ofNat t45.length)) (.bn (zh (t45.getD t47.toNat default).Ann) fun r2=>.h (n_,(if r2>inner then r2 else inner),t13,t14,t15,t20,t21,t22,t45,t46,(IntKind.i64.wrap (t47+1)),()) ()) .d) (.k (n_,inner,t13,t14,t15,t20,t21,t22))
def zjL (zh:List Term→Bool×Int) (x:ttTannotationnesting2) (y:Unit):Wy ttTannotationnesting2 (Unit) ttTannotationnesting3:=zwb zh x.1 x.2.1 x.2.2.1 x.2.2.2.1 x.2.2.2.2.1 x.2.2.2.2.2.1 x.2.2.2.2.2.2.1 x.2.2.2.2.2.2.2.1 x.2.2.2.2.2.2.2.2.1 x.2.2.2.2.2.2.2.2.2.1 x.2.2.2.2.2.2.2.2.2.2.1
def zwj (zh:List Term→Bool×Int) (n:Nat) (n_:Int) (inner:Int) (t13:List Term) (t14:Int) (t15:Int) (t20:List Factor) (t21:Int) (t22:Int) (t45:List Weighted) (t46:Int) (t47:Int):Bool×ttTannotationnesting3:=zM (zjL zh) default n (n_,inner,t13,t14,t15,t20,t21,t22,t45,t46,t47,()) ()
def znM (r:ttTannotationnesting3):LTree ty:=.done (.exit 6) [.lit (.int .i64 r.1),.lit (.int .i64 r.2.1),.sl 152 r.2.2.1,.lit (.int .i64 r.2.2.2.1),.lit (.int .i64 r.2.2.2.2.1),.sl 160 r.2.2.2.2.2.1,.lit (.int .i64 r.2.2.2.2.2.2.1),.lit (.int .i64 r.2.2.2.2.2.2.2)] []
def zoD:LL ty ttTannotationnesting2:=za (lInt .i64) (za (lInt .i64) (za (lSl 152) (za (lInt .i64) (za (lInt .i64) (za (lSl 160) (za (lInt .i64) (za (lInt .i64) (za (lSl 182) (za (lInt .i64) (za (lInt .i64) zD))))))))))
def zoA:BL ty (Unit):=bNil
def zwF (zh:List Term→Bool×Int) (n_:Int) (t13:List Term) (t14:Int) (t15:Int) (t20:List Factor) (t21:Int) (t22:Int):Wy ttTannotationnesting4 (Unit) ttTannotationnesting5:=.i (decide (t22<t21)) (.i (decide (0≤t22)&&decide (t22<Int.ofNat t20.length)) (.i ((t20.getD t22.toNat default).Atom.Kind==0) (.h (n_,t13,t14,t15,t20,t21,(IntKind.i64.wrap (t22+1)),()) ()) (.bn (zwi zh (n_.toNat +Int.toNat 0+t13.length+t14.toNat +t15.toNat +t20.length+t21.toNat +t22.toNat +(t20.getD t22.toNat default).Atom.Args.length+(Int.ofNat (t20.getD t22.toNat default).Atom.Args.length).toNat +Int.toNat 0+(t20.getD t22.toNat default).Atom.Args.length+(t20.getD t22.toNat default).Atom.Items.length+1000) n_ 0 t13 t14 t15 t20 t21 t22 (t20.getD t22.toNat default).Atom.Args (Int.ofNat (t20.getD t22.toNat default).Atom.Args.length) 0 (FactorOf.mk (Atom.mk (t20.getD t22.toNat default).Atom.Kind (t20.getD t22.toNat default).Atom.Row (t20.getD t22.toNat default).Atom.Args (t20.getD t22.toNat default).Atom.Func (t20.getD t22.toNat default).Atom.Items (t20.getD t22.toNat default).Atom.Op (t20.getD t22.toNat default).Atom.Bound) (t20.getD t22.toNat default).Exp)) fun r5=>.bn (zwj zh (r5.1.toNat +r5.2.1.toNat +r5.2.2.1.length+r5.2.2.2.1.toNat +r5.2.2.2.2.1.toNat +r5.2.2.2.2.2.1.length+r5.2.2.2.2.2.2.1.toNat +r5.2.2.2.2.2.2.2.1.toNat +r5.2.2.2.2.2.2.2.2.Atom.Items.length+(Int.ofNat r5.2.2.2.2.2.2.2.2.Atom.Items.length).toNat +Int.toNat 0+1000) r5.1 r5.2.1 r5.2.2.1 r5.2.2.2.1 r5.2.2.2.2.1 r5.2.2.2.2.2.1 r5.2.2.2.2.2.2.1 r5.2.2.2.2.2.2.2.1 r5.2.2.2.2.2.2.2.2.Atom.Items (Int.ofNat r5.2.2.2.2.2.2.2.2.Atom.Items.length) 0) fun r4=>.h ((if IntKind.i64.wrap (1+r4.2.1)>r4.1 then IntKind.i64.wrap (1+r4.2.1) else r4.1),(r4.2.2.1),(r4.2.2.2.1),(r4.2.2.2.2.1),(r4.2.2.2.2.2.1),(r4.2.2.2.2.2.2.1),(IntKind.i64.wrap (r4.2.2.2.2.2.2.2+1)),()) ())) .d) (.k (n_,t13,t14,t15))
def zjX (zh:List Term→Bool×Int) (x:ttTannotationnesting4) (y:Unit):Wy ttTannotationnesting4 (Unit) ttTannotationnesting5:=zwF zh x.1 x.2.1 x.2.2.1 x.2.2.2.1 x.2.2.2.2.1 x.2.2.2.2.2.1 x.2.2.2.2.2.2.1
def zwx (zh:List Term→Bool×Int) (n:Nat) (n_:Int) (t13:List Term) (t14:Int) (t15:Int) (t20:List Factor) (t21:Int) (t22:Int):Bool×ttTannotationnesting5:=zM (zjX zh) default n (n_,t13,t14,t15,t20,t21,t22,()) ()
def zof (r:ttTannotationnesting5):LTree ty:=.done (.exit 2) [.lit (.int .i64 r.1),.sl 152 r.2.1,.lit (.int .i64 r.2.2.1),.lit (.int .i64 r.2.2.2)] []
def zo5:LL ty ttTannotationnesting4:=za (lInt .i64) (za (lSl 152) (za (lInt .i64) (za (lInt .i64) (za (lSl 160) (za (lInt .i64) (za (lInt .i64) zD))))))
def zo7:BL ty (Unit):=bNil
def zwt (zh:List Term→Bool×Int) (n_:Int) (t13:List Term) (t14:Int) (t15:Int):Wy ttTannotationnesting6 (Unit) (Int):=.i (decide (t15<t14)) (.i (decide (0≤t15)&&decide (t15<Int.ofNat t13.length)) (.bn (zwx zh (n_.toNat +t13.length+t14.toNat +t15.toNat +(t13.getD t15.toNat default).Factors.length+(Int.ofNat (t13.getD t15.toNat default).Factors.length).toNat +Int.toNat 0+1000) n_ t13 t14 t15 (t13.getD t15.toNat default).Factors (Int.ofNat (t13.getD t15.toNat default).Factors.length) 0) fun r8=>.h ((r8.1),(r8.2.1),(r8.2.2.1),(IntKind.i64.wrap (r8.2.2.2+1)),()) ()) .d) (.k n_)
def zj0 (zh:List Term→Bool×Int) (x:ttTannotationnesting6) (y:Unit):Wy ttTannotationnesting6 (Unit) (Int):=zwt zh x.1 x.2.1 x.2.2.1 x.2.2.2.1
def zwA (zh:List Term→Bool×Int) (n:Nat) (n_:Int) (t13:List Term) (t14:Int) (t15:Int):Bool×Int:=zM (zj0 zh) default n (n_,t13,t14,t15,()) ()
def zod (r:Int):LTree ty:=.done (.exit 0) [.lit (.int .i64 r)] []
def zoW:LL ty ttTannotationnesting6:=za (lInt .i64) (za (lSl 152) (za (lInt .i64) (za (lInt .i64) zD)))
def zoZ:BL ty (Unit):=bNil
def znG (x:ttTannotationnesting0) (y:Factor×Unit):Nat:=(Int.toNat x.1+Int.toNat x.2.2.1+x.2.2.2.1.length+Int.toNat x.2.2.2.2.1+Int.toNat x.2.2.2.2.2.1+x.2.2.2.2.2.2.1.length+Int.toNat x.2.2.2.2.2.2.2.1+Int.toNat x.2.2.2.2.2.2.2.2.1+x.2.2.2.2.2.2.2.2.2.1.length+Int.toNat x.2.2.2.2.2.2.2.2.2.2.1+Int.toNat x.2.2.2.2.2.2.2.2.2.2.2.1+y.1.Atom.Args.length+y.1.Atom.Items.length+1000)
def zns (x:ttTannotationnesting2) (y:Unit):Nat:=(Int.toNat x.1+Int.toNat x.2.1+x.2.2.1.length+Int.toNat x.2.2.2.1+Int.toNat x.2.2.2.2.1+x.2.2.2.2.2.1.length+Int.toNat x.2.2.2.2.2.2.1+Int.toNat x.2.2.2.2.2.2.2.1+x.2.2.2.2.2.2.2.2.1.length+Int.toNat x.2.2.2.2.2.2.2.2.2.1+Int.toNat x.2.2.2.2.2.2.2.2.2.2.1+1000)
def zoh (x:ttTannotationnesting4) (y:Unit):Nat:=(Int.toNat x.1+x.2.1.length+Int.toNat x.2.2.1+Int.toNat x.2.2.2.1+x.2.2.2.2.1.length+Int.toNat x.2.2.2.2.2.1+Int.toNat x.2.2.2.2.2.2.1+1000)
def zom (x:ttTannotationnesting6) (y:Unit):Nat:=(Int.toNat x.1+x.2.1.length+Int.toNat x.2.2.1+Int.toNat x.2.2.2.1+1000)
def zfY (zh:List Term→Bool×Int):Cx ty:=mkCx base 64 [(136,(zhf zh))] [] [(3,[(3,.keep),(13,.keep),(14,.keep),(15,.keep)]),(6,[(3,.keep),(13,.keep),(14,.keep),(15,.keep),(20,.keep),(21,.keep),(22,.keep)]),(11,[(3,.keep),(7,.keep),(8,.keep),(13,.keep),(14,.keep),(15,.keep),(20,.keep),(21,.keep),(22,.keep),(32,.keep),(33,.keep),(34,.keep)]),(16,[(3,.keep),(8,.keep),(13,.keep),(14,.keep),(15,.keep),(20,.keep),(21,.keep),(22,.keep),(45,.keep),(46,.keep),(47,.keep)])] [(3,1,[(3,.keep)]),(6,3,[(3,.keep),(13,.keep),(14,.keep),(15,.keep)]),(11,5,[(3,.keep),(7,.keep),(8,.keep),(13,.keep),(14,.keep),(15,.keep),(20,.keep),(21,.keep),(22,.keep)]),(16,7,[(3,.keep),(8,.keep),(13,.keep),(14,.keep),(15,.keep),(20,.keep),(21,.keep),(22,.keep)])] [(11,spW zoi zn0 (zjP zh) default znd znG),(16,spW zoD zoA (zjL zh) default znM zns),(6,spW zo5 zo7 (zjX zh) default zof zoh),(3,spW zoW zoZ (zj0 zh) default zod zom)] []
theorem zvf (zh:List Term→Bool×Int):zU (zfY zh) (lp (body Tryz.f136) 2):=zL (id:=11) (V:=zoi) (B:=zn0) (W:=zjP zh) (z:=default) (tr:=znd) (m:=znG)
theorem zvk (zh:List Term→Bool×Int):zU (zfY zh) (lp (body Tryz.f136) 3):=zL (id:=16) (V:=zoD) (B:=zoA) (W:=zjL zh) (z:=default) (tr:=znM) (m:=zns)
theorem zvz (zh:List Term→Bool×Int):zU (zfY zh) (lp (body Tryz.f136) 1):=zL (id:=6) (V:=zo5) (B:=zo7) (W:=zjX zh) (z:=default) (tr:=zof) (m:=zoh)
theorem zwh (zh:List Term→Bool×Int):zU (zfY zh) (lp (body Tryz.f136) 0):=zL (id:=3) (V:=zoW) (B:=zoZ) (W:=zj0 zh) (z:=default) (tr:=zod) (m:=zom)
def zp8 (zh:List Term→Bool×Int) (a:List Term):Wy0 (Int):=.bn (zwA zh (Int.toNat 0+a.length+(Int.ofNat a.length).toNat +Int.toNat 0+1000) 0 a (Int.ofNat a.length) 0) fun r10=>.k r10
def zsh (zh:List Term→Bool×Int) (a:List Term):Bool×Int:=(zp8 zh a).fin default
theorem zuA (zh:List Term→Bool×Int) (zxn:Sound Tryz.prog base 136 (zhf zh)):Sound Tryz.prog base 136 (zhf (zsh zh)):=
 zx (cx':=(zfY zh)) zH zo zF (zA ⟨zxn,trivial⟩) Tryz.call136 Tryz.func136 (c:=body Tryz.f136) (by kernel_rfl) (zi (l:=[lp (body Tryz.f136) 0,lp (body Tryz.f136) 1,lp (body Tryz.f136) 2,lp (body Tryz.f136) 3]) (by kernel_rfl) ⟨zwh zh,zvz zh,zvf zh,zvk zh,trivial⟩) (sg:=⟨[.pure],[]⟩) (A:=zrK) (res:=zqj) (W:=fun x=>zp8 zh x.1) (z:=default)
def zBD:Nat→(List Term→Bool×Int)
 | 0=>fun _=>(false,default)
 | n+1=>zsh (zBD n)
def zrx (n:Nat):List Term→Bool×Int:=zBD n
theorem zzN:∀ n,Sound Tryz.prog base 136 (zhf (zrx n))
 | 0=>zbm Tryz.call136 (fun _=>rfl)
 | n+1=>by
  have ih:=zzN n
  exact zuA _ (ih)
def ztA:List Term→Bool×Int:=zrx 1000
def annotation_nesting_spec:Ab.Spec ty:=zhf ztA
theorem zvu:Sound Tryz.prog base 136 annotation_nesting_spec:=(zzN 1000)
def zuc:Cx ty:=mkCx base 13 [] [] [] [] [] []
def zna (f:Factor):Wy0 (Bool):=.i (decide (f.Exp>64)) (.k true) (.k (decide (Int.ofNat f.Atom.Items.length>1024)))
def zjS (f:Factor):Bool×Bool:=(zna f).fin default
def zlU (r:Bool):ARes ty:=⟨[.pure (.lit (.bool r))],[]⟩
def znv:AL base (Factor×Unit):=zf (zg (vAgg 160)) aNil
def zfE:Ab.Spec ty:=zn znv fun x=>((zjS x.1).1,zlU (zjS x.1).2)
theorem zhw:Sound Tryz.prog base 141 zfE:=
 zx (cx':=zuc) zH zo zF (zA trivial) Tryz.call141 Tryz.func141 (c:=body Tryz.f141) (by kernel_rfl) (zi (l:=[]) (by kernel_rfl) trivial) (sg:=⟨[.pure],[]⟩) (A:=znv) (res:=zlU) (W:=fun x=>zna x.1) (z:=default)
abbrev ttTslicesIndexFuncLapiFactorapiFactorwi0:=List Factor×Unit×Int×Int×Unit
def zke (s:List Factor) (t7:Int) (t8:Int):Wy ttTslicesIndexFuncLapiFactorapiFactorwi0 (Unit) (Int⊕Unit):=.i (decide (t8<t7)) (.i (decide (0≤t8)&&decide (t8<Int.ofNat s.length)) (.bn (zjS (FactorOf.mk (Atom.mk (s.getD t8.toNat default).Atom.Kind (s.getD t8.toNat default).Atom.Row (s.getD t8.toNat default).Atom.Args (s.getD t8.toNat default).Atom.Func (s.getD t8.toNat default).Atom.Items (s.getD t8.toNat default).Atom.Op (s.getD t8.toNat default).Atom.Bound) (s.getD t8.toNat default).Exp)) fun r0=>.i (r0) (.k (.inl t8)) (.h (s,(),t7,(IntKind.i64.wrap (t8+1)),()) ())) .d) (.k (.inr ()))
def zc5 (x:ttTslicesIndexFuncLapiFactorapiFactorwi0) (y:Unit):Wy ttTslicesIndexFuncLapiFactorapiFactorwi0 (Unit) (Int⊕Unit):=zke x.1 x.2.2.1 x.2.2.2.1
def zkl (n:Nat) (s:List Factor) (t7:Int) (t8:Int):Bool×(Int⊕Unit):=zM (zc5) (.inl default) n (s,(),t7,t8,()) ()
def zfX (r:Int⊕Unit):LTree ty:=.ite (isL r) (.done .ret [.lit (.int .i64 (getL r))] []) (.done (.exit 0) [] [])
def zgh:LL ty ttTslicesIndexFuncLapiFactorapiFactorwi0:=za (lSl 160) (za (lFn 141 (zD)) (za (lInt .i64) (za (lInt .i64) zD)))
def zf7:BL ty (Unit):=bNil
def zfR (x:ttTslicesIndexFuncLapiFactorapiFactorwi0) (y:Unit):Nat:=(x.1.length+Int.toNat x.2.2.1+Int.toNat x.2.2.2.1+1000)
def zf4:Cx ty:=mkCx base 19 [(141,zfE)] [] [(2,[(0,.keep),(1,.keep),(7,.keep),(8,.keep)])] [(2,1,[]),(2,0,[(4,.keep)])] [(2,spW zgh zf7 (zc5) (.inl default) zfX zfR)] []
theorem zj1:zU zf4 (lp (body Tryz.f196) 0):=zL (id:=2) (V:=zgh) (B:=zf7) (W:=zc5) (z:=.inl default) (tr:=zfX) (m:=zfR)
def zgv (s:List Factor):Wy0 (Int):=.bn (zkl (s.length+(Int.ofNat s.length).toNat +Int.toNat 0+1000) s (Int.ofNat s.length) 0) fun r2=>.i (isL r2) (.k (getL r2)) (.k (-1:Int))
def zdx (s:List Factor):Bool×Int:=(zgv s).fin default
def zfW (r:Int):ARes ty:=⟨[.pure (.lit (.int .i64 r))],[]⟩
def zgp:AL base (List Factor×Unit×Unit):=zf (zg (vSl 160)) (zf (zg (vFn 141 vNil)) aNil)
def zfu:Ab.Spec ty:=zn zgp fun x=>((zdx x.1).1,zfW (zdx x.1).2)
theorem zjJ:Sound Tryz.prog base 196 zfu:=
 zx (cx':=zf4) zH zo zF (zA ⟨zhw,trivial⟩) Tryz.call196 Tryz.func196 (c:=body Tryz.f196) (by kernel_rfl) (zi (l:=[lp (body Tryz.f196) 0]) (by kernel_rfl) ⟨zj1,trivial⟩) (sg:=⟨[.pure],[]⟩) (A:=zgp) (res:=zfW) (W:=fun x=>zgv x.1) (z:=default)
def zjI:Cx ty:=mkCx base 9 [(141,zfE),(196,zfu)] [] [] [] [] []
def zfw (s:List Factor):Wy0 (Bool):=.bn (zdx s) fun r0=>.k (decide (r0≥0))
def zc4 (s:List Factor):Bool×Bool:=(zfw s).fin default
def ze5 (r:Bool):ARes ty:=⟨[.pure (.lit (.bool r))],[]⟩
def zfz:AL base (List Factor×Unit×Unit):=zf (zg (vSl 160)) (zf (zg (vFn 141 vNil)) aNil)
def zeC:Ab.Spec ty:=zn zfz fun x=>((zc4 x.1).1,ze5 (zc4 x.1).2)
theorem ziM:Sound Tryz.prog base 140 zeC:=
 zx (cx':=zjI) zH zo zF (zA ⟨zhw,zjJ,trivial⟩) Tryz.call140 Tryz.func140 (c:=body Tryz.f140) (by kernel_rfl) (zi (l:=[]) (by kernel_rfl) trivial) (sg:=⟨[.pure],[]⟩) (A:=zfz) (res:=ze5) (W:=fun x=>zfw x.1) (z:=default)
def zwz:Cx ty:=mkCx base 12 [(140,zeC),(141,zfE)] [] [] [] [] []
def zpK (t:Term):Wy0 (Bool):=.i (decide (Int.ofNat t.Factors.length>64)) (.k true) (.bn (zc4 t.Factors) fun r0=>.k r0)
def zmo (t:Term):Bool×Bool:=(zpK t).fin default
def zn4 (r:Bool):ARes ty:=⟨[.pure (.lit (.bool r))],[]⟩
def zpS:AL base (Term×Unit):=zf (zg (vAgg 152)) aNil
def zg1:Ab.Spec ty:=zn zpS fun x=>((zmo x.1).1,zn4 (zmo x.1).2)
theorem ziE:Sound Tryz.prog base 139 zg1:=
 zx (cx':=zwz) zH zo zF (zA ⟨ziM,zhw,trivial⟩) Tryz.call139 Tryz.func139 (c:=body Tryz.f139) (by kernel_rfl) (zi (l:=[]) (by kernel_rfl) trivial) (sg:=⟨[.pure],[]⟩) (A:=zpS) (res:=zn4) (W:=fun x=>zpK x.1) (z:=default)
abbrev ttTslicesIndexFuncapiAnnotationapiTermwi0:=List Term×Unit×Int×Int×Unit
def zjY (s:List Term) (t7:Int) (t8:Int):Wy ttTslicesIndexFuncapiAnnotationapiTermwi0 (Unit) (Int⊕Unit):=.i (decide (t8<t7)) (.i (decide (0≤t8)&&decide (t8<Int.ofNat s.length)) (.bn (zmo (s.getD t8.toNat default)) fun r0=>.i (r0) (.k (.inl t8)) (.h (s,(),t7,(IntKind.i64.wrap (t8+1)),()) ())) .d) (.k (.inr ()))
def zcV (x:ttTslicesIndexFuncapiAnnotationapiTermwi0) (y:Unit):Wy ttTslicesIndexFuncapiAnnotationapiTermwi0 (Unit) (Int⊕Unit):=zjY x.1 x.2.2.1 x.2.2.2.1
def zj6 (n:Nat) (s:List Term) (t7:Int) (t8:Int):Bool×(Int⊕Unit):=zM (zcV) (.inl default) n (s,(),t7,t8,()) ()
def zfB (r:Int⊕Unit):LTree ty:=.ite (isL r) (.done .ret [.lit (.int .i64 (getL r))] []) (.done (.exit 0) [] [])
def zfQ:LL ty ttTslicesIndexFuncapiAnnotationapiTermwi0:=za (lSl 152) (za (lFn 139 (zD)) (za (lInt .i64) (za (lInt .i64) zD)))
def zfS:BL ty (Unit):=bNil
def zfy (x:ttTslicesIndexFuncapiAnnotationapiTermwi0) (y:Unit):Nat:=(x.1.length+Int.toNat x.2.2.1+Int.toNat x.2.2.2.1+1000)
def zfP:Cx ty:=mkCx base 19 [(139,zg1)] [] [(2,[(0,.keep),(1,.keep),(7,.keep),(8,.keep)])] [(2,1,[]),(2,0,[(4,.keep)])] [(2,spW zfQ zfS (zcV) (.inl default) zfB zfy)] []
theorem zjQ:zU zfP (lp (body Tryz.f195) 0):=zL (id:=2) (V:=zfQ) (B:=zfS) (W:=zcV) (z:=.inl default) (tr:=zfB) (m:=zfy)
def zf9 (s:List Term):Wy0 (Int):=.bn (zj6 (s.length+(Int.ofNat s.length).toNat +Int.toNat 0+1000) s (Int.ofNat s.length) 0) fun r2=>.i (isL r2) (.k (getL r2)) (.k (-1:Int))
def zdb (s:List Term):Bool×Int:=(zf9 s).fin default
def zfC (r:Int):ARes ty:=⟨[.pure (.lit (.int .i64 r))],[]⟩
def zf6:AL base (List Term×Unit×Unit):=zf (zg (vSl 152)) (zf (zg (vFn 139 vNil)) aNil)
def zfo:Ab.Spec ty:=zn zf6 fun x=>((zdb x.1).1,zfC (zdb x.1).2)
theorem zjz:Sound Tryz.prog base 195 zfo:=
 zx (cx':=zfP) zH zo zF (zA ⟨ziE,trivial⟩) Tryz.call195 Tryz.func195 (c:=body Tryz.f195) (by kernel_rfl) (zi (l:=[lp (body Tryz.f195) 0]) (by kernel_rfl) ⟨zjQ,trivial⟩) (sg:=⟨[.pure],[]⟩) (A:=zf6) (res:=zfC) (W:=fun x=>zf9 x.1) (z:=default)
def zjq:Cx ty:=mkCx base 9 [(139,zg1),(195,zfo)] [] [] [] [] []
def zff (s:List Term):Wy0 (Bool):=.bn (zdb s) fun r0=>.k (decide (r0≥0))
def zcX (s:List Term):Bool×Bool:=(zff s).fin default
def zeL (r:Bool):ARes ty:=⟨[.pure (.lit (.bool r))],[]⟩
def ze8:AL base (List Term×Unit×Unit):=zf (zg (vSl 152)) (zf (zg (vFn 139 vNil)) aNil)
def zeo:Ab.Spec ty:=zn ze8 fun x=>((zcX x.1).1,zeL (zcX x.1).2)
theorem ziB:Sound Tryz.prog base 138 zeo:=
 zx (cx':=zjq) zH zo zF (zA ⟨ziE,zjz,trivial⟩) Tryz.call138 Tryz.func138 (c:=body Tryz.f138) (by kernel_rfl) (zi (l:=[]) (by kernel_rfl) trivial) (sg:=⟨[.pure],[]⟩) (A:=ze8) (res:=zeL) (W:=fun x=>zff x.1) (z:=default)
def zy3:Cx ty:=mkCx base 19 [(136,annotation_nesting_spec),(137,annotation_Size_spec),(138,zeo),(139,zg1)] [] [] [] [] []
def zsy (a:List Term):Wy0 (Bool):=.i (decide (Int.ofNat a.length>512)) (.k false) (.bn (ztA a) fun r2=>.i (decide (r2>8)) (.k false) (.bn (zwL a) fun r1=>.i (decide (r1>4096)) (.k false) (.bn (zcX a) fun r0=>.k (!r0))))
def zpD (a:List Term):Bool×Bool:=(zsy a).fin default
def zrb (r:Bool):ARes ty:=⟨[.pure (.lit (.bool r))],[]⟩
def zsE:AL base (List Term×Unit):=zf (zg (vSl 152)) aNil
def zqd:Ab.Spec ty:=zn zsE fun x=>((zpD x.1).1,zrb (zpD x.1).2)
theorem zwB:Sound Tryz.prog base 107 zqd:=
 zx (cx':=zy3) zH zo zF (zA ⟨zvu,zxS,ziB,ziE,trivial⟩) Tryz.call107 Tryz.func107 (c:=body Tryz.f107) (by kernel_rfl) (zi (l:=[]) (by kernel_rfl) trivial) (sg:=⟨[.pure],[]⟩) (A:=zsE) (res:=zrb) (W:=fun x=>zsy x.1) (z:=default)
end Go.Proofs.YtddkaehkimnklaaGreatDoor
end
