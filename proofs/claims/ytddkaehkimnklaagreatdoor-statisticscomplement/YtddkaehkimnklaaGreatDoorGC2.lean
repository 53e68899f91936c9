/- Texts of this claim, joined (the program, its functions in plain words, and what they compute). -/
import Derived.Test.YtddkaehkimnklaaGreatDoorGC1
import Derived.Test.YtddkaehkimnklaaGreatDoorGA3
set_option autoImplicit false
set_option linter.unusedVariables false
set_option linter.unusedSectionVars false
set_option linter.unusedSimpArgs false
set_option maxRecDepth 1000000
set_option maxHeartbeats 0
noncomputable section
namespace Go.Proofs.YtddkaehkimnklaaGreatDoor
open Go Go.Ab
abbrev ttTstatisticsFormat0:=Unit×Unit×Unit×ByteArray×Unit×List ColumnStats×Int×Int×List Value×Int×Int×Unit
abbrev ttTstatisticsFormat1:=Stats×List ByteArray×ColumnStats×List ByteArray×Unit
abbrev ttTstatisticsFormat2:=ByteArray×List ColumnStats×Int×Int×Stats×List ByteArray×ColumnStats×List ByteArray
abbrev ttTstatisticsFormat3:=Unit×Unit×List ColumnStats×Int×Int×Unit
abbrev ttTstatisticsFormat4:=Stats×List ByteArray×Unit
def zxi (line:ByteArray) (t25:List ColumnStats) (t26:Int) (t27:Int) (t45:List Value) (t46:Int) (t47:Int) (s:Stats) (out_:List ByteArray) (c:ColumnStats) (l:List ByteArray):Wy ttTstatisticsFormat0 ttTstatisticsFormat1 ttTstatisticsFormat2:=.i (decide (t47<t46)) (.i (decide (0≤t47)&&decide (t47<Int.ofNat t45.length)) (.bn (znh (t45.getD t47.toNat default)) fun r0=>.i (decide ((l.length+[r0].length)*16≤zdv)) (.h ((),(),(),line,(),t25,t26,t27,t45,t46,(IntKind.i64.wrap (t47+1)),()) (s,out_,c,(l++[r0]),())) .d) .d) (.k (line,t25,t26,t27,s,out_,c,l))
def zle (x:ttTstatisticsFormat0) (y:ttTstatisticsFormat1):Wy ttTstatisticsFormat0 ttTstatisticsFormat1 ttTstatisticsFormat2:=zxi x.2.2.2.1 x.2.2.2.2.2.1 x.2.2.2.2.2.2.1 x.2.2.2.2.2.2.2.1 x.2.2.2.2.2.2.2.2.1 x.2.2.2.2.2.2.2.2.2.1 x.2.2.2.2.2.2.2.2.2.2.1 y.1 y.2.1 y.2.2.1 y.2.2.2.1
def zw0 (n:Nat) (line:ByteArray) (t25:List ColumnStats) (t26:Int) (t27:Int) (t45:List Value) (t46:Int) (t47:Int) (s:Stats) (out_:List ByteArray) (c:ColumnStats) (l:List ByteArray):Bool×ttTstatisticsFormat2:=zba (zle) default n ((),(),(),line,(),t25,t26,t27,t45,t46,t47,()) (s,out_,c,l,())
def zoF (r:ttTstatisticsFormat2):LTree ty:=.done (.exit 2) [.ptr 312 0,.own 313,.ptr 314 0,.lit (.string r.1),.own 315,.sl 43 r.2.1,.lit (.int .i64 r.2.2.1),.lit (.int .i64 r.2.2.2.1)] [.box (base.enc 30 r.2.2.2.2.1) false,.arr 9 r.2.2.2.2.2.1 false,.box (base.enc 43 r.2.2.2.2.2.2.1) false,.arr 9 r.2.2.2.2.2.2.2 false]
def zpm:LL ty ttTstatisticsFormat0:=za (zcS 312 0) (za (lOwn 313) (za (zcS 314 0) (za lStr (za (lOwn 315) (za (lSl 43) (za (lInt .i64) (za (lInt .i64) (za (lSl 40) (za (lInt .i64) (za (lInt .i64) zF))))))))))
def zp8:BL ty ttTstatisticsFormat1:=bBox (zfM (fun x=>(⟨x.1,x.2.1,x.2.2.1⟩:Stats)) (fun x=>(x.Table,x.Rows,x.Columns,())) (fun _=>rfl) (za (lInt .i64) (za (lInt .i64) (za (lSl 43) zF)))) false (bArr 9 false (bBox (zfM (fun x=>(⟨x.1,⟨x.2.1,x.2.2.1,x.2.2.2.1⟩,⟨x.2.2.2.2.1,x.2.2.2.2.2.1,x.2.2.2.2.2.2.1⟩,x.2.2.2.2.2.2.2.1⟩:ColumnStats)) (fun x=>(x.Distinct,x.Min.Kind,x.Min.Int,x.Min.Text,x.Max.Kind,x.Max.Int,x.Max.Text,x.Bounds,())) (fun _=>rfl) (za (lInt .i64) (za (lInt .i64) (za (lInt .i64) (za lStr (za (lInt .i64) (za (lInt .i64) (za lStr (za (lSl 40) zF))))))))) false (bArr 9 false (bNil))))
def zx7 (t25:List ColumnStats) (t26:Int) (t27:Int) (s:Stats) (out_:List ByteArray):Wy ttTstatisticsFormat3 ttTstatisticsFormat4 (List ByteArray):=.i (decide (t27<t26)) (.i (decide (0≤t27)&&decide (t27<Int.ofNat t25.length)) (.bn (strconv_Itoa t27) fun r7=>.i (decide ((ByteArray.mk #[(99:UInt8),(111:UInt8),(108:UInt8),(117:UInt8),(109:UInt8),(110:UInt8),(32:UInt8)]).size+r7.size≤9223372036854775807)) (.i (decide ((ByteArray.mk #[(99:UInt8),(111:UInt8),(108:UInt8),(117:UInt8),(109:UInt8),(110:UInt8),(32:UInt8)]++r7).size+(ByteArray.mk #[(58:UInt8),(32:UInt8)]).size≤9223372036854775807)) (.bn (strconv_Itoa (t25.getD t27.toNat default).Distinct) fun r6=>.i (decide ((ByteArray.mk #[(99:UInt8),(111:UInt8),(108:UInt8),(117:UInt8),(109:UInt8),(110:UInt8),(32:UInt8)]++r7++ByteArray.mk #[(58:UInt8),(32:UInt8)]).size+r6.size≤9223372036854775807)) (.i (decide ((ByteArray.mk #[(99:UInt8),(111:UInt8),(108:UInt8),(117:UInt8),(109:UInt8),(110:UInt8),(32:UInt8)]++r7++ByteArray.mk #[(58:UInt8),(32:UInt8)]++r6).size+(ByteArray.mk #[(32:UInt8),(100:UInt8),(105:UInt8),(115:UInt8),(116:UInt8),(105:UInt8),(110:UInt8),(99:UInt8),(116:UInt8)]).size≤9223372036854775807)) (.i (decide (s.Rows>0)) (.bn (zw0 ((ByteArray.mk #[(99:UInt8),(111:UInt8),(108:UInt8),(117:UInt8),(109:UInt8),(110:UInt8),(32:UInt8)]++r7++ByteArray.mk #[(58:UInt8),(32:UInt8)]++r6++ByteArray.mk #[(32:UInt8),(100:UInt8),(105:UInt8),(115:UInt8),(116:UInt8),(105:UInt8),(110:UInt8),(99:UInt8),(116:UInt8)]).size+t25.length+t26.toNat +t27.toNat +(t25.getD t27.toNat default).Bounds.length+(Int.ofNat (t25.getD t27.toNat default).Bounds.length).toNat +Int.toNat 0+s.Columns.length+out_.length+(t25.getD t27.toNat default).Bounds.length+0+1000) (ByteArray.mk #[(99:UInt8),(111:UInt8),(108:UInt8),(117:UInt8),(109:UInt8),(110:UInt8),(32:UInt8)]++r7++ByteArray.mk #[(58:UInt8),(32:UInt8)]++r6++ByteArray.mk #[(32:UInt8),(100:UInt8),(105:UInt8),(115:UInt8),(116:UInt8),(105:UInt8),(110:UInt8),(99:UInt8),(116:UInt8)]) t25 t26 t27 (t25.getD t27.toNat default).Bounds (Int.ofNat (t25.getD t27.toNat default).Bounds.length) 0 s out_ (t25.getD t27.toNat default) []) fun r5=>.bn (znh r5.2.2.2.2.2.2.1.Min) fun r4=>.i (decide ((ByteArray.mk #[(44:UInt8),(32:UInt8)]).size+r4.size≤9223372036854775807)) (.i (decide ((ByteArray.mk #[(44:UInt8),(32:UInt8)]++r4).size+(ByteArray.mk #[(32:UInt8),(116:UInt8),(111:UInt8),(32:UInt8)]).size≤9223372036854775807)) (.bn (znh r5.2.2.2.2.2.2.1.Max) fun r3=>.i (decide ((ByteArray.mk #[(44:UInt8),(32:UInt8)]++r4++ByteArray.mk #[(32:UInt8),(116:UInt8),(111:UInt8),(32:UInt8)]).size+r3.size≤9223372036854775807)) (.i (decide ((ByteArray.mk #[(44:UInt8),(32:UInt8)]++r4++ByteArray.mk #[(32:UInt8),(116:UInt8),(111:UInt8),(32:UInt8)]++r3).size+(ByteArray.mk #[(44:UInt8),(32:UInt8),(98:UInt8),(111:UInt8),(117:UInt8),(110:UInt8),(100:UInt8),(97:UInt8),(114:UInt8),(105:UInt8),(101:UInt8),(115:UInt8),(32:UInt8)]).size≤9223372036854775807)) (.bn (strings_Join r5.2.2.2.2.2.2.2 (ByteArray.mk #[(44:UInt8),(32:UInt8)])) fun r2=>.i (decide ((ByteArray.mk #[(44:UInt8),(32:UInt8)]++r4++ByteArray.mk #[(32:UInt8),(116:UInt8),(111:UInt8),(32:UInt8)]++r3++ByteArray.mk #[(44:UInt8),(32:UInt8),(98:UInt8),(111:UInt8),(117:UInt8),(110:UInt8),(100:UInt8),(97:UInt8),(114:UInt8),(105:UInt8),(101:UInt8),(115:UInt8),(32:UInt8)]).size+r2.size≤9223372036854775807)) (.i (decide (r5.1.size+(ByteArray.mk #[(44:UInt8),(32:UInt8)]++r4++ByteArray.mk #[(32:UInt8),(116:UInt8),(111:UInt8),(32:UInt8)]++r3++ByteArray.mk #[(44:UInt8),(32:UInt8),(98:UInt8),(111:UInt8),(117:UInt8),(110:UInt8),(100:UInt8),(97:UInt8),(114:UInt8),(105:UInt8),(101:UInt8),(115:UInt8),(32:UInt8)]++r2).size≤9223372036854775807)) (.i (decide ((r5.2.2.2.2.2.1.length+[r5.1++(ByteArray.mk #[(44:UInt8),(32:UInt8)]++r4++ByteArray.mk #[(32:UInt8),(116:UInt8),(111:UInt8),(32:UInt8)]++r3++ByteArray.mk #[(44:UInt8),(32:UInt8),(98:UInt8),(111:UInt8),(117:UInt8),(110:UInt8),(100:UInt8),(97:UInt8),(114:UInt8),(105:UInt8),(101:UInt8),(115:UInt8),(32:UInt8)]++r2)].length)*16≤zdv)) (.h ((),(),(r5.2.1),(r5.2.2.1),(IntKind.i64.wrap (r5.2.2.2.1+1)),()) ((r5.2.2.2.2.1),(r5.2.2.2.2.2.1++[r5.1++(ByteArray.mk #[(44:UInt8),(32:UInt8)]++r4++ByteArray.mk #[(32:UInt8),(116:UInt8),(111:UInt8),(32:UInt8)]++r3++ByteArray.mk #[(44:UInt8),(32:UInt8),(98:UInt8),(111:UInt8),(117:UInt8),(110:UInt8),(100:UInt8),(97:UInt8),(114:UInt8),(105:UInt8),(101:UInt8),(115:UInt8),(32:UInt8)]++r2)]),())) .d) .d) .d) .d) .d) .d) .d) (.i (decide ((out_.length+[ByteArray.mk #[(99:UInt8),(111:UInt8),(108:UInt8),(117:UInt8),(109:UInt8),(110:UInt8),(32:UInt8)]++r7++ByteArray.mk #[(58:UInt8),(32:UInt8)]++r6++ByteArray.mk #[(32:UInt8),(100:UInt8),(105:UInt8),(115:UInt8),(116:UInt8),(105:UInt8),(110:UInt8),(99:UInt8),(116:UInt8)]].length)*16≤zdv)) (.h ((),(),t25,t26,(IntKind.i64.wrap (t27+1)),()) (s,(out_++[ByteArray.mk #[(99:UInt8),(111:UInt8),(108:UInt8),(117:UInt8),(109:UInt8),(110:UInt8),(32:UInt8)]++r7++ByteArray.mk #[(58:UInt8),(32:UInt8)]++r6++ByteArray.mk #[(32:UInt8),(100:UInt8),(105:UInt8),(115:UInt8),(116:UInt8),(105:UInt8),(110:UInt8),(99:UInt8),(116:UInt8)]]),())) .d)) .d) .d) .d) .d) .d) (.k out_)
def zl7 (x:ttTstatisticsFormat3) (y:ttTstatisticsFormat4):Wy ttTstatisticsFormat3 ttTstatisticsFormat4 (List ByteArray):=zx7 x.2.2.1 x.2.2.2.1 x.2.2.2.2.1 y.1 y.2.1
def zxX (n:Nat) (t25:List ColumnStats) (t26:Int) (t27:Int) (s:Stats) (out_:List ByteArray):Bool×List ByteArray:=zba (zl7) default n ((),(),t25,t26,t27,()) (s,out_,())
def zqa (r:List ByteArray):LTree ty:=.done (.exit 0) [.own 312] [.arr 9 r false]
def zqQ:LL ty ttTstatisticsFormat3:=za (zcS 312 0) (za (lOwn 313) (za (lSl 43) (za (lInt .i64) (za (lInt .i64) zF))))
def zqP:BL ty ttTstatisticsFormat4:=bBox (zfM (fun x=>(⟨x.1,x.2.1,x.2.2.1⟩:Stats)) (fun x=>(x.Table,x.Rows,x.Columns,())) (fun _=>rfl) (za (lInt .i64) (za (lInt .i64) (za (lSl 43) zF)))) false (bArr 9 false (bNil))
def zoz (x:ttTstatisticsFormat0) (y:ttTstatisticsFormat1):Nat:=(x.2.2.2.1.size+x.2.2.2.2.2.1.length+Int.toNat x.2.2.2.2.2.2.1+Int.toNat x.2.2.2.2.2.2.2.1+x.2.2.2.2.2.2.2.2.1.length+Int.toNat x.2.2.2.2.2.2.2.2.2.1+Int.toNat x.2.2.2.2.2.2.2.2.2.2.1+y.1.Columns.length+y.2.1.length+y.2.2.1.Bounds.length+y.2.2.2.1.length+1000)
def zpZ (x:ttTstatisticsFormat3) (y:ttTstatisticsFormat4):Nat:=(x.2.2.1.length+Int.toNat x.2.2.2.1+Int.toNat x.2.2.2.2.1+y.1.Columns.length+y.2.1.length+1000)
def zlV:Cx ty:=mkCx base0 78 [(15,zg0),(52,strconv_Itoa_spec),(53,ztg),(54,strings_Join_spec)] [] [(5,[(1,.keep),(3,.keep),(25,.keep),(26,.keep),(27,.keep)]),(11,[(1,.keep),(3,.keep),(5,.keep),(6,.keep),(7,.own 9),(25,.keep),(26,.keep),(27,.keep),(45,.keep),(46,.keep),(47,.keep)])] [(5,1,[(3,.keep)]),(11,3,[(1,.keep),(3,.keep),(5,.keep),(6,.keep),(7,.keep),(25,.keep),(26,.keep),(27,.keep)])] [(11,spW zpm zp8 (zle) default zoF zoz),(5,spW zqQ zqP (zl7) default zqa zpZ)] []
theorem zv9:z8 zlV (lp (body Tryz.f24) 1):=zQ (id:=11) (V:=zpm) (B:=zp8) (W:=zle) (z:=default) (tr:=zoF) (m:=zoz)
theorem zwy:z8 zlV (lp (body Tryz.f24) 0):=zQ (id:=5) (V:=zqQ) (B:=zqP) (W:=zl7) (z:=default) (tr:=zqa) (m:=zpZ)
def zro (s:Stats):Wy0 (List ByteArray):=.bn (zgX s) fun r17=>.i (!r17) (.k []) (.bn (strconv_Itoa s.Table) fun r16=>.i (decide ((ByteArray.mk #[(116:UInt8),(97:UInt8),(98:UInt8),(108:UInt8),(101:UInt8),(32:UInt8),(116:UInt8)]).size+r16.size≤9223372036854775807)) (.i (decide ((ByteArray.mk #[(116:UInt8),(97:UInt8),(98:UInt8),(108:UInt8),(101:UInt8),(32:UInt8),(116:UInt8)]++r16).size+(ByteArray.mk #[(58:UInt8),(32:UInt8)]).size≤9223372036854775807)) (.bn (strconv_Itoa s.Rows) fun r15=>.i (decide ((ByteArray.mk #[(116:UInt8),(97:UInt8),(98:UInt8),(108:UInt8),(101:UInt8),(32:UInt8),(116:UInt8)]++r16++ByteArray.mk #[(58:UInt8),(32:UInt8)]).size+r15.size≤9223372036854775807)) (.i (decide ((ByteArray.mk #[(116:UInt8),(97:UInt8),(98:UInt8),(108:UInt8),(101:UInt8),(32:UInt8),(116:UInt8)]++r16++ByteArray.mk #[(58:UInt8),(32:UInt8)]++r15).size+(ByteArray.mk #[(32:UInt8),(114:UInt8),(111:UInt8),(119:UInt8),(115:UInt8)]).size≤9223372036854775807)) (.bn (zxX (s.Columns.length+(Int.ofNat s.Columns.length).toNat +Int.toNat 0+s.Columns.length+[ByteArray.mk #[(116:UInt8),(97:UInt8),(98:UInt8),(108:UInt8),(101:UInt8),(32:UInt8),(116:UInt8)]++r16++ByteArray.mk #[(58:UInt8),(32:UInt8)]++r15++ByteArray.mk #[(32:UInt8),(114:UInt8),(111:UInt8),(119:UInt8),(115:UInt8)]].length+1000) s.Columns (Int.ofNat s.Columns.length) 0 s [ByteArray.mk #[(116:UInt8),(97:UInt8),(98:UInt8),(108:UInt8),(101:UInt8),(32:UInt8),(116:UInt8)]++r16++ByteArray.mk #[(58:UInt8),(32:UInt8)]++r15++ByteArray.mk #[(32:UInt8),(114:UInt8),(111:UInt8),(119:UInt8),(115:UInt8)]]) fun r14=>.k r14) .d) .d) .d) .d)
def ztj (s:Stats):Bool×List ByteArray:=(zro s).fin default
def zpv (r:List ByteArray):ARes ty:=⟨[.own 9 r],[]⟩
def zrx:AL base0 (Stats×Unit):=zf (zg (vAgg 30)) aNil
def zoW:Ab.Spec ty:=zn zrx fun x=>((ztj x.1).1,zpv (ztj x.1).2)
theorem zuW:Sound Tryz.prog base0 24 zoW:=
 zy (cx':=zlV) zG zrK zC (zA ⟨zh8.nodr,zzJ.nodr,zyN,zzs,trivial⟩) Tryz.call24 Tryz.func24 (c:=body Tryz.f24) (by kernel_rfl) (zi (l:=[lp (body Tryz.f24) 0,lp (body Tryz.f24) 1]) (by kernel_rfl) ⟨zwy,zv9,trivial⟩) (sg:=⟨[.own 9],[]⟩) (A:=zrx) (res:=zpv) (W:=fun x=>zro x.1) (z:=default)
def zoO (r:Int):ARes ty:=⟨[.pure (.lit (.int .i64 r))],[]⟩
def zqF:AL base (List Term×List Term×Unit):=zf (zg (vSl 152)) (zf (zg (vSl 152)) aNil)
def zcx (F:List Term→List Term→Bool×Int):Ab.Spec ty:=zn zqF fun x=>((F x.1 x.2.1).1,zoO (F x.1 x.2.1).2)
def zmF (r:Int):ARes ty:=⟨[.pure (.lit (.int .i64 r))],[]⟩
def znW:AL base (Term×Term×Unit):=zf (zg (vAgg 152)) (zf (zg (vAgg 152)) aNil)
def zd3 (F:Term→Term→Bool×Int):Ab.Spec ty:=zn znW fun x=>((F x.1 x.2.1).1,zmF (F x.1 x.2.1).2)
def zlw (r:Int):ARes ty:=⟨[.pure (.lit (.int .i64 r))],[]⟩
def zm3:AL base (Term×Term×Unit):=zf (zg (vAgg 152)) (zf (zg (vAgg 152)) aNil)
def zeI (F:Term→Term→Bool×Int):Ab.Spec ty:=zn zm3 fun x=>((F x.1 x.2.1).1,zlw (F x.1 x.2.1).2)
def zkI (r:Int):ARes ty:=⟨[.pure (.lit (.int .i64 r))],[]⟩
def zlD:AL base (Factor×Factor×Unit):=zf (zg (vAgg 160)) (zf (zg (vAgg 160)) aNil)
def zcP (F:Factor→Factor→Bool×Int):Ab.Spec ty:=zn zlD fun x=>((F x.1 x.2.1).1,zkI (F x.1 x.2.1).2)
def zlF (r:Int):ARes ty:=⟨[.pure (.lit (.int .i64 r))],[]⟩
def zm0:AL base (Atom×Atom×Unit):=zf (zg (vAgg 158)) (zf (zg (vAgg 158)) aNil)
def zeS (F:Atom→Atom→Bool×Int):Ab.Spec ty:=zn zm0 fun x=>((F x.1 x.2.1).1,zlF (F x.1 x.2.1).2)
def zlz (r:Int):ARes ty:=⟨[.pure (.lit (.int .i64 r))],[]⟩
def zmH:AL base (Weighted×Weighted×Unit):=zf (zg (vAgg 182)) (zf (zg (vAgg 182)) aNil)
def zcy (F:Weighted→Weighted→Bool×Int):Ab.Spec ty:=zn zmH fun x=>((F x.1 x.2.1).1,zlz (F x.1 x.2.1).2)
def zcj (r:Int):ARes ty:=⟨[.pure (.lit (.int .i64 r))],[]⟩
def zcw:AL base (List Term×List Term×Unit×Unit):=zf (zg (vSl 152)) (zf (zg (vSl 152)) (zf (zg (vFn 198 vNil)) aNil))
def zW (F:List Term→List Term→Bool×Int):Ab.Spec ty:=zn zcw fun x=>((F x.1 x.2.1).1,zcj (F x.1 x.2.1).2)
def zcq (r:Int):ARes ty:=⟨[.pure (.lit (.int .i64 r))],[]⟩
def zcA:AL base (List Factor×List Factor×Unit×Unit):=zf (zg (vSl 160)) (zf (zg (vSl 160)) (zf (zg (vFn 143 vNil)) aNil))
def zZ (F:List Factor→List Factor→Bool×Int):Ab.Spec ty:=zn zcA fun x=>((F x.1 x.2.1).1,zcq (F x.1 x.2.1).2)
def zbE (r:Int):ARes ty:=⟨[.pure (.lit (.int .i64 r))],[]⟩
def zbM:AL base (List (List Term)×List (List Term)×Unit×Unit):=zf (zg (vSl 36)) (zf (zg (vSl 36)) (zf (zg (vFn 145 vNil)) aNil))
def zM (F:List (List Term)→List (List Term)→Bool×Int):Ab.Spec ty:=zn zbM fun x=>((F x.1 x.2.1).1,zbE (F x.1 x.2.1).2)
def zbX (r:Int):ARes ty:=⟨[.pure (.lit (.int .i64 r))],[]⟩
def zb6:AL base (List Weighted×List Weighted×Unit×Unit):=zf (zg (vSl 182)) (zf (zg (vSl 182)) (zf (zg (vFn 147 vNil)) aNil))
def zU (F:List Weighted→List Weighted→Bool×Int):Ab.Spec ty:=zn zb6 fun x=>((F x.1 x.2.1).1,zbX (F x.1 x.2.1).2)
def zu8 (zu:List Term→List Term→Bool×Int) (zw:Term→Term→Bool×Int):Cx ty:=mkCx base 8 [(197,(zW zu)),(198,(zd3 zw))] [] [] [] [] []
def zoK (zu:List Term→List Term→Bool×Int) (zw:Term→Term→Bool×Int) (a:List Term) (b:List Term):Wy0 (Int):=.bn (zu a b) fun r0=>.k r0
def zqX (zu:List Term→List Term→Bool×Int) (zw:Term→Term→Bool×Int) (a:List Term) (b:List Term):Bool×Int:=(zoK zu zw a b).fin default
theorem zte (zu:List Term→List Term→Bool×Int) (zw:Term→Term→Bool×Int) (zfL:Sound Tryz.prog base 197 (zW zu)) (zi3:Sound Tryz.prog base 198 (zd3 zw)):Sound Tryz.prog base 145 (zcx (zqX zu zw)):=
 zy (cx':=(zu8 zu zw)) zG zr zC (zA ⟨zfL,zi3,trivial⟩) Tryz.call145 Tryz.func145 (c:=body Tryz.f145) (by kernel_rfl) (zi (l:=[]) (by kernel_rfl) trivial) (sg:=⟨[.pure],[]⟩) (A:=zqF) (res:=zoO) (W:=fun x=>zoK zu zw x.1 x.2.1) (z:=default)
def ztb (zbr:Term→Term→Bool×Int):Cx ty:=mkCx base 15 [(108,(zeI zbr)),(121,ziA),(123,zkn)] [] [] [] [] []
def zmP (zbr:Term→Term→Bool×Int) (x_:Term) (y_:Term):Wy0 (Int):=.bn (zbr x_ y_) fun r2=>.bn (zhv x_.Coeff y_.Coeff) fun r1=>.bn (zjc [r2,r1]) fun r0=>.k r0
def znT (zbr:Term→Term→Bool×Int) (x_:Term) (y_:Term):Bool×Int:=(zmP zbr x_ y_).fin default
theorem zrh (zbr:Term→Term→Bool×Int) (zsr:Sound Tryz.prog base 108 (zeI zbr)):Sound Tryz.prog base 198 (zd3 (znT zbr)):=
 zy (cx':=(ztb zbr)) zG zr zC (zA ⟨zsr,zjB,zn4,trivial⟩) Tryz.call198 Tryz.func198 (c:=body Tryz.f198) (by kernel_rfl) (zi (l:=[]) (by kernel_rfl) trivial) (sg:=⟨[.pure],[]⟩) (A:=znW) (res:=zmF) (W:=fun x=>zmP zbr x.1 x.2.1) (z:=default)
def zr7 (zk:List (List Term)→List (List Term)→Bool×Int) (zm:List Term→List Term→Bool×Int) (zp:List Weighted→List Weighted→Bool×Int) (zq:Weighted→Weighted→Bool×Int):Cx ty:=mkCx base 51 [(79,zcc),(121,ziA),(122,zi8),(144,(zM zk)),(145,(zcx zm)),(146,(zU zp)),(147,(zcy zq))] [] [] [] [] []
def zlx (zk:List (List Term)→List (List Term)→Bool×Int) (zm:List Term→List Term→Bool×Int) (zp:List Weighted→List Weighted→Bool×Int) (zq:Weighted→Weighted→Bool×Int) (a:Atom) (b:Atom):Wy0 (Int):=.bn (zc4 a.Kind b.Kind) fun r8=>.bn (zc4 a.Row.Table b.Row.Table) fun r7=>.bn (zc4 a.Row.Seq b.Row.Seq) fun r6=>.bn (zk a.Args b.Args) fun r5=>.bn (zc4 a.Func b.Func) fun r4=>.bn (zp a.Items b.Items) fun r3=>.bn (zc4 a.Op b.Op) fun r2=>.bn (zbK a.Bound b.Bound) fun r1=>.bn (zjc [r8,r7,r6,r5,r4,r3,r2,r1]) fun r0=>.k r0
def zmI (zk:List (List Term)→List (List Term)→Bool×Int) (zm:List Term→List Term→Bool×Int) (zp:List Weighted→List Weighted→Bool×Int) (zq:Weighted→Weighted→Bool×Int) (a:Atom) (b:Atom):Bool×Int:=(zlx zk zm zp zq a b).fin default
theorem zqi (zk:List (List Term)→List (List Term)→Bool×Int) (zm:List Term→List Term→Bool×Int) (zp:List Weighted→List Weighted→Bool×Int) (zq:Weighted→Weighted→Bool×Int) (zdG:Sound Tryz.prog base 144 (zM zk)) (zgG:Sound Tryz.prog base 145 (zcx zm)) (zeD:Sound Tryz.prog base 146 (zU zp)) (zii:Sound Tryz.prog base 147 (zcy zq)):Sound Tryz.prog base 110 (zeS (zmI zk zm zp zq)):=
 zy (cx':=(zr7 zk zm zp zq)) zG zr zC (zA ⟨zcl,zjB,zlc,zdG,zgG,zeD,zii,trivial⟩) Tryz.call110 Tryz.func110 (c:=body Tryz.f110) (by kernel_rfl) (zi (l:=[]) (by kernel_rfl) trivial) (sg:=⟨[.pure],[]⟩) (A:=zm0) (res:=zlF) (W:=fun x=>zlx zk zm zp zq x.1 x.2.1) (z:=default)
def zqn (zbq:Atom→Atom→Bool×Int):Cx ty:=mkCx base 17 [(110,(zeS zbq)),(121,ziA),(122,zi8)] [] [] [] [] []
def zky (zbq:Atom→Atom→Bool×Int) (a:Factor) (b:Factor):Wy0 (Int):=.bn (zbq (Atom.mk a.Atom.Kind a.Atom.Row a.Atom.Args a.Atom.Func a.Atom.Items a.Atom.Op a.Atom.Bound) (Atom.mk b.Atom.Kind b.Atom.Row b.Atom.Args b.Atom.Func b.Atom.Items b.Atom.Op b.Atom.Bound)) fun r2=>.bn (zc4 a.Exp b.Exp) fun r1=>.bn (zjc [r2,r1]) fun r0=>.k r0
def zlM (zbq:Atom→Atom→Bool×Int) (a:Factor) (b:Factor):Bool×Int:=(zky zbq a b).fin default
theorem zo5 (zbq:Atom→Atom→Bool×Int) (zsM:Sound Tryz.prog base 110 (zeS zbq)):Sound Tryz.prog base 143 (zcP (zlM zbq)):=
 zy (cx':=(zqn zbq)) zG zr zC (zA ⟨zsM,zjB,zlc,trivial⟩) Tryz.call143 Tryz.func143 (c:=body Tryz.f143) (by kernel_rfl) (zi (l:=[]) (by kernel_rfl) trivial) (sg:=⟨[.pure],[]⟩) (A:=zlD) (res:=zkI) (W:=fun x=>zky zbq x.1 x.2.1) (z:=default)
def zr0 (zm:List Term→List Term→Bool×Int):Cx ty:=mkCx base 17 [(79,zcc),(121,ziA),(145,(zcx zm))] [] [] [] [] []
def zlQ (zm:List Term→List Term→Bool×Int) (a:Weighted) (b:Weighted):Wy0 (Int):=.bn (zbK a.Value b.Value) fun r2=>.bn (zm a.Ann b.Ann) fun r1=>.bn (zjc [r2,r1]) fun r0=>.k r0
def zmA (zm:List Term→List Term→Bool×Int) (a:Weighted) (b:Weighted):Bool×Int:=(zlQ zm a b).fin default
theorem zqh (zm:List Term→List Term→Bool×Int) (zgG:Sound Tryz.prog base 145 (zcx zm)):Sound Tryz.prog base 147 (zcy (zmA zm)):=
 zy (cx':=(zr0 zm)) zG zr zC (zA ⟨zcl,zjB,zgG,trivial⟩) Tryz.call147 Tryz.func147 (c:=body Tryz.f147) (by kernel_rfl) (zi (l:=[]) (by kernel_rfl) trivial) (sg:=⟨[.pure],[]⟩) (A:=zmH) (res:=zlz) (W:=fun x=>zlQ zm x.1 x.2.1) (z:=default)
def zrJ (zx:List Factor→List Factor→Bool×Int) (zl:Factor→Factor→Bool×Int):Cx ty:=mkCx base 10 [(142,(zZ zx)),(143,(zcP zl))] [] [] [] [] []
def zlr (zx:List Factor→List Factor→Bool×Int) (zl:Factor→Factor→Bool×Int) (a:Term) (b:Term):Wy0 (Int):=.bn (zx a.Factors b.Factors) fun r0=>.k r0
def zmz (zx:List Factor→List Factor→Bool×Int) (zl:Factor→Factor→Bool×Int) (a:Term) (b:Term):Bool×Int:=(zlr zx zl a b).fin default
theorem zqj (zx:List Factor→List Factor→Bool×Int) (zl:Factor→Factor→Bool×Int) (zf9:Sound Tryz.prog base 142 (zZ zx)) (zhD:Sound Tryz.prog base 143 (zcP zl)):Sound Tryz.prog base 108 (zeI (zmz zx zl)):=
 zy (cx':=(zrJ zx zl)) zG zr zC (zA ⟨zf9,zhD,trivial⟩) Tryz.call108 Tryz.func108 (c:=body Tryz.f108) (by kernel_rfl) (zi (l:=[]) (by kernel_rfl) trivial) (sg:=⟨[.pure],[]⟩) (A:=zm3) (res:=zlw) (W:=fun x=>zlr zx zl x.1 x.2.1) (z:=default)
abbrev ttTslicesCompareFuncLapiAnnotationLapiAnnotationapiAnnotationapiAnnotation0:=List (List Term)×List (List Term)×Unit×List (List Term)×Int×Int×Unit
abbrev ttTslicesCompareFuncLapiAnnotationLapiAnnotationapiAnnotationapiAnnotation1:=Int⊕(List (List Term)×List (List Term))
def zdu (zm:List Term→List Term→Bool×Int) (s1:List (List Term)) (s2:List (List Term)) (t11:List (List Term)) (t12:Int) (t13:Int):Wy ttTslicesCompareFuncLapiAnnotationLapiAnnotationapiAnnotationapiAnnotation0 (Unit) ttTslicesCompareFuncLapiAnnotationLapiAnnotationapiAnnotationapiAnnotation1:=.i (decide (t13<t12)) (.i (decide (0≤t13)&&decide (t13<Int.ofNat t11.length)) (.i (decide (t13≥Int.ofNat s2.length)) (.k (.inl 1)) (.i (decide (0≤t13)&&decide (t13<Int.ofNat s2.length)) (.bn (zm (t11.getD t13.toNat default) (s2.getD t13.toNat default)) fun r0=>.i (r0 != 0) (.k (.inl (r0))) (.h (s1,s2,(),t11,t12,(IntKind.i64.wrap (t13+1)),()) ())) .d)) .d) (.k (.inr (s1,s2)))
def zX (zm:List Term→List Term→Bool×Int) (x:ttTslicesCompareFuncLapiAnnotationLapiAnnotationapiAnnotationapiAnnotation0) (y:Unit):Wy ttTslicesCompareFuncLapiAnnotationLapiAnnotationapiAnnotationapiAnnotation0 (Unit) ttTslicesCompareFuncLapiAnnotationLapiAnnotationapiAnnotationapiAnnotation1:=zdu zm x.1 x.2.1 x.2.2.2.1 x.2.2.2.2.1 x.2.2.2.2.2.1
def zdt (zm:List Term→List Term→Bool×Int) (n:Nat) (s1:List (List Term)) (s2:List (List Term)) (t11:List (List Term)) (t12:Int) (t13:Int):Bool×ttTslicesCompareFuncLapiAnnotationLapiAnnotationapiAnnotationapiAnnotation1:=zba (zX zm) (.inl default) n (s1,s2,(),t11,t12,t13,()) ()
def zbx (r:ttTslicesCompareFuncLapiAnnotationLapiAnnotationapiAnnotationapiAnnotation1):LTree ty:=.ite (isL r) (.done .ret [.lit (.int .i64 (getL r))] []) (.done (.exit 0) [.sl 36 (getR r).1,.sl 36 (getR r).2] [])
def zbC:LL ty ttTslicesCompareFuncLapiAnnotationLapiAnnotationapiAnnotationapiAnnotation0:=za (lSl 36) (za (lSl 36) (za (lFn 145 (zF)) (za (lSl 36) (za (lInt .i64) (za (lInt .i64) zF)))))
def zbB:BL ty (Unit):=bNil
def zby (x:ttTslicesCompareFuncLapiAnnotationLapiAnnotationapiAnnotationapiAnnotation0) (y:Unit):Nat:=(x.1.length+x.2.1.length+x.2.2.2.1.length+Int.toNat x.2.2.2.2.1+Int.toNat x.2.2.2.2.2.1+1000)
def zbD (zm:List Term→List Term→Bool×Int):Cx ty:=mkCx base 39 [(145,(zcx zm))] [] [(2,[(0,.keep),(1,.keep),(2,.keep),(11,.keep),(12,.keep),(13,.keep)])] [(2,1,[(0,.keep),(1,.keep)]),(2,0,[(6,.keep)])] [(2,spW zbC zbB (zX zm) (.inl default) zbx zby)] []
theorem zdk (zm:List Term→List Term→Bool×Int):z8 (zbD zm) (lp (body Tryz.f144) 0):=zQ (id:=2) (V:=zbC) (B:=zbB) (W:=zX zm) (z:=.inl default) (tr:=zbx) (m:=zby)
def zbG (zm:List Term→List Term→Bool×Int) (s1:List (List Term)) (s2:List (List Term)):Wy0 (Int):=.bn (zdt zm (s1.length+s2.length+s1.length+(Int.ofNat s1.length).toNat +Int.toNat 0+1000) s1 s2 s1 (Int.ofNat s1.length) 0) fun r2=>.i (isL r2) (.k (getL r2)) (.i (decide (Int.ofNat (getR r2).1.length<Int.ofNat (getR r2).2.length)) (.k (-1:Int)) (.k 0))
def zbL (zm:List Term→List Term→Bool×Int) (s1:List (List Term)) (s2:List (List Term)):Bool×Int:=(zbG zm s1 s2).fin default
theorem zdd (zm:List Term→List Term→Bool×Int) (zgG:Sound Tryz.prog base 145 (zcx zm)):Sound Tryz.prog base 144 (zM (zbL zm)):=
 zy (cx':=(zbD zm)) zG zr zC (zA ⟨zgG,trivial⟩) Tryz.call144 Tryz.func144 (c:=body Tryz.f144) (by kernel_rfl) (zi (l:=[lp (body Tryz.f144) 0]) (by kernel_rfl) ⟨zdk zm,trivial⟩) (sg:=⟨[.pure],[]⟩) (A:=zbM) (res:=zbE) (W:=fun x=>zbG zm x.1 x.2.1) (z:=default)
abbrev ttTslicesCompareFuncLapiFactorLapiFactorapiFactorapiFactor0:=List Factor×List Factor×Unit×List Factor×Int×Int×Unit
abbrev ttTslicesCompareFuncLapiFactorLapiFactorapiFactorapiFactor1:=Int⊕(List Factor×List Factor)
def zf4 (zl:Factor→Factor→Bool×Int) (s1:List Factor) (s2:List Factor) (t11:List Factor) (t12:Int) (t13:Int):Wy ttTslicesCompareFuncLapiFactorLapiFactorapiFactorapiFactor0 (Unit) ttTslicesCompareFuncLapiFactorLapiFactorapiFactorapiFactor1:=.i (decide (t13<t12)) (.i (decide (0≤t13)&&decide (t13<Int.ofNat t11.length)) (.i (decide (t13≥Int.ofNat s2.length)) (.k (.inl 1)) (.i (decide (0≤t13)&&decide (t13<Int.ofNat s2.length)) (.bn (zl (FactorOf.mk (Atom.mk (t11.getD t13.toNat default).Atom.Kind (t11.getD t13.toNat default).Atom.Row (t11.getD t13.toNat default).Atom.Args (t11.getD t13.toNat default).Atom.Func (t11.getD t13.toNat default).Atom.Items (t11.getD t13.toNat default).Atom.Op (t11.getD t13.toNat default).Atom.Bound) (t11.getD t13.toNat default).Exp) (FactorOf.mk (Atom.mk (s2.getD t13.toNat default).Atom.Kind (s2.getD t13.toNat default).Atom.Row (s2.getD t13.toNat default).Atom.Args (s2.getD t13.toNat default).Atom.Func (s2.getD t13.toNat default).Atom.Items (s2.getD t13.toNat default).Atom.Op (s2.getD t13.toNat default).Atom.Bound) (s2.getD t13.toNat default).Exp)) fun r0=>.i (r0 != 0) (.k (.inl (r0))) (.h (s1,s2,(),t11,t12,(IntKind.i64.wrap (t13+1)),()) ())) .d)) .d) (.k (.inr (s1,s2)))
def zbo (zl:Factor→Factor→Bool×Int) (x:ttTslicesCompareFuncLapiFactorLapiFactorapiFactorapiFactor0) (y:Unit):Wy ttTslicesCompareFuncLapiFactorLapiFactorapiFactorapiFactor0 (Unit) ttTslicesCompareFuncLapiFactorLapiFactorapiFactorapiFactor1:=zf4 zl x.1 x.2.1 x.2.2.2.1 x.2.2.2.2.1 x.2.2.2.2.2.1
def zf5 (zl:Factor→Factor→Bool×Int) (n:Nat) (s1:List Factor) (s2:List Factor) (t11:List Factor) (t12:Int) (t13:Int):Bool×ttTslicesCompareFuncLapiFactorLapiFactorapiFactorapiFactor1:=zba (zbo zl) (.inl default) n (s1,s2,(),t11,t12,t13,()) ()
def zck (r:ttTslicesCompareFuncLapiFactorLapiFactorapiFactorapiFactor1):LTree ty:=.ite (isL r) (.done .ret [.lit (.int .i64 (getL r))] []) (.done (.exit 0) [.sl 160 (getR r).1,.sl 160 (getR r).2] [])
def zcp:LL ty ttTslicesCompareFuncLapiFactorLapiFactorapiFactorapiFactor0:=za (lSl 160) (za (lSl 160) (za (lFn 143 (zF)) (za (lSl 160) (za (lInt .i64) (za (lInt .i64) zF)))))
def zcm:BL ty (Unit):=bNil
def zch (x:ttTslicesCompareFuncLapiFactorLapiFactorapiFactorapiFactor0) (y:Unit):Nat:=(x.1.length+x.2.1.length+x.2.2.2.1.length+Int.toNat x.2.2.2.2.1+Int.toNat x.2.2.2.2.2.1+1000)
def zco (zl:Factor→Factor→Bool×Int):Cx ty:=mkCx base 39 [(143,(zcP zl))] [] [(2,[(0,.keep),(1,.keep),(2,.keep),(11,.keep),(12,.keep),(13,.keep)])] [(2,1,[(0,.keep),(1,.keep)]),(2,0,[(6,.keep)])] [(2,spW zcp zcm (zbo zl) (.inl default) zck zch)] []
theorem zfQ (zl:Factor→Factor→Bool×Int):z8 (zco zl) (lp (body Tryz.f142) 0):=zQ (id:=2) (V:=zcp) (B:=zcm) (W:=zbo zl) (z:=.inl default) (tr:=zck) (m:=zch)
def zct (zl:Factor→Factor→Bool×Int) (s1:List Factor) (s2:List Factor):Wy0 (Int):=.bn (zf5 zl (s1.length+s2.length+s1.length+(Int.ofNat s1.length).toNat +Int.toNat 0+1000) s1 s2 s1 (Int.ofNat s1.length) 0) fun r2=>.i (isL r2) (.k (getL r2)) (.i (decide (Int.ofNat (getR r2).1.length<Int.ofNat (getR r2).2.length)) (.k (-1:Int)) (.k 0))
def zcB (zl:Factor→Factor→Bool×Int) (s1:List Factor) (s2:List Factor):Bool×Int:=(zct zl s1 s2).fin default
theorem zfi (zl:Factor→Factor→Bool×Int) (zhD:Sound Tryz.prog base 143 (zcP zl)):Sound Tryz.prog base 142 (zZ (zcB zl)):=
 zy (cx':=(zco zl)) zG zr zC (zA ⟨zhD,trivial⟩) Tryz.call142 Tryz.func142 (c:=body Tryz.f142) (by kernel_rfl) (zi (l:=[lp (body Tryz.f142) 0]) (by kernel_rfl) ⟨zfQ zl,trivial⟩) (sg:=⟨[.pure],[]⟩) (A:=zcA) (res:=zcq) (W:=fun x=>zct zl x.1 x.2.1) (z:=default)
abbrev ttTslicesCompareFuncLapiWeightedLapiWeightedapiWeightedapiWeighted0:=List Weighted×List Weighted×Unit×List Weighted×Int×Int×Unit
abbrev ttTslicesCompareFuncLapiWeightedLapiWeightedapiWeightedapiWeighted1:=Int⊕(List Weighted×List Weighted)
def zen (zq:Weighted→Weighted→Bool×Int) (s1:List Weighted) (s2:List Weighted) (t11:List Weighted) (t12:Int) (t13:Int):Wy ttTslicesCompareFuncLapiWeightedLapiWeightedapiWeightedapiWeighted0 (Unit) ttTslicesCompareFuncLapiWeightedLapiWeightedapiWeightedapiWeighted1:=.i (decide (t13<t12)) (.i (decide (0≤t13)&&decide (t13<Int.ofNat t11.length)) (.i (decide (t13≥Int.ofNat s2.length)) (.k (.inl 1)) (.i (decide (0≤t13)&&decide (t13<Int.ofNat s2.length)) (.bn (zq (t11.getD t13.toNat default) (s2.getD t13.toNat default)) fun r0=>.i (r0 != 0) (.k (.inl (r0))) (.h (s1,s2,(),t11,t12,(IntKind.i64.wrap (t13+1)),()) ())) .d)) .d) (.k (.inr (s1,s2)))
def zbb (zq:Weighted→Weighted→Bool×Int) (x:ttTslicesCompareFuncLapiWeightedLapiWeightedapiWeightedapiWeighted0) (y:Unit):Wy ttTslicesCompareFuncLapiWeightedLapiWeightedapiWeightedapiWeighted0 (Unit) ttTslicesCompareFuncLapiWeightedLapiWeightedapiWeightedapiWeighted1:=zen zq x.1 x.2.1 x.2.2.2.1 x.2.2.2.2.1 x.2.2.2.2.2.1
def zeo (zq:Weighted→Weighted→Bool×Int) (n:Nat) (s1:List Weighted) (s2:List Weighted) (t11:List Weighted) (t12:Int) (t13:Int):Bool×ttTslicesCompareFuncLapiWeightedLapiWeightedapiWeightedapiWeighted1:=zba (zbb zq) (.inl default) n (s1,s2,(),t11,t12,t13,()) ()
def zbS (r:ttTslicesCompareFuncLapiWeightedLapiWeightedapiWeightedapiWeighted1):LTree ty:=.ite (isL r) (.done .ret [.lit (.int .i64 (getL r))] []) (.done (.exit 0) [.sl 182 (getR r).1,.sl 182 (getR r).2] [])
def zbU:LL ty ttTslicesCompareFuncLapiWeightedLapiWeightedapiWeightedapiWeighted0:=za (lSl 182) (za (lSl 182) (za (lFn 147 (zF)) (za (lSl 182) (za (lInt .i64) (za (lInt .i64) zF)))))
def zbV:BL ty (Unit):=bNil
def zbT (x:ttTslicesCompareFuncLapiWeightedLapiWeightedapiWeightedapiWeighted0) (y:Unit):Nat:=(x.1.length+x.2.1.length+x.2.2.2.1.length+Int.toNat x.2.2.2.2.1+Int.toNat x.2.2.2.2.2.1+1000)
def zbW (zq:Weighted→Weighted→Bool×Int):Cx ty:=mkCx base 39 [(147,(zcy zq))] [] [(2,[(0,.keep),(1,.keep),(2,.keep),(11,.keep),(12,.keep),(13,.keep)])] [(2,1,[(0,.keep),(1,.keep)]),(2,0,[(6,.keep)])] [(2,spW zbU zbV (zbb zq) (.inl default) zbS zbT)] []
theorem zek (zq:Weighted→Weighted→Bool×Int):z8 (zbW zq) (lp (body Tryz.f146) 0):=zQ (id:=2) (V:=zbU) (B:=zbV) (W:=zbb zq) (z:=.inl default) (tr:=zbS) (m:=zbT)
def zbZ (zq:Weighted→Weighted→Bool×Int) (s1:List Weighted) (s2:List Weighted):Wy0 (Int):=.bn (zeo zq (s1.length+s2.length+s1.length+(Int.ofNat s1.length).toNat +Int.toNat 0+1000) s1 s2 s1 (Int.ofNat s1.length) 0) fun r2=>.i (isL r2) (.k (getL r2)) (.i (decide (Int.ofNat (getR r2).1.length<Int.ofNat (getR r2).2.length)) (.k (-1:Int)) (.k 0))
def zb5 (zq:Weighted→Weighted→Bool×Int) (s1:List Weighted) (s2:List Weighted):Bool×Int:=(zbZ zq s1 s2).fin default
theorem zd7 (zq:Weighted→Weighted→Bool×Int) (zii:Sound Tryz.prog base 147 (zcy zq)):Sound Tryz.prog base 146 (zU (zb5 zq)):=
 zy (cx':=(zbW zq)) zG zr zC (zA ⟨zii,trivial⟩) Tryz.call146 Tryz.func146 (c:=body Tryz.f146) (by kernel_rfl) (zi (l:=[lp (body Tryz.f146) 0]) (by kernel_rfl) ⟨zek zq,trivial⟩) (sg:=⟨[.pure],[]⟩) (A:=zb6) (res:=zbX) (W:=fun x=>zbZ zq x.1 x.2.1) (z:=default)
abbrev ttTslicesCompareFuncapiAnnotationapiAnnotationapiTermapiTerm0:=List Term×List Term×Unit×List Term×Int×Int×Unit
abbrev ttTslicesCompareFuncapiAnnotationapiAnnotationapiTermapiTerm1:=Int⊕(List Term×List Term)
def zfx (zw:Term→Term→Bool×Int) (s1:List Term) (s2:List Term) (t11:List Term) (t12:Int) (t13:Int):Wy ttTslicesCompareFuncapiAnnotationapiAnnotationapiTermapiTerm0 (Unit) ttTslicesCompareFuncapiAnnotationapiAnnotationapiTermapiTerm1:=.i (decide (t13<t12)) (.i (decide (0≤t13)&&decide (t13<Int.ofNat t11.length)) (.i (decide (t13≥Int.ofNat s2.length)) (.k (.inl 1)) (.i (decide (0≤t13)&&decide (t13<Int.ofNat s2.length)) (.bn (zw (t11.getD t13.toNat default) (s2.getD t13.toNat default)) fun r0=>.i (r0 != 0) (.k (.inl (r0))) (.h (s1,s2,(),t11,t12,(IntKind.i64.wrap (t13+1)),()) ())) .d)) .d) (.k (.inr (s1,s2)))
def zbj (zw:Term→Term→Bool×Int) (x:ttTslicesCompareFuncapiAnnotationapiAnnotationapiTermapiTerm0) (y:Unit):Wy ttTslicesCompareFuncapiAnnotationapiAnnotationapiTermapiTerm0 (Unit) ttTslicesCompareFuncapiAnnotationapiAnnotationapiTermapiTerm1:=zfx zw x.1 x.2.1 x.2.2.2.1 x.2.2.2.2.1 x.2.2.2.2.2.1
def zfw (zw:Term→Term→Bool×Int) (n:Nat) (s1:List Term) (s2:List Term) (t11:List Term) (t12:Int) (t13:Int):Bool×ttTslicesCompareFuncapiAnnotationapiAnnotationapiTermapiTerm1:=zba (zbj zw) (.inl default) n (s1,s2,(),t11,t12,t13,()) ()
def zcb (r:ttTslicesCompareFuncapiAnnotationapiAnnotationapiTermapiTerm1):LTree ty:=.ite (isL r) (.done .ret [.lit (.int .i64 (getL r))] []) (.done (.exit 0) [.sl 152 (getR r).1,.sl 152 (getR r).2] [])
def zcd:LL ty ttTslicesCompareFuncapiAnnotationapiAnnotationapiTermapiTerm0:=za (lSl 152) (za (lSl 152) (za (lFn 198 (zF)) (za (lSl 152) (za (lInt .i64) (za (lInt .i64) zF)))))
def zcf:BL ty (Unit):=bNil
def zca (x:ttTslicesCompareFuncapiAnnotationapiAnnotationapiTermapiTerm0) (y:Unit):Nat:=(x.1.length+x.2.1.length+x.2.2.2.1.length+Int.toNat x.2.2.2.2.1+Int.toNat x.2.2.2.2.2.1+1000)
def zce (zw:Term→Term→Bool×Int):Cx ty:=mkCx base 39 [(198,(zd3 zw))] [] [(2,[(0,.keep),(1,.keep),(2,.keep),(11,.keep),(12,.keep),(13,.keep)])] [(2,1,[(0,.keep),(1,.keep)]),(2,0,[(6,.keep)])] [(2,spW zcd zcf (zbj zw) (.inl default) zcb zca)] []
theorem zfv (zw:Term→Term→Bool×Int):z8 (zce zw) (lp (body Tryz.f197) 0):=zQ (id:=2) (V:=zcd) (B:=zcf) (W:=zbj zw) (z:=.inl default) (tr:=zcb) (m:=zca)
def zci (zw:Term→Term→Bool×Int) (s1:List Term) (s2:List Term):Wy0 (Int):=.bn (zfw zw (s1.length+s2.length+s1.length+(Int.ofNat s1.length).toNat +Int.toNat 0+1000) s1 s2 s1 (Int.ofNat s1.length) 0) fun r2=>.i (isL r2) (.k (getL r2)) (.i (decide (Int.ofNat (getR r2).1.length<Int.ofNat (getR r2).2.length)) (.k (-1:Int)) (.k 0))
def zcr (zw:Term→Term→Bool×Int) (s1:List Term) (s2:List Term):Bool×Int:=(zci zw s1 s2).fin default
theorem zeY (zw:Term→Term→Bool×Int) (zi3:Sound Tryz.prog base 198 (zd3 zw)):Sound Tryz.prog base 197 (zW (zcr zw)):=
 zy (cx':=(zce zw)) zG zr zC (zA ⟨zi3,trivial⟩) Tryz.call197 Tryz.func197 (c:=body Tryz.f197) (by kernel_rfl) (zi (l:=[lp (body Tryz.f197) 0]) (by kernel_rfl) ⟨zfv zw,trivial⟩) (sg:=⟨[.pure],[]⟩) (A:=zcw) (res:=zcj) (W:=fun x=>zci zw x.1 x.2.1) (z:=default)
def zbg:Nat→(List Term→List Term→Bool×Int)×(Term→Term→Bool×Int)×(Term→Term→Bool×Int)×(Factor→Factor→Bool×Int)×(Atom→Atom→Bool×Int)×(Weighted→Weighted→Bool×Int)×(List Term→List Term→Bool×Int)×(List Factor→List Factor→Bool×Int)×(List (List Term)→List (List Term)→Bool×Int)×(List Weighted→List Weighted→Bool×Int)
 | 0=>(fun _ _=>(false,default),fun _ _=>(false,default),fun _ _=>(false,default),fun _ _=>(false,default),fun _ _=>(false,default),fun _ _=>(false,default),fun _ _=>(false,default),fun _ _=>(false,default),fun _ _=>(false,default),fun _ _=>(false,default))
 | n+1=>(zqX ((zbg n).2.2.2.2.2.2.1) ((zbg n).2.1),znT ((zbg n).2.2.1),zmz ((zbg n).2.2.2.2.2.2.2.1) ((zbg n).2.2.2.1),zlM ((zbg n).2.2.2.2.1),zmI ((zbg n).2.2.2.2.2.2.2.2.1) ((zbg n).1) ((zbg n).2.2.2.2.2.2.2.2.2) ((zbg n).2.2.2.2.2.1),zmA ((zbg n).1),zcr ((zbg n).2.1),zcB ((zbg n).2.2.2.1),zbL ((zbg n).1),zb5 ((zbg n).2.2.2.2.2.1))
def zqR (n:Nat):List Term→List Term→Bool×Int:=(zbg n).1
def zu3 (n:Nat):Term→Term→Bool×Int:=(zbg n).2.1
def zmS (n:Nat):Term→Term→Bool×Int:=(zbg n).2.2.1
def zsQ (n:Nat):Factor→Factor→Bool×Int:=(zbg n).2.2.2.1
def zmE (n:Nat):Atom→Atom→Bool×Int:=(zbg n).2.2.2.2.1
def zm2 (n:Nat):Weighted→Weighted→Bool×Int:=(zbg n).2.2.2.2.2.1
def zga (n:Nat):List Term→List Term→Bool×Int:=(zbg n).2.2.2.2.2.2.1
def zgz (n:Nat):List Factor→List Factor→Bool×Int:=(zbg n).2.2.2.2.2.2.2.1
def zdT (n:Nat):List (List Term)→List (List Term)→Bool×Int:=(zbg n).2.2.2.2.2.2.2.2.1
def zeZ (n:Nat):List Weighted→List Weighted→Bool×Int:=(zbg n).2.2.2.2.2.2.2.2.2
theorem zma:∀ n,Sound Tryz.prog base 145 (zcx (zqR n))∧Sound Tryz.prog base 198 (zd3 (zu3 n))∧Sound Tryz.prog base 108 (zeI (zmS n))∧Sound Tryz.prog base 143 (zcP (zsQ n))∧Sound Tryz.prog base 110 (zeS (zmE n))∧Sound Tryz.prog base 147 (zcy (zm2 n))∧Sound Tryz.prog base 197 (zW (zga n))∧Sound Tryz.prog base 142 (zZ (zgz n))∧Sound Tryz.prog base 144 (zM (zdT n))∧Sound Tryz.prog base 146 (zU (zeZ n))
 | 0=>⟨zbi Tryz.call145 (fun _=>rfl),zbi Tryz.call198 (fun _=>rfl),zbi Tryz.call108 (fun _=>rfl),zbi Tryz.call143 (fun _=>rfl),zbi Tryz.call110 (fun _=>rfl),zbi Tryz.call147 (fun _=>rfl),zbi Tryz.call197 (fun _=>rfl),zbi Tryz.call142 (fun _=>rfl),zbi Tryz.call144 (fun _=>rfl),zbi Tryz.call146 (fun _=>rfl)⟩
 | n+1=>by
  have ih:=zma n
  exact ⟨zte _ _ (ih.2.2.2.2.2.2.1) (ih.2.1),zrh _ (ih.2.2.1),zqj _ _ (ih.2.2.2.2.2.2.2.1) (ih.2.2.2.1),zo5 _ (ih.2.2.2.2.1),zqi _ _ _ _ (ih.2.2.2.2.2.2.2.2.1) (ih.1) (ih.2.2.2.2.2.2.2.2.2) (ih.2.2.2.2.2.1),zqh _ (ih.1),zeY _ (ih.2.1),zfi _ (ih.2.2.2.1),zdd _ (ih.1),zd7 _ (ih.2.2.2.2.2.1)⟩
def zsx:List Term→List Term→Bool×Int:=zqR 1000
def annotation_Compare_spec:Ab.Spec ty:=zcx zsx
theorem zuS:Sound Tryz.prog base 145 annotation_Compare_spec:=(zma 1000).1
def zn3:Term→Term→Bool×Int:=zmS 1000
def annotation_compareLists_spec:Ab.Spec ty:=zeI zn3
theorem zrd:Sound Tryz.prog base 108 annotation_compareLists_spec:=(zma 1000).2.2.1
def zjX:Atom→Atom→Bool×Int:=zmE 1000
def annotation_compareAtoms_spec:Ab.Spec ty:=zeS zjX
theorem zrc:Sound Tryz.prog base 110 annotation_compareAtoms_spec:=(zma 1000).2.2.2.2.1
def znO:Weighted→Weighted→Bool×Int:=zm2 1000
def annotation_compareItems_spec:Ab.Spec ty:=zcy znO
theorem zkH:Sound Tryz.prog base 147 annotation_compareItems_spec:=(zma 1000).2.2.2.2.2.1
def zqv (r:Bool):ARes ty:=⟨[.pure (.lit (.bool r))],[]⟩
def zsL:AL base (List Term×Unit):=zf (zg (vSl 152)) aNil
def zfp (F:List Term→Bool×Bool):Ab.Spec ty:=zn zsL fun x=>((F x.1).1,zqv (F x.1).2)
def zbs (r:Bool):ARes ty:=⟨[.pure (.lit (.bool r))],[]⟩
def zo1:AL base (Atom×Unit):=zf (zg (vAgg 158)) aNil
def zic (F:Atom→Bool×Bool):Ab.Spec ty:=zn zo1 fun x=>((F x.1).1,zbs (F x.1).2)
def zlI (r:Bool):ARes ty:=⟨[.pure (.lit (.bool r))],[]⟩
def zmT:AL base (List Term×Unit):=zf (zg (vSl 152)) aNil
def zb1 (F:List Term→Bool×Bool):Ab.Spec ty:=zn zmT fun x=>((F x.1).1,zlI (F x.1).2)
def zlG (r:Bool):ARes ty:=⟨[.pure (.lit (.bool r))],[]⟩
def zmZ:AL base (Weighted×Unit):=zf (zg (vAgg 182)) aNil
def zb0 (F:Weighted→Bool×Bool):Ab.Spec ty:=zn zmZ fun x=>((F x.1).1,zlG (F x.1).2)
def zd2 (r:Int):ARes ty:=⟨[.pure (.lit (.int .i64 r))],[]⟩
def zef:AL base (List (List Term)×Unit×Unit):=zf (zg (vSl 36)) (zf (zg (vFn 149 vNil)) aNil)
def zbu (F:List (List Term)→Bool×Int):Ab.Spec ty:=zn zef fun x=>((F x.1).1,zd2 (F x.1).2)
def zdp (r:Bool):ARes ty:=⟨[.pure (.lit (.bool r))],[]⟩
def zdP:AL base (List (List Term)×Unit×Unit):=zf (zg (vSl 36)) (zf (zg (vFn 149 vNil)) aNil)
def zbp (F:List (List Term)→Bool×Bool):Ab.Spec ty:=zn zdP fun x=>((F x.1).1,zdp (F x.1).2)
def zeT (r:Int):ARes ty:=⟨[.pure (.lit (.int .i64 r))],[]⟩
def zfe:AL base (List Weighted×Unit×Unit):=zf (zg (vSl 182)) (zf (zg (vFn 156 vNil)) aNil)
def zbP (F:List Weighted→Bool×Int):Ab.Spec ty:=zn zfe fun x=>((F x.1).1,zeT (F x.1).2)
def zd8 (r:Bool):ARes ty:=⟨[.pure (.lit (.bool r))],[]⟩
def zeB:AL base (List Weighted×Unit×Unit):=zf (zg (vSl 182)) (zf (zg (vFn 156 vNil)) aNil)
def zbA (F:List Weighted→Bool×Bool):Ab.Spec ty:=zn zeB fun x=>((F x.1).1,zd8 (F x.1).2)
def zuH:Cx ty:=mkCx base 11 [] [] [] [] [] []
def znV (x_:Atom):Wy0 (Bool):=.i (x_.Kind==3) (.k true) (.k (x_.Kind==4))
def ziy (x_:Atom):Bool×Bool:=(znV x_).fin default
def zmB (r:Bool):ARes ty:=⟨[.pure (.lit (.bool r))],[]⟩
def znX:AL base (Atom×Unit):=zf (zg (vAgg 158)) aNil
def ziN:Ab.Spec ty:=zn znX fun x=>((ziy x.1).1,zmB (ziy x.1).2)
theorem zly:Sound Tryz.prog base 109 ziN:=
 zy (cx':=zuH) zG zr zC (zA trivial) Tryz.call109 Tryz.func109 (c:=body Tryz.f109) (by kernel_rfl) (zi (l:=[]) (by kernel_rfl) trivial) (sg:=⟨[.pure],[]⟩) (A:=znX) (res:=zmB) (W:=fun x=>znV x.1) (z:=default)
def zru (r:Int):ARes ty:=⟨[.pure (.lit (.int .i64 r))],[]⟩
def ztk:AL base (List Term×Unit):=zf (zg (vSl 152)) aNil
def ziU (F:List Term→Bool×Int):Ab.Spec ty:=zn ztk fun x=>((F x.1).1,zru (F x.1).2)
abbrev ttTannotationSize0:=Int×Unit×List Term×Int×Int×List Factor×Int×Int×List (List Term)×Int×Int×Unit
abbrev ttTannotationSize1:=Int×List Term×Int×Int×List Factor×Int×Int×Factor
abbrev ttTannotationSize2:=Int×List Term×Int×Int×List Factor×Int×Int×List Weighted×Int×Int×Unit
abbrev ttTannotationSize3:=Int×List Term×Int×Int×List Factor×Int×Int
abbrev ttTannotationSize4:=Int×List Term×Int×Int×List Factor×Int×Int×Unit
abbrev ttTannotationSize5:=Int×List Term×Int×Int
abbrev ttTannotationSize6:=Int×List Term×Int×Int×Unit
def zwK (zj:List Term→Bool×Int) (n_:Int) (t12:List Term) (t13:Int) (t14:Int) (t25:List Factor) (t26:Int) (t27:Int) (t33:List (List Term)) (t34:Int) (t35:Int) (f:Factor):Wy ttTannotationSize0 (Factor×Unit) ttTannotationSize1:=.i (decide (t35<t34)) (.i (decide (0≤t35)&&decide (t35<Int.ofNat t33.length)) (.bn (zj (t33.getD t35.toNat default)) fun r0=>.h ((IntKind.i64.wrap (n_+r0)),(),t12,t13,t14,t25,t26,t27,t33,t34,(IntKind.i64.wrap (t35+1)),()) (f,())) .d) (.k (n_,t12,t13,t14,t25,t26,t27,f))
def zk0 (zj:List Term→Bool×Int) (x:ttTannotationSize0) (y:Factor×Unit):Wy ttTannotationSize0 (Factor×Unit) ttTannotationSize1:=zwK zj x.1 x.2.2.1 x.2.2.2.1 x.2.2.2.2.1 x.2.2.2.2.2.1 x.2.2.2.2.2.2.1 x.2.2.2.2.2.2.2.1 x.2.2.2.2.2.2.2.2.1 x.2.2.2.2.2.2.2.2.2.1 x.2.2.2.2.2.2.2.2.2.2.1 y.1
def zwz (zj:List Term→Bool×Int) (n:Nat) (n_:Int) (t12:List Term) (t13:Int) (t14:Int) (t25:List Factor) (t26:Int) (t27:Int) (t33:List (List Term)) (t34:Int) (t35:Int) (f:Factor):Bool×ttTannotationSize1:=zba (zk0 zj) default n (n_,(),t12,t13,t14,t25,t26,t27,t33,t34,t35,()) (f,())
def zoT (r:ttTannotationSize1):LTree ty:=.done (.exit 4) [.lit (.int .i64 r.1),.ptr 248 0,.sl 152 r.2.1,.lit (.int .i64 r.2.2.1),.lit (.int .i64 r.2.2.2.1),.sl 160 r.2.2.2.2.1,.lit (.int .i64 r.2.2.2.2.2.1),.lit (.int .i64 r.2.2.2.2.2.2.1)] [.box (base.enc 160 r.2.2.2.2.2.2.2) false]
def zpO:LL ty ttTannotationSize0:=za (lInt .i64) (za (zcS 248 0) (za (lSl 152) (za (lInt .i64) (za (lInt .i64) (za (lSl 160) (za (lInt .i64) (za (lInt .i64) (za (lSl 36) (za (lInt .i64) (za (lInt .i64) zF))))))))))
def zpJ:BL ty (Factor×Unit):=bBox (zfM (fun x=>(⟨⟨x.1,⟨x.2.1,x.2.2.1⟩,x.2.2.2.1,x.2.2.2.2.1,x.2.2.2.2.2.1,x.2.2.2.2.2.2.1,⟨x.2.2.2.2.2.2.2.1,x.2.2.2.2.2.2.2.2.1,x.2.2.2.2.2.2.2.2.2.1⟩⟩,x.2.2.2.2.2.2.2.2.2.2.1⟩:Factor)) (fun x=>(x.Atom.Kind,x.Atom.Row.Table,x.Atom.Row.Seq,x.Atom.Args,x.Atom.Func,x.Atom.Items,x.Atom.Op,x.Atom.Bound.Kind,x.Atom.Bound.Int,x.Atom.Bound.Text,x.Exp,())) (fun _=>rfl) (za (lInt .i64) (za (lInt .i64) (za (lInt .i64) (za (lSl 36) (za (lInt .i64) (za (lSl 182) (za (lInt .i64) (za (lInt .i64) (za (lInt .i64) (za lStr (za (lInt .i64) zF)))))))))))) false (bNil)
def zxd (zj:List Term→Bool×Int) (n_:Int) (t12:List Term) (t13:Int) (t14:Int) (t25:List Factor) (t26:Int) (t27:Int) (t46:List Weighted) (t47:Int) (t48:Int):Wy ttTannotationSize2 (Unit) ttTannotationSize3:=.i (decide (t48<t47)) (.i (decide (0≤t48)&&decide (t48<Int.ofNat t46.length)) (.bn (zj (t46.getD t48.toNat default).Ann) fun r2=>.h ((IntKind.i64.wrap (n_+IntKind.i64.wrap (1+r2))),t12,t13,t14,t25,t26,t27,t46,t47,(IntKind.i64.wrap (t48+1)),()) ()) .d) (.k (n_,t12,t13,t14,t25,t26,t27))
def zlk (zj:List Term→Bool×Int) (x:ttTannotationSize2) (y:Unit):Wy ttTannotationSize2 (Unit) ttTannotationSize3:=zxd zj x.1 x.2.1 x.2.2.1 x.2.2.2.1 x.2.2.2.2.1 x.2.2.2.2.2.1 x.2.2.2.2.2.2.1 x.2.2.2.2.2.2.2.1 x.2.2.2.2.2.2.2.2.1 x.2.2.2.2.2.2.2.2.2.1
def zxg (zj:List Term→Bool×Int) (n:Nat) (n_:Int) (t12:List Term) (t13:Int) (t14:Int) (t25:List Factor) (t26:Int) (t27:Int) (t46:List Weighted) (t47:Int) (t48:Int):Bool×ttTannotationSize3:=zba (zlk zj) default n (n_,t12,t13,t14,t25,t26,t27,t46,t47,t48,()) ()
def zoU (r:ttTannotationSize3):LTree ty:=.done (.exit 6) [.lit (.int .i64 r.1),.sl 152 r.2.1,.lit (.int .i64 r.2.2.1),.lit (.int .i64 r.2.2.2.1),.sl 160 r.2.2.2.2.1,.lit (.int .i64 r.2.2.2.2.2.1),.lit (.int .i64 r.2.2.2.2.2.2)] []
def zpU:LL ty ttTannotationSize2:=za (lInt .i64) (za (lSl 152) (za (lInt .i64) (za (lInt .i64) (za (lSl 160) (za (lInt .i64) (za (lInt .i64) (za (lSl 182) (za (lInt .i64) (za (lInt .i64) zF)))))))))
def zpx:BL ty (Unit):=bNil
def zxK (zj:List Term→Bool×Int) (n_:Int) (t12:List Term) (t13:Int) (t14:Int) (t25:List Factor) (t26:Int) (t27:Int):Wy ttTannotationSize4 (Unit) ttTannotationSize5:=.i (decide (t27<t26)) (.i (decide (0≤t27)&&decide (t27<Int.ofNat t25.length)) (.bn (zwz zj (n_.toNat +t12.length+t13.toNat +t14.toNat +t25.length+t26.toNat +t27.toNat +(t25.getD t27.toNat default).Atom.Args.length+(Int.ofNat (t25.getD t27.toNat default).Atom.Args.length).toNat +Int.toNat 0+(t25.getD t27.toNat default).Atom.Args.length+(t25.getD t27.toNat default).Atom.Items.length+1000) n_ t12 t13 t14 t25 t26 t27 (t25.getD t27.toNat default).Atom.Args (Int.ofNat (t25.getD t27.toNat default).Atom.Args.length) 0 (FactorOf.mk (Atom.mk (t25.getD t27.toNat default).Atom.Kind (t25.getD t27.toNat default).Atom.Row (t25.getD t27.toNat default).Atom.Args (t25.getD t27.toNat default).Atom.Func (t25.getD t27.toNat default).Atom.Items (t25.getD t27.toNat default).Atom.Op (t25.getD t27.toNat default).Atom.Bound) (t25.getD t27.toNat default).Exp)) fun r5=>.bn (zxg zj (r5.1.toNat +r5.2.1.length+r5.2.2.1.toNat +r5.2.2.2.1.toNat +r5.2.2.2.2.1.length+r5.2.2.2.2.2.1.toNat +r5.2.2.2.2.2.2.1.toNat +r5.2.2.2.2.2.2.2.Atom.Items.length+(Int.ofNat r5.2.2.2.2.2.2.2.Atom.Items.length).toNat +Int.toNat 0+1000) r5.1 r5.2.1 r5.2.2.1 r5.2.2.2.1 r5.2.2.2.2.1 r5.2.2.2.2.2.1 r5.2.2.2.2.2.2.1 r5.2.2.2.2.2.2.2.Atom.Items (Int.ofNat r5.2.2.2.2.2.2.2.Atom.Items.length) 0) fun r4=>.h ((r4.1),(r4.2.1),(r4.2.2.1),(r4.2.2.2.1),(r4.2.2.2.2.1),(r4.2.2.2.2.2.1),(IntKind.i64.wrap (r4.2.2.2.2.2.2+1)),()) ()) .d) (.k (n_,t12,t13,t14))
def zlZ (zj:List Term→Bool×Int) (x:ttTannotationSize4) (y:Unit):Wy ttTannotationSize4 (Unit) ttTannotationSize5:=zxK zj x.1 x.2.1 x.2.2.1 x.2.2.2.1 x.2.2.2.2.1 x.2.2.2.2.2.1 x.2.2.2.2.2.2.1
def zxM (zj:List Term→Bool×Int) (n:Nat) (n_:Int) (t12:List Term) (t13:Int) (t14:Int) (t25:List Factor) (t26:Int) (t27:Int):Bool×ttTannotationSize5:=zba (zlZ zj) default n (n_,t12,t13,t14,t25,t26,t27,()) ()
def zpn (r:ttTannotationSize5):LTree ty:=.done (.exit 2) [.lit (.int .i64 r.1),.sl 152 r.2.1,.lit (.int .i64 r.2.2.1),.lit (.int .i64 r.2.2.2)] []
def zqy:LL ty ttTannotationSize4:=za (lInt .i64) (za (lSl 152) (za (lInt .i64) (za (lInt .i64) (za (lSl 160) (za (lInt .i64) (za (lInt .i64) zF))))))
def zqO:BL ty (Unit):=bNil
def zxv (zj:List Term→Bool×Int) (n_:Int) (t12:List Term) (t13:Int) (t14:Int):Wy ttTannotationSize6 (Unit) (Int):=.i (decide (t14<t13)) (.i (decide (0≤t14)&&decide (t14<Int.ofNat t12.length)) (.bn (zxM zj ((IntKind.i64.wrap (n_+IntKind.i64.wrap (1+Int.ofNat (t12.getD t14.toNat default).Factors.length))).toNat +t12.length+t13.toNat +t14.toNat +(t12.getD t14.toNat default).Factors.length+(Int.ofNat (t12.getD t14.toNat default).Factors.length).toNat +Int.toNat 0+1000) (IntKind.i64.wrap (n_+IntKind.i64.wrap (1+Int.ofNat (t12.getD t14.toNat default).Factors.length))) t12 t13 t14 (t12.getD t14.toNat default).Factors (Int.ofNat (t12.getD t14.toNat default).Factors.length) 0) fun r8=>.h ((r8.1),(r8.2.1),(r8.2.2.1),(IntKind.i64.wrap (r8.2.2.2+1)),()) ()) .d) (.k n_)
def zlX (zj:List Term→Bool×Int) (x:ttTannotationSize6) (y:Unit):Wy ttTannotationSize6 (Unit) (Int):=zxv zj x.1 x.2.1 x.2.2.1 x.2.2.2.1
def zxq (zj:List Term→Bool×Int) (n:Nat) (n_:Int) (t12:List Term) (t13:Int) (t14:Int):Bool×Int:=zba (zlX zj) default n (n_,t12,t13,t14,()) ()
def zp2 (r:Int):LTree ty:=.done (.exit 0) [.lit (.int .i64 r)] []
def zqV:LL ty ttTannotationSize6:=za (lInt .i64) (za (lSl 152) (za (lInt .i64) (za (lInt .i64) zF)))
def zqC:BL ty (Unit):=bNil
def zoH (x:ttTannotationSize0) (y:Factor×Unit):Nat:=(Int.toNat x.1+x.2.2.1.length+Int.toNat x.2.2.2.1+Int.toNat x.2.2.2.2.1+x.2.2.2.2.2.1.length+Int.toNat x.2.2.2.2.2.2.1+Int.toNat x.2.2.2.2.2.2.2.1+x.2.2.2.2.2.2.2.2.1.length+Int.toNat x.2.2.2.2.2.2.2.2.2.1+Int.toNat x.2.2.2.2.2.2.2.2.2.2.1+y.1.Atom.Args.length+y.1.Atom.Items.length+1000)
def zos (x:ttTannotationSize2) (y:Unit):Nat:=(Int.toNat x.1+x.2.1.length+Int.toNat x.2.2.1+Int.toNat x.2.2.2.1+x.2.2.2.2.1.length+Int.toNat x.2.2.2.2.2.1+Int.toNat x.2.2.2.2.2.2.1+x.2.2.2.2.2.2.2.1.length+Int.toNat x.2.2.2.2.2.2.2.2.1+Int.toNat x.2.2.2.2.2.2.2.2.2.1+1000)
def zpK (x:ttTannotationSize4) (y:Unit):Nat:=(Int.toNat x.1+x.2.1.length+Int.toNat x.2.2.1+Int.toNat x.2.2.2.1+x.2.2.2.2.1.length+Int.toNat x.2.2.2.2.2.1+Int.toNat x.2.2.2.2.2.2.1+1000)
def zpT (x:ttTannotationSize6) (y:Unit):Nat:=(Int.toNat x.1+x.2.1.length+Int.toNat x.2.2.1+Int.toNat x.2.2.2.1+1000)
def zhk (zj:List Term→Bool×Int):Cx ty:=mkCx base 62 [(137,(ziU zj))] [] [(3,[(3,.keep),(12,.keep),(13,.keep),(14,.keep)]),(7,[(3,.keep),(12,.keep),(13,.keep),(14,.keep),(25,.keep),(26,.keep),(27,.keep)]),(10,[(3,.keep),(7,.keep),(12,.keep),(13,.keep),(14,.keep),(25,.keep),(26,.keep),(27,.keep),(33,.keep),(34,.keep),(35,.keep)]),(15,[(3,.keep),(12,.keep),(13,.keep),(14,.keep),(25,.keep),(26,.keep),(27,.keep),(46,.keep),(47,.keep),(48,.keep)])] [(3,1,[(3,.keep)]),(7,3,[(3,.keep),(12,.keep),(13,.keep),(14,.keep)]),(10,5,[(3,.keep),(7,.keep),(12,.keep),(13,.keep),(14,.keep),(25,.keep),(26,.keep),(27,.keep)]),(15,7,[(3,.keep),(12,.keep),(13,.keep),(14,.keep),(25,.keep),(26,.keep),(27,.keep)])] [(10,spW zpO zpJ (zk0 zj) default zoT zoH),(15,spW zpU zpx (zlk zj) default zoU zos),(7,spW zqy zqO (zlZ zj) default zpn zpK),(3,spW zqV zqC (zlX zj) default zp2 zpT)] []
theorem zv5 (zj:List Term→Bool×Int):z8 (zhk zj) (lp (body Tryz.f137) 2):=zQ (id:=10) (V:=zpO) (B:=zpJ) (W:=zk0 zj) (z:=default) (tr:=zoT) (m:=zoH)
theorem zwj (zj:List Term→Bool×Int):z8 (zhk zj) (lp (body Tryz.f137) 3):=zQ (id:=15) (V:=zpU) (B:=zpx) (W:=zlk zj) (z:=default) (tr:=zoU) (m:=zos)
theorem zw4 (zj:List Term→Bool×Int):z8 (zhk zj) (lp (body Tryz.f137) 1):=zQ (id:=7) (V:=zqy) (B:=zqO) (W:=zlZ zj) (z:=default) (tr:=zpn) (m:=zpK)
theorem zwo (zj:List Term→Bool×Int):z8 (zhk zj) (lp (body Tryz.f137) 0):=zQ (id:=3) (V:=zqV) (B:=zqC) (W:=zlX zj) (z:=default) (tr:=zp2) (m:=zpT)
def zri (zj:List Term→Bool×Int) (a:List Term):Wy0 (Int):=.bn (zxq zj (Int.toNat 0+a.length+(Int.ofNat a.length).toNat +Int.toNat 0+1000) 0 a (Int.ofNat a.length) 0) fun r10=>.k r10
def ztx (zj:List Term→Bool×Int) (a:List Term):Bool×Int:=(zri zj a).fin default
theorem zvb (zj:List Term→Bool×Int) (zyE:Sound Tryz.prog base 137 (ziU zj)):Sound Tryz.prog base 137 (ziU (ztx zj)):=
 zy (cx':=(zhk zj)) zG zr zC (zA ⟨zyE,trivial⟩) Tryz.call137 Tryz.func137 (c:=body Tryz.f137) (by kernel_rfl) (zi (l:=[lp (body Tryz.f137) 0,lp (body Tryz.f137) 1,lp (body Tryz.f137) 2,lp (body Tryz.f137) 3]) (by kernel_rfl) ⟨zwo zj,zw4 zj,zv5 zj,zwj zj,trivial⟩) (sg:=⟨[.pure],[]⟩) (A:=ztk) (res:=zru) (W:=fun x=>zri zj x.1) (z:=default)
def zDv:Nat→(List Term→Bool×Int)
 | 0=>fun _=>(false,default)
 | n+1=>ztx (zDv n)
def ztp (n:Nat):List Term→Bool×Int:=zDv n
theorem zA2:∀ n,Sound Tryz.prog base 137 (ziU (ztp n))
 | 0=>zbi Tryz.call137 (fun _=>rfl)
 | n+1=>by
  have ih:=zA2 n
  exact zvb _ (ih)
def zvg:List Term→Bool×Int:=ztp 1000
def annotation_Size_spec:Ab.Spec ty:=ziU zvg
theorem zwV:Sound Tryz.prog base 137 annotation_Size_spec:=(zA2 1000)
def zot (r:Int):ARes ty:=⟨[.pure (.lit (.int .i64 r))],[]⟩
def zq9:AL base (List Term×Unit):=zf (zg (vSl 152)) aNil
def zhl (F:List Term→Bool×Int):Ab.Spec ty:=zn zq9 fun x=>((F x.1).1,zot (F x.1).2)
abbrev ttTannotationnesting0:=Int×Unit×Int×List Term×Int×Int×List Factor×Int×Int×List (List Term)×Int×Int×Unit
abbrev ttTannotationnesting1:=Int×Int×List Term×Int×Int×List Factor×Int×Int×Factor
abbrev ttTannotationnesting2:=Int×Int×List Term×Int×Int×List Factor×Int×Int×List Weighted×Int×Int×Unit
abbrev ttTannotationnesting3:=Int×Int×List Term×Int×Int×List Factor×Int×Int
abbrev ttTannotationnesting4:=Int×List Term×Int×Int×List Factor×Int×Int×Unit
abbrev ttTannotationnesting5:=Int×List Term×Int×Int
abbrev ttTannotationnesting6:=Int×List Term×Int×Int×Unit
def zuM (zh:List Term→Bool×Int) (n_:Int) (inner:Int) (t13:List Term) (t14:Int) (t15:Int) (t20:List Factor) (t21:Int) (t22:Int) (t32:List (List Term)) (t33:Int) (t34:Int) (f:Factor):Wy ttTannotationnesting0 (Factor×Unit) ttTannotationnesting1:=.i (decide (t34<t33)) (.i (decide (0≤t34)&&decide (t34<Int.ofNat t32.length)) (.bn (zh (t32.getD t34.toNat default)) fun r0=>.h (n_,(),(if r0>inner then r0 else inner),t13,t14,t15,t20,t21,t22,t32,t33,(IntKind.i64.wrap (t34+1)),()) (f,())) .d) (.k (n_,inner,t13,t14,t15,t20,t21,t22,f))
def zjx (zh:List Term→Bool×Int) (x:ttTannotationnesting0) (y:Factor×Unit):Wy ttTannotationnesting0 (Factor×Unit) ttTannotationnesting1:=zuM zh x.1 x.2.2.1 x.2.2.2.1 x.2.2.2.2.1 x.2.2.2.2.2.1 x.2.2.2.2.2.2.1 x.2.2.2.2.2.2.2.1 x.2.2.2.2.2.2.2.2.1 x.2.2.2.2.2.2.2.2.2.1 x.2.2.2.2.2.2.2.2.2.2.1 x.2.2.2.2.2.2.2.2.2.2.2.1 y.1
def zui (zh:List Term→Bool×Int) (n:Nat) (n_:Int) (inner:Int) (t13:List Term) (t14:Int) (t15:Int) (t20:List Factor) (t21:Int) (t22:Int) (t32:List (List Term)) (t33:Int) (t34:Int) (f:Factor):Bool×ttTannotationnesting1:=zba (zjx zh) default n (n_,(),inner,t13,t14,t15,t20,t21,t22,t32,t33,t34,()) (f,())
def zmJ (r:ttTannotationnesting1):LTree ty:=.done (.exit 4) [.lit (.int .i64 r.1),.ptr 256 0,.lit (.int .i64 r.2.1),.sl 152 r.2.2.1,.lit (.int .i64 r.2.2.2.1),.lit (.int .i64 r.2.2.2.2.1),.sl 160 r.2.2.2.2.2.1,.lit (.int .i64 r.2.2.2.2.2.2.1),.lit (.int .i64 r.2.2.2.2.2.2.2.1)] [.box (base.enc 160 r.2.2.2.2.2.2.2.2) false]
def zng:LL ty ttTannotationnesting0:=za (lInt .i64) (za (zcS 256 0) (za (lInt .i64) (za (lSl 152) (za (lInt .i64) (za (lInt .i64) (za (lSl 160) (za (lInt .i64) (za (lInt .i64) (za (lSl 36) (za (lInt .i64) (za (lInt .i64) zF)))))))))))
def znx:BL ty (Factor×Unit):=bBox (zfM (fun x=>(⟨⟨x.1,⟨x.2.1,x.2.2.1⟩,x.2.2.2.1,x.2.2.2.2.1,x.2.2.2.2.2.1,x.2.2.2.2.2.2.1,⟨x.2.2.2.2.2.2.2.1,x.2.2.2.2.2.2.2.2.1,x.2.2.2.2.2.2.2.2.2.1⟩⟩,x.2.2.2.2.2.2.2.2.2.2.1⟩:Factor)) (fun x=>(x.Atom.Kind,x.Atom.Row.Table,x.Atom.Row.Seq,x.Atom.Args,x.Atom.Func,x.Atom.Items,x.Atom.Op,x.Atom.Bound.Kind,x.Atom.Bound.Int,x.Atom.Bound.Text,x.Exp,())) (fun _=>rfl) (za (lInt .i64) (za (lInt .i64) (za (lInt .i64) (za (lSl 36) (za (lInt .i64) (za (lSl 182) (za (lInt .i64) (za (lInt .i64) (za (lInt .i64) (za lStr (za (lInt .i64) zF)))))))))))) false (bNil)
def zuF (zh:List Term→Bool×Int) (n_:Int) (inner:Int) (t13:List Term) (t14:Int) (t15:Int) (t20:List Factor) (t21:Int) (t22:Int) (t45:List Weighted) (t46:Int) (t47:Int):Wy ttTannotationnesting2 (Unit) ttTannotationnesting3:=.i (decide (t47<t46)) (.i (decide (0≤t47)&&decide (t47<Int.ofNat t45.length)) (.bn (zh (t45.getD t47.toNat default).Ann) fun r2=>.h (n_,(if r2>inner then r2 else inner),t13,t14,t15,t20,t21,t22,t45,t46,(IntKind.i64.wrap (t47+1)),()) ()) .d) (.k (n_,inner,t13,t14,t15,t20,t21,t22))
def zjw (zh:List Term→Bool×Int) (x:ttTannotationnesting2) (y:Unit):Wy ttTannotationnesting2 (Unit) ttTannotationnesting3:=zuF zh x.1 x.2.1 x.2.2.1 x.2.2.2.1 x.2.2.2.2.1 x.2.2.2.2.2.1 x.2.2.2.2.2.2.1 x.2.2.2.2.2.2.2.1 x.2.2.2.2.2.2.2.2.1 x.2.2.2.2.2.2.2.2.2.1 x.2.2.2.2.2.2.2.2.2.2.1
def zuE (zh:List Term→Bool×Int) (n:Nat) (n_:Int) (inner:Int) (t13:List Term) (t14:Int) (t15:Int) (t20:List Factor) (t21:Int) (t22:Int) (t45:List Weighted) (t46:Int) (t47:Int):Bool×ttTannotationnesting3:=zba (zjw zh) default n (n_,inner,t13,t14,t15,t20,t21,t22,t45,t46,t47,()) ()
def zmD (r:ttTannotationnesting3):LTree ty:=.done (.exit 6) [.lit (.int .i64 r.1),.lit (.int .i64 r.2.1),.sl 152 r.2.2.1,.lit (.int .i64 r.2.2.2.1),.lit (.int .i64 r.2.2.2.2.1),.sl 160 r.2.2.2.2.2.1,.lit (.int .i64 r.2.2.2.2.2.2.1),.lit (.int .i64 r.2.2.2.2.2.2.2)] []
def znj:LL ty ttTannotationnesting2:=za (lInt .i64) (za (lInt .i64) (za (lSl 152) (za (lInt .i64) (za (lInt .i64) (za (lSl 160) (za (lInt .i64) (za (lInt .i64) (za (lSl 182) (za (lInt .i64) (za (lInt .i64) zF))))))))))
def znu:BL ty (Unit):=bNil
def zuX (zh:List Term→Bool×Int) (n_:Int) (t13:List Term) (t14:Int) (t15:Int) (t20:List Factor) (t21:Int) (t22:Int):Wy ttTannotationnesting4 (Unit) ttTannotationnesting5:=.i (decide (t22<t21)) (.i (decide (0≤t22)&&decide (t22<Int.ofNat t20.length)) (.i ((t20.getD t22.toNat default).Atom.Kind==0) (.h (n_,t13,t14,t15,t20,t21,(IntKind.i64.wrap (t22+1)),()) ()) (.bn (zui zh (n_.toNat +Int.toNat 0+t13.length+t14.toNat +t15.toNat +t20.length+t21.toNat +t22.toNat +(t20.getD t22.toNat default).Atom.Args.length+(Int.ofNat (t20.getD t22.toNat default).Atom.Args.length).toNat +Int.toNat 0+(t20.getD t22.toNat default).Atom.Args.length+(t20.getD t22.toNat default).Atom.Items.length+1000) n_ 0 t13 t14 t15 t20 t21 t22 (t20.getD t22.toNat default).Atom.Args (Int.ofNat (t20.getD t22.toNat default).Atom.Args.length) 0 (FactorOf.mk (Atom.mk (t20.getD t22.toNat default).Atom.Kind (t20.getD t22.toNat default).Atom.Row (t20.getD t22.toNat default).Atom.Args (t20.getD t22.toNat default).Atom.Func (t20.getD t22.toNat default).Atom.Items (t20.getD t22.toNat default).Atom.Op (t20.getD t22.toNat default).Atom.Bound) (t20.getD t22.toNat default).Exp)) fun r5=>.bn (zuE zh (r5.1.toNat +r5.2.1.toNat +r5.2.2.1.length+r5.2.2.2.1.toNat +r5.2.2.2.2.1.toNat +r5.2.2.2.2.2.1.length+r5.2.2.2.2.2.2.1.toNat +r5.2.2.2.2.2.2.2.1.toNat +r5.2.2.2.2.2.2.2.2.Atom.Items.length+(Int.ofNat r5.2.2.2.2.2.2.2.2.Atom.Items.length).toNat +Int.toNat 0+1000) r5.1 r5.2.1 r5.2.2.1 r5.2.2.2.1 r5.2.2.2.2.1 r5.2.2.2.2.2.1 r5.2.2.2.2.2.2.1 r5.2.2.2.2.2.2.2.1 r5.2.2.2.2.2.2.2.2.Atom.Items (Int.ofNat r5.2.2.2.2.2.2.2.2.Atom.Items.length) 0) fun r4=>.h ((if IntKind.i64.wrap (1+r4.2.1)>r4.1 then IntKind.i64.wrap (1+r4.2.1) else r4.1),(r4.2.2.1),(r4.2.2.2.1),(r4.2.2.2.2.1),(r4.2.2.2.2.2.1),(r4.2.2.2.2.2.2.1),(IntKind.i64.wrap (r4.2.2.2.2.2.2.2+1)),()) ())) .d) (.k (n_,t13,t14,t15))
def zjP (zh:List Term→Bool×Int) (x:ttTannotationnesting4) (y:Unit):Wy ttTannotationnesting4 (Unit) ttTannotationnesting5:=zuX zh x.1 x.2.1 x.2.2.1 x.2.2.2.1 x.2.2.2.2.1 x.2.2.2.2.2.1 x.2.2.2.2.2.2.1
def zu6 (zh:List Term→Bool×Int) (n:Nat) (n_:Int) (t13:List Term) (t14:Int) (t15:Int) (t20:List Factor) (t21:Int) (t22:Int):Bool×ttTannotationnesting5:=zba (zjP zh) default n (n_,t13,t14,t15,t20,t21,t22,()) ()
def znw (r:ttTannotationnesting5):LTree ty:=.done (.exit 2) [.lit (.int .i64 r.1),.sl 152 r.2.1,.lit (.int .i64 r.2.2.1),.lit (.int .i64 r.2.2.2)] []
def zn2:LL ty ttTannotationnesting4:=za (lInt .i64) (za (lSl 152) (za (lInt .i64) (za (lInt .i64) (za (lSl 160) (za (lInt .i64) (za (lInt .i64) zF))))))
def znN:BL ty (Unit):=bNil
def zu1 (zh:List Term→Bool×Int) (n_:Int) (t13:List Term) (t14:Int) (t15:Int):Wy ttTannotationnesting6 (Unit) (Int):=.i (decide (t15<t14)) (.i (decide (0≤t15)&&decide (t15<Int.ofNat t13.length)) (.bn (zu6 zh (n_.toNat +t13.length+t14.toNat +t15.toNat +(t13.getD t15.toNat default).Factors.length+(Int.ofNat (t13.getD t15.toNat default).Factors.length).toNat +Int.toNat 0+1000) n_ t13 t14 t15 (t13.getD t15.toNat default).Factors (Int.ofNat (t13.getD t15.toNat default).Factors.length) 0) fun r8=>.h ((r8.1),(r8.2.1),(r8.2.2.1),(IntKind.i64.wrap (r8.2.2.2+1)),()) ()) .d) (.k n_)
def zjQ (zh:List Term→Bool×Int) (x:ttTannotationnesting6) (y:Unit):Wy ttTannotationnesting6 (Unit) (Int):=zu1 zh x.1 x.2.1 x.2.2.1 x.2.2.2.1
def zu2 (zh:List Term→Bool×Int) (n:Nat) (n_:Int) (t13:List Term) (t14:Int) (t15:Int):Bool×Int:=zba (zjQ zh) default n (n_,t13,t14,t15,()) ()
def znv (r:Int):LTree ty:=.done (.exit 0) [.lit (.int .i64 r)] []
def zn8:LL ty ttTannotationnesting6:=za (lInt .i64) (za (lSl 152) (za (lInt .i64) (za (lInt .i64) zF)))
def znQ:BL ty (Unit):=bNil
def zmO (x:ttTannotationnesting0) (y:Factor×Unit):Nat:=(Int.toNat x.1+Int.toNat x.2.2.1+x.2.2.2.1.length+Int.toNat x.2.2.2.2.1+Int.toNat x.2.2.2.2.2.1+x.2.2.2.2.2.2.1.length+Int.toNat x.2.2.2.2.2.2.2.1+Int.toNat x.2.2.2.2.2.2.2.2.1+x.2.2.2.2.2.2.2.2.2.1.length+Int.toNat x.2.2.2.2.2.2.2.2.2.2.1+Int.toNat x.2.2.2.2.2.2.2.2.2.2.2.1+y.1.Atom.Args.length+y.1.Atom.Items.length+1000)
def zmV (x:ttTannotationnesting2) (y:Unit):Nat:=(Int.toNat x.1+Int.toNat x.2.1+x.2.2.1.length+Int.toNat x.2.2.2.1+Int.toNat x.2.2.2.2.1+x.2.2.2.2.2.1.length+Int.toNat x.2.2.2.2.2.2.1+Int.toNat x.2.2.2.2.2.2.2.1+x.2.2.2.2.2.2.2.2.1.length+Int.toNat x.2.2.2.2.2.2.2.2.2.1+Int.toNat x.2.2.2.2.2.2.2.2.2.2.1+1000)
def znd (x:ttTannotationnesting4) (y:Unit):Nat:=(Int.toNat x.1+x.2.1.length+Int.toNat x.2.2.1+Int.toNat x.2.2.2.1+x.2.2.2.2.1.length+Int.toNat x.2.2.2.2.2.1+Int.toNat x.2.2.2.2.2.2.1+1000)
def zm9 (x:ttTannotationnesting6) (y:Unit):Nat:=(Int.toNat x.1+x.2.1.length+Int.toNat x.2.2.1+Int.toNat x.2.2.2.1+1000)
def zf7 (zh:List Term→Bool×Int):Cx ty:=mkCx base 64 [(136,(zhl zh))] [] [(3,[(3,.keep),(13,.keep),(14,.keep),(15,.keep)]),(6,[(3,.keep),(13,.keep),(14,.keep),(15,.keep),(20,.keep),(21,.keep),(22,.keep)]),(11,[(3,.keep),(7,.keep),(8,.keep),(13,.keep),(14,.keep),(15,.keep),(20,.keep),(21,.keep),(22,.keep),(32,.keep),(33,.keep),(34,.keep)]),(16,[(3,.keep),(8,.keep),(13,.keep),(14,.keep),(15,.keep),(20,.keep),(21,.keep),(22,.keep),(45,.keep),(46,.keep),(47,.keep)])] [(3,1,[(3,.keep)]),(6,3,[(3,.keep),(13,.keep),(14,.keep),(15,.keep)]),(11,5,[(3,.keep),(7,.keep),(8,.keep),(13,.keep),(14,.keep),(15,.keep),(20,.keep),(21,.keep),(22,.keep)]),(16,7,[(3,.keep),(8,.keep),(13,.keep),(14,.keep),(15,.keep),(20,.keep),(21,.keep),(22,.keep)])] [(11,spW zng znx (zjx zh) default zmJ zmO),(16,spW znj znu (zjw zh) default zmD zmV),(6,spW zn2 znN (zjP zh) default znw znd),(3,spW zn8 znQ (zjQ zh) default znv zm9)] []
theorem ztQ (zh:List Term→Bool×Int):z8 (zf7 zh) (lp (body Tryz.f136) 2):=zQ (id:=11) (V:=zng) (B:=znx) (W:=zjx zh) (z:=default) (tr:=zmJ) (m:=zmO)
theorem ztH (zh:List Term→Bool×Int):z8 (zf7 zh) (lp (body Tryz.f136) 3):=zQ (id:=16) (V:=znj) (B:=znu) (W:=zjw zh) (z:=default) (tr:=zmD) (m:=zmV)
theorem zun (zh:List Term→Bool×Int):z8 (zf7 zh) (lp (body Tryz.f136) 1):=zQ (id:=6) (V:=zn2) (B:=znN) (W:=zjP zh) (z:=default) (tr:=znw) (m:=znd)
theorem zt5 (zh:List Term→Bool×Int):z8 (zf7 zh) (lp (body Tryz.f136) 0):=zQ (id:=3) (V:=zn8) (B:=znQ) (W:=zjQ zh) (z:=default) (tr:=znv) (m:=zm9)
def zoB (zh:List Term→Bool×Int) (a:List Term):Wy0 (Int):=.bn (zu2 zh (Int.toNat 0+a.length+(Int.ofNat a.length).toNat +Int.toNat 0+1000) 0 a (Int.ofNat a.length) 0) fun r10=>.k r10
def zqU (zh:List Term→Bool×Int) (a:List Term):Bool×Int:=(zoB zh a).fin default
theorem ztc (zh:List Term→Bool×Int) (zvR:Sound Tryz.prog base 136 (zhl zh)):Sound Tryz.prog base 136 (zhl (zqU zh)):=
 zy (cx':=(zf7 zh)) zG zr zC (zA ⟨zvR,trivial⟩) Tryz.call136 Tryz.func136 (c:=body Tryz.f136) (by kernel_rfl) (zi (l:=[lp (body Tryz.f136) 0,lp (body Tryz.f136) 1,lp (body Tryz.f136) 2,lp (body Tryz.f136) 3]) (by kernel_rfl) ⟨zt5 zh,zun zh,ztQ zh,ztH zh,trivial⟩) (sg:=⟨[.pure],[]⟩) (A:=zq9) (res:=zot) (W:=fun x=>zoB zh x.1) (z:=default)
def zAw:Nat→(List Term→Bool×Int)
 | 0=>fun _=>(false,default)
 | n+1=>zqU (zAw n)
def zqw (n:Nat):List Term→Bool×Int:=zAw n
theorem zyl:∀ n,Sound Tryz.prog base 136 (zhl (zqw n))
 | 0=>zbi Tryz.call136 (fun _=>rfl)
 | n+1=>by
  have ih:=zyl n
  exact ztc _ (ih)
def zsK:List Term→Bool×Int:=zqw 1000
def annotation_nesting_spec:Ab.Spec ty:=zhl zsK
theorem zuD:Sound Tryz.prog base 136 annotation_nesting_spec:=(zyl 1000)
def zta:Cx ty:=mkCx base 13 [] [] [] [] [] []
def zmC (f:Factor):Wy0 (Bool):=.i (decide (f.Exp>64)) (.k true) (.k (decide (Int.ofNat f.Atom.Items.length>1024)))
def zjU (f:Factor):Bool×Bool:=(zmC f).fin default
def zlL (r:Bool):ARes ty:=⟨[.pure (.lit (.bool r))],[]⟩
def zmW:AL base (Factor×Unit):=zf (zg (vAgg 160)) aNil
def zfP:Ab.Spec ty:=zn zmW fun x=>((zjU x.1).1,zlL (zjU x.1).2)
theorem zhL:Sound Tryz.prog base 141 zfP:=
 zy (cx':=zta) zG zr zC (zA trivial) Tryz.call141 Tryz.func141 (c:=body Tryz.f141) (by kernel_rfl) (zi (l:=[]) (by kernel_rfl) trivial) (sg:=⟨[.pure],[]⟩) (A:=zmW) (res:=zlL) (W:=fun x=>zmC x.1) (z:=default)
abbrev ttTslicesIndexFuncLapiFactorapiFactorwi0:=List Factor×Unit×Int×Int×Unit
def zkf (s:List Factor) (t7:Int) (t8:Int):Wy ttTslicesIndexFuncLapiFactorapiFactorwi0 (Unit) (Int⊕Unit):=.i (decide (t8<t7)) (.i (decide (0≤t8)&&decide (t8<Int.ofNat s.length)) (.bn (zjU (FactorOf.mk (Atom.mk (s.getD t8.toNat default).Atom.Kind (s.getD t8.toNat default).Atom.Row (s.getD t8.toNat default).Atom.Args (s.getD t8.toNat default).Atom.Func (s.getD t8.toNat default).Atom.Items (s.getD t8.toNat default).Atom.Op (s.getD t8.toNat default).Atom.Bound) (s.getD t8.toNat default).Exp)) fun r0=>.i (r0) (.k (.inl t8)) (.h (s,(),t7,(IntKind.i64.wrap (t8+1)),()) ())) .d) (.k (.inr ()))
def zc9 (x:ttTslicesIndexFuncLapiFactorapiFactorwi0) (y:Unit):Wy ttTslicesIndexFuncLapiFactorapiFactorwi0 (Unit) (Int⊕Unit):=zkf x.1 x.2.2.1 x.2.2.2.1
def zj8 (n:Nat) (s:List Factor) (t7:Int) (t8:Int):Bool×(Int⊕Unit):=zba (zc9) (.inl default) n (s,(),t7,t8,()) ()
def zf3 (r:Int⊕Unit):LTree ty:=.ite (isL r) (.done .ret [.lit (.int .i64 (getL r))] []) (.done (.exit 0) [] [])
def zgb:LL ty ttTslicesIndexFuncLapiFactorapiFactorwi0:=za (lSl 160) (za (lFn 141 (zF)) (za (lInt .i64) (za (lInt .i64) zF)))
def zgc:BL ty (Unit):=bNil
def zf1 (x:ttTslicesIndexFuncLapiFactorapiFactorwi0) (y:Unit):Nat:=(x.1.length+Int.toNat x.2.2.1+Int.toNat x.2.2.2.1+1000)
def zgh:Cx ty:=mkCx base 19 [(141,zfP)] [] [(2,[(0,.keep),(1,.keep),(7,.keep),(8,.keep)])] [(2,1,[]),(2,0,[(4,.keep)])] [(2,spW zgb zgc (zc9) (.inl default) zf3 zf1)] []
theorem zjZ:z8 zgh (lp (body Tryz.f196) 0):=zQ (id:=2) (V:=zgb) (B:=zgc) (W:=zc9) (z:=.inl default) (tr:=zf3) (m:=zf1)
def zgC (s:List Factor):Wy0 (Int):=.bn (zj8 (s.length+(Int.ofNat s.length).toNat +Int.toNat 0+1000) s (Int.ofNat s.length) 0) fun r2=>.i (isL r2) (.k (getL r2)) (.k (-1:Int))
def zdJ (s:List Factor):Bool×Int:=(zgC s).fin default
def zfW (r:Int):ARes ty:=⟨[.pure (.lit (.int .i64 r))],[]⟩
def zgH:AL base (List Factor×Unit×Unit):=zf (zg (vSl 160)) (zf (zg (vFn 141 vNil)) aNil)
def zfJ:Ab.Spec ty:=zn zgH fun x=>((zdJ x.1).1,zfW (zdJ x.1).2)
theorem zjv:Sound Tryz.prog base 196 zfJ:=
 zy (cx':=zgh) zG zr zC (zA ⟨zhL,trivial⟩) Tryz.call196 Tryz.func196 (c:=body Tryz.f196) (by kernel_rfl) (zi (l:=[lp (body Tryz.f196) 0]) (by kernel_rfl) ⟨zjZ,trivial⟩) (sg:=⟨[.pure],[]⟩) (A:=zgH) (res:=zfW) (W:=fun x=>zgC x.1) (z:=default)
def zjA:Cx ty:=mkCx base 9 [(141,zfP),(196,zfJ)] [] [] [] [] []
def zfG (s:List Factor):Wy0 (Bool):=.bn (zdJ s) fun r0=>.k (decide (r0≥0))
def zc6 (s:List Factor):Bool×Bool:=(zfG s).fin default
def ze5 (r:Bool):ARes ty:=⟨[.pure (.lit (.bool r))],[]⟩
def zfA:AL base (List Factor×Unit×Unit):=zf (zg (vSl 160)) (zf (zg (vFn 141 vNil)) aNil)
def zeJ:Ab.Spec ty:=zn zfA fun x=>((zc6 x.1).1,ze5 (zc6 x.1).2)
theorem ziW:Sound Tryz.prog base 140 zeJ:=
 zy (cx':=zjA) zG zr zC (zA ⟨zhL,zjv,trivial⟩) Tryz.call140 Tryz.func140 (c:=body Tryz.f140) (by kernel_rfl) (zi (l:=[]) (by kernel_rfl) trivial) (sg:=⟨[.pure],[]⟩) (A:=zfA) (res:=ze5) (W:=fun x=>zfG x.1) (z:=default)
def zva:Cx ty:=mkCx base 12 [(140,zeJ),(141,zfP)] [] [] [] [] []
def zoy (t:Term):Wy0 (Bool):=.i (decide (Int.ofNat t.Factors.length>64)) (.k true) (.bn (zc6 t.Factors) fun r0=>.k r0)
def zlW (t:Term):Bool×Bool:=(zoy t).fin default
def znm (r:Bool):ARes ty:=⟨[.pure (.lit (.bool r))],[]⟩
def zoV:AL base (Term×Unit):=zf (zg (vAgg 152)) aNil
def zg7:Ab.Spec ty:=zn zoV fun x=>((zlW x.1).1,znm (zlW x.1).2)
theorem ziS:Sound Tryz.prog base 139 zg7:=
 zy (cx':=zva) zG zr zC (zA ⟨ziW,zhL,trivial⟩) Tryz.call139 Tryz.func139 (c:=body Tryz.f139) (by kernel_rfl) (zi (l:=[]) (by kernel_rfl) trivial) (sg:=⟨[.pure],[]⟩) (A:=zoV) (res:=znm) (W:=fun x=>zoy x.1) (z:=default)
abbrev ttTslicesIndexFuncapiAnnotationapiTermwi0:=List Term×Unit×Int×Int×Unit
def zjO (s:List Term) (t7:Int) (t8:Int):Wy ttTslicesIndexFuncapiAnnotationapiTermwi0 (Unit) (Int⊕Unit):=.i (decide (t8<t7)) (.i (decide (0≤t8)&&decide (t8<Int.ofNat s.length)) (.bn (zlW (s.getD t8.toNat default)) fun r0=>.i (r0) (.k (.inl t8)) (.h (s,(),t7,(IntKind.i64.wrap (t8+1)),()) ())) .d) (.k (.inr ()))
def zcY (x:ttTslicesIndexFuncapiAnnotationapiTermwi0) (y:Unit):Wy ttTslicesIndexFuncapiAnnotationapiTermwi0 (Unit) (Int⊕Unit):=zjO x.1 x.2.2.1 x.2.2.2.1
def zjN (n:Nat) (s:List Term) (t7:Int) (t8:Int):Bool×(Int⊕Unit):=zba (zcY) (.inl default) n (s,(),t7,t8,()) ()
def zfC (r:Int⊕Unit):LTree ty:=.ite (isL r) (.done .ret [.lit (.int .i64 (getL r))] []) (.done (.exit 0) [] [])
def zf2:LL ty ttTslicesIndexFuncapiAnnotationapiTermwi0:=za (lSl 152) (za (lFn 139 (zF)) (za (lInt .i64) (za (lInt .i64) zF)))
def zfT:BL ty (Unit):=bNil
def zfH (x:ttTslicesIndexFuncapiAnnotationapiTermwi0) (y:Unit):Nat:=(x.1.length+Int.toNat x.2.2.1+Int.toNat x.2.2.2.1+1000)
def zfY:Cx ty:=mkCx base 19 [(139,zg7)] [] [(2,[(0,.keep),(1,.keep),(7,.keep),(8,.keep)])] [(2,1,[]),(2,0,[(4,.keep)])] [(2,spW zf2 zfT (zcY) (.inl default) zfC zfH)] []
theorem zjJ:z8 zfY (lp (body Tryz.f195) 0):=zQ (id:=2) (V:=zf2) (B:=zfT) (W:=zcY) (z:=.inl default) (tr:=zfC) (m:=zfH)
def zgd (s:List Term):Wy0 (Int):=.bn (zjN (s.length+(Int.ofNat s.length).toNat +Int.toNat 0+1000) s (Int.ofNat s.length) 0) fun r2=>.i (isL r2) (.k (getL r2)) (.k (-1:Int))
def zdj (s:List Term):Bool×Int:=(zgd s).fin default
def zfB (r:Int):ARes ty:=⟨[.pure (.lit (.int .i64 r))],[]⟩
def zgj:AL base (List Term×Unit×Unit):=zf (zg (vSl 152)) (zf (zg (vFn 139 vNil)) aNil)
def zfh:Ab.Spec ty:=zn zgj fun x=>((zdj x.1).1,zfB (zdj x.1).2)
theorem zjt:Sound Tryz.prog base 195 zfh:=
 zy (cx':=zfY) zG zr zC (zA ⟨ziS,trivial⟩) Tryz.call195 Tryz.func195 (c:=body Tryz.f195) (by kernel_rfl) (zi (l:=[lp (body Tryz.f195) 0]) (by kernel_rfl) ⟨zjJ,trivial⟩) (sg:=⟨[.pure],[]⟩) (A:=zgj) (res:=zfB) (W:=fun x=>zgd x.1) (z:=default)
def zjn:Cx ty:=mkCx base 9 [(139,zg7),(195,zfh)] [] [] [] [] []
def zft (s:List Term):Wy0 (Bool):=.bn (zdj s) fun r0=>.k (decide (r0≥0))
def zcU (s:List Term):Bool×Bool:=(zft s).fin default
def zeR (r:Bool):ARes ty:=⟨[.pure (.lit (.bool r))],[]⟩
def zfd:AL base (List Term×Unit×Unit):=zf (zg (vSl 152)) (zf (zg (vFn 139 vNil)) aNil)
def zeq:Ab.Spec ty:=zn zfd fun x=>((zcU x.1).1,zeR (zcU x.1).2)
theorem ziM:Sound Tryz.prog base 138 zeq:=
 zy (cx':=zjn) zG zr zC (zA ⟨ziS,zjt,trivial⟩) Tryz.call138 Tryz.func138 (c:=body Tryz.f138) (by kernel_rfl) (zi (l:=[]) (by kernel_rfl) trivial) (sg:=⟨[.pure],[]⟩) (A:=zfd) (res:=zeR) (W:=fun x=>zft x.1) (z:=default)
def zxS:Cx ty:=mkCx base 19 [(136,annotation_nesting_spec),(137,annotation_Size_spec),(138,zeq),(139,zg7)] [] [] [] [] []
def zrD (a:List Term):Wy0 (Bool):=.i (decide (Int.ofNat a.length>512)) (.k false) (.bn (zsK a) fun r2=>.i (decide (r2>8)) (.k false) (.bn (zvg a) fun r1=>.i (decide (r1>4096)) (.k false) (.bn (zcU a) fun r0=>.k (!r0))))
def zoo (a:List Term):Bool×Bool:=(zrD a).fin default
def zpQ (r:Bool):ARes ty:=⟨[.pure (.lit (.bool r))],[]⟩
def zrq:AL base (List Term×Unit):=zf (zg (vSl 152)) aNil
def zo0:Ab.Spec ty:=zn zrq fun x=>((zoo x.1).1,zpQ (zoo x.1).2)
theorem zuY:Sound Tryz.prog base 107 zo0:=
 zy (cx':=zxS) zG zr zC (zA ⟨zuD,zwV,ziM,ziS,trivial⟩) Tryz.call107 Tryz.func107 (c:=body Tryz.f107) (by kernel_rfl) (zi (l:=[]) (by kernel_rfl) trivial) (sg:=⟨[.pure],[]⟩) (A:=zrq) (res:=zpQ) (W:=fun x=>zrD x.1) (z:=default)
end Go.Proofs.YtddkaehkimnklaaGreatDoor
end
