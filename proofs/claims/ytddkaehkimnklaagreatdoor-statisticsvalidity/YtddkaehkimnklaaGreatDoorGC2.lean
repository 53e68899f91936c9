/- Texts of this claim, joined (the program, its functions in plain words, and what they compute). -/
import Derived.Test.YtddkaehkimnklaaGreatDoorGC1
import Derived.Test.YtddkaehkimnklaaGreatDoorGA3
set_option autoImplicit false
set_option linter.unusedVariables false
set_option linter.unusedSectionVars false
set_option linter.unusedSimpArgs false
set_option maxRecDepth 1000000
set_option maxHeartbeats 0
noncomputable section
namespace Go.Proofs.YtddkaehkimnklaaGreatDoor
open Go Go.Ab
abbrev ttTstatisticsFormat0:=Unit×Unit×Unit×ByteArray×Unit×List ColumnStats×Int×Int×List Value×Int×Int×Unit
abbrev ttTstatisticsFormat1:=Stats×List ByteArray×ColumnStats×List ByteArray×Unit
abbrev ttTstatisticsFormat2:=ByteArray×List ColumnStats×Int×Int×Stats×List ByteArray×ColumnStats×List ByteArray
abbrev ttTstatisticsFormat3:=Unit×Unit×List ColumnStats×Int×Int×Unit
abbrev ttTstatisticsFormat4:=Stats×List ByteArray×Unit
def zlx (line:ByteArray) (t25:List ColumnStats) (t26:Int) (t27:Int) (t45:List Value) (t46:Int) (t47:Int) (s:Stats) (out_:List ByteArray) (c:ColumnStats) (l:List ByteArray):Wy ttTstatisticsFormat0 ttTstatisticsFormat1 ttTstatisticsFormat2:=.i (decide (t47<t46)) (.i (decide (0≤t47)&&decide (t47<Int.ofNat t45.length)) (.bn (zjJ (t45.getD t47.toNat default)) fun r0=>.i (decide ((l.length+[r0].length)*16≤reach)) (.h ((),(),(),line,(),t25,t26,t27,t45,t46,(IntKind.i64.wrap (t47+1)),()) (s,out_,c,(l++[r0]),())) .d) .d) (.k (line,t25,t26,t27,s,out_,c,l))
def ziI (x:ttTstatisticsFormat0) (y:ttTstatisticsFormat1):Wy ttTstatisticsFormat0 ttTstatisticsFormat1 ttTstatisticsFormat2:=zlx x.2.2.2.1 x.2.2.2.2.2.1 x.2.2.2.2.2.2.1 x.2.2.2.2.2.2.2.1 x.2.2.2.2.2.2.2.2.1 x.2.2.2.2.2.2.2.2.2.1 x.2.2.2.2.2.2.2.2.2.2.1 y.1 y.2.1 y.2.2.1 y.2.2.2.1
def zlo (n:Nat) (line:ByteArray) (t25:List ColumnStats) (t26:Int) (t27:Int) (t45:List Value) (t46:Int) (t47:Int) (s:Stats) (out_:List ByteArray) (c:ColumnStats) (l:List ByteArray):Bool×ttTstatisticsFormat2:=zP (ziI) default n ((),(),(),line,(),t25,t26,t27,t45,t46,t47,()) (s,out_,c,l,())
def zpT (r:ttTstatisticsFormat2):LTree ty:=.done (.exit 2) [.ptr 312 0,.own 313,.ptr 314 0,.lit (.string r.1),.own 315,.sl 43 r.2.1,.lit (.int .i64 r.2.2.1),.lit (.int .i64 r.2.2.2.1)] [.box (base.enc 30 r.2.2.2.2.1) false,.arr 9 r.2.2.2.2.2.1 false,.box (base.enc 43 r.2.2.2.2.2.2.1) false,.arr 9 r.2.2.2.2.2.2.2 false]
def zq6:LL ty ttTstatisticsFormat0:=za (zbW 312 0) (za (lOwn 313) (za (zbW 314 0) (za lStr (za (lOwn 315) (za (lSl 43) (za (lInt .i64) (za (lInt .i64) (za (lSl 40) (za (lInt .i64) (za (lInt .i64) zD))))))))))
def zqB:BL ty ttTstatisticsFormat1:=bBox (zdP (fun x=>(⟨x.1,x.2.1,x.2.2.1⟩:Stats)) (fun x=>(x.Table,x.Rows,x.Columns,())) (fun _=>rfl) (za (lInt .i64) (za (lInt .i64) (za (lSl 43) zD)))) false (bArr 9 false (bBox (zdP (fun x=>(⟨x.1,⟨x.2.1,x.2.2.1,x.2.2.2.1⟩,⟨x.2.2.2.2.1,x.2.2.2.2.2.1,x.2.2.2.2.2.2.1⟩,x.2.2.2.2.2.2.2.1⟩:ColumnStats)) (fun x=>(x.Distinct,x.Min.Kind,x.Min.Int,x.Min.Text,x.Max.Kind,x.Max.Int,x.Max.Text,x.Bounds,())) (fun _=>rfl) (za (lInt .i64) (za (lInt .i64) (za (lInt .i64) (za lStr (za (lInt .i64) (za (lInt .i64) (za lStr (za (lSl 40) zD))))))))) false (bArr 9 false (bNil))))
def zmx (t25:List ColumnStats) (t26:Int) (t27:Int) (s:Stats) (out_:List ByteArray):Wy ttTstatisticsFormat3 ttTstatisticsFormat4 (List ByteArray):=.i (decide (t27<t26)) (.i (decide (0≤t27)&&decide (t27<Int.ofNat t25.length)) (.bn (strconv_Itoa t27) fun r7=>.i (decide ((ByteArray.mk #[(99:UInt8),(111:UInt8),(108:UInt8),(117:UInt8),(109:UInt8),(110:UInt8),(32:UInt8)]).size+r7.size≤9223372036854775807)) (.i (decide ((ByteArray.mk #[(99:UInt8),(111:UInt8),(108:UInt8),(117:UInt8),(109:UInt8),(110:UInt8),(32:UInt8)]++r7).size+(ByteArray.mk #[(58:UInt8),(32:UInt8)]).size≤9223372036854775807)) (.bn (strconv_Itoa (t25.getD t27.toNat default).Distinct) fun r6=>.i (decide ((ByteArray.mk #[(99:UInt8),(111:UInt8),(108:UInt8),(117:UInt8),(109:UInt8),(110:UInt8),(32:UInt8)]++r7++ByteArray.mk #[(58:UInt8),(32:UInt8)]).size+r6.size≤9223372036854775807)) (.i (decide ((ByteArray.mk #[(99:UInt8),(111:UInt8),(108:UInt8),(117:UInt8),(109:UInt8),(110:UInt8),(32:UInt8)]++r7++ByteArray.mk #[(58:UInt8),(32:UInt8)]++r6).size+(ByteArray.mk #[(32:UInt8),(100:UInt8),(105:UInt8),(115:UInt8),(116:UInt8),(105:UInt8),(110:UInt8),(99:UInt8),(116:UInt8)]).size≤9223372036854775807)) (.i (decide (s.Rows>0)) (.bn (zlo ((ByteArray.mk #[(99:UInt8),(111:UInt8),(108:UInt8),(117:UInt8),(109:UInt8),(110:UInt8),(32:UInt8)]++r7++ByteArray.mk #[(58:UInt8),(32:UInt8)]++r6++ByteArray.mk #[(32:UInt8),(100:UInt8),(105:UInt8),(115:UInt8),(116:UInt8),(105:UInt8),(110:UInt8),(99:UInt8),(116:UInt8)]).size+t25.length+t26.toNat +t27.toNat +(t25.getD t27.toNat default).Bounds.length+(Int.ofNat (t25.getD t27.toNat default).Bounds.length).toNat +Int.toNat 0+s.Columns.length+out_.length+(t25.getD t27.toNat default).Bounds.length+0+1000) (ByteArray.mk #[(99:UInt8),(111:UInt8),(108:UInt8),(117:UInt8),(109:UInt8),(110:UInt8),(32:UInt8)]++r7++ByteArray.mk #[(58:UInt8),(32:UInt8)]++r6++ByteArray.mk #[(32:UInt8),(100:UInt8),(105:UInt8),(115:UInt8),(116:UInt8),(105:UInt8),(110:UInt8),(99:UInt8),(116:UInt8)]) t25 t26 t27 (t25.getD t27.toNat default).Bounds (Int.ofNat (t25.getD t27.toNat default).Bounds.length) 0 s out_ (t25.getD t27.toNat default) []) fun r5=>.bn (zjJ r5.2.2.2.2.2.2.1.Min) fun r4=>.i (decide ((ByteArray.mk #[(44:UInt8),(32:UInt8)]).size+r4.size≤9223372036854775807)) (.i (decide ((ByteArray.mk #[(44:UInt8),(32:UInt8)]++r4).size+(ByteArray.mk #[(32:UInt8),(116:UInt8),(111:UInt8),(32:UInt8)]).size≤9223372036854775807)) (.bn (zjJ r5.2.2.2.2.2.2.1.Max) fun r3=>.i (decide ((ByteArray.mk #[(44:UInt8),(32:UInt8)]++r4++ByteArray.mk #[(32:UInt8),(116:UInt8),(111:UInt8),(32:UInt8)]).size+r3.size≤9223372036854775807)) (.i (decide ((ByteArray.mk #[(44:UInt8),(32:UInt8)]++r4++ByteArray.mk #[(32:UInt8),(116:UInt8),(111:UInt8),(32:UInt8)]++r3).size+(ByteArray.mk #[(44:UInt8),(32:UInt8),(98:UInt8),(111:UInt8),(117:UInt8),(110:UInt8),(100:UInt8),(97:UInt8),(114:UInt8),(105:UInt8),(101:UInt8),(115:UInt8),(32:UInt8)]).size≤9223372036854775807)) (.bn (strings_Join r5.2.2.2.2.2.2.2 (ByteArray.mk #[(44:UInt8),(32:UInt8)])) fun r2=>.i (decide ((ByteArray.mk #[(44:UInt8),(32:UInt8)]++r4++ByteArray.mk #[(32:UInt8),(116:UInt8),(111:UInt8),(32:UInt8)]++r3++ByteArray.mk #[(44:UInt8),(32:UInt8),(98:UInt8),(111:UInt8),(117:UInt8),(110:UInt8),(100:UInt8),(97:UInt8),(114:UInt8),(105:UInt8),(101:UInt8),(115:UInt8),(32:UInt8)]).size+r2.size≤9223372036854775807)) (.i (decide (r5.1.size+(ByteArray.mk #[(44:UInt8),(32:UInt8)]++r4++ByteArray.mk #[(32:UInt8),(116:UInt8),(111:UInt8),(32:UInt8)]++r3++ByteArray.mk #[(44:UInt8),(32:UInt8),(98:UInt8),(111:UInt8),(117:UInt8),(110:UInt8),(100:UInt8),(97:UInt8),(114:UInt8),(105:UInt8),(101:UInt8),(115:UInt8),(32:UInt8)]++r2).size≤9223372036854775807)) (.i (decide ((r5.2.2.2.2.2.1.length+[r5.1++(ByteArray.mk #[(44:UInt8),(32:UInt8)]++r4++ByteArray.mk #[(32:UInt8),(116:UInt8),(111:UInt8),(32:UInt8)]++r3++ByteArray.mk #[(44:UInt8),(32:UInt8),(98:UInt8),(111:UInt8),(117:UInt8),(110:UInt8),(100:UInt8),(97:UInt8),(114:UInt8),(105:UInt8),(101:UInt8),(115:UInt8),(32:UInt8)]++r2)].length)*16≤reach)) (.h ((),(),(r5.2.1),(r5.2.2.1),(IntKind.i64.wrap (r5.2.2.2.1+1)),()) ((r5.2.2.2.2.1),(r5.2.2.2.2.2.1++[r5.1++(ByteArray.mk #[(44:UInt8),(32:UInt8)]++r4++ByteArray.mk #[(32:UInt8),(116:UInt8),(111:UInt8),(32:UInt8)]++r3++ByteArray.mk #[(44:UInt8),(32:UInt8),(98:UInt8),(111:UInt8),(117:UInt8),(110:UInt8),(100:UInt8),(97:UInt8),(114:UInt8),(105:UInt8),(101:UInt8),(115:UInt8),(32:UInt8)]++r2)]),())) .d) .d) .d) .d) .d) .d) .d) (.i (decide ((out_.length+[ByteArray.mk #[(99:UInt8),(111:UInt8),(108:UInt8),(117:UInt8),(109:UInt8),(110:UInt8),(32:UInt8)]++r7++ByteArray.mk #[(58:UInt8),(32:UInt8)]++r6++ByteArray.mk #[(32:UInt8),(100:UInt8),(105:UInt8),(115:UInt8),(116:UInt8),(105:UInt8),(110:UInt8),(99:UInt8),(116:UInt8)]].length)*16≤reach)) (.h ((),(),t25,t26,(IntKind.i64.wrap (t27+1)),()) (s,(out_++[ByteArray.mk #[(99:UInt8),(111:UInt8),(108:UInt8),(117:UInt8),(109:UInt8),(110:UInt8),(32:UInt8)]++r7++ByteArray.mk #[(58:UInt8),(32:UInt8)]++r6++ByteArray.mk #[(32:UInt8),(100:UInt8),(105:UInt8),(115:UInt8),(116:UInt8),(105:UInt8),(110:UInt8),(99:UInt8),(116:UInt8)]]),())) .d)) .d) .d) .d) .d) .d) (.k out_)
def zjk (x:ttTstatisticsFormat3) (y:ttTstatisticsFormat4):Wy ttTstatisticsFormat3 ttTstatisticsFormat4 (List ByteArray):=zmx x.2.2.1 x.2.2.2.1 x.2.2.2.2.1 y.1 y.2.1
def zmt (n:Nat) (t25:List ColumnStats) (t26:Int) (t27:Int) (s:Stats) (out_:List ByteArray):Bool×List ByteArray:=zP (zjk) default n ((),(),t25,t26,t27,()) (s,out_,())
def zqZ (r:List ByteArray):LTree ty:=.done (.exit 0) [.own 312] [.arr 9 r false]
def zrN:LL ty ttTstatisticsFormat3:=za (zbW 312 0) (za (lOwn 313) (za (lSl 43) (za (lInt .i64) (za (lInt .i64) zD))))
def zrC:BL ty ttTstatisticsFormat4:=bBox (zdP (fun x=>(⟨x.1,x.2.1,x.2.2.1⟩:Stats)) (fun x=>(x.Table,x.Rows,x.Columns,())) (fun _=>rfl) (za (lInt .i64) (za (lInt .i64) (za (lSl 43) zD)))) false (bArr 9 false (bNil))
def zpN (x:ttTstatisticsFormat0) (y:ttTstatisticsFormat1):Nat:=(x.2.2.2.1.size+x.2.2.2.2.2.1.length+Int.toNat x.2.2.2.2.2.2.1+Int.toNat x.2.2.2.2.2.2.2.1+x.2.2.2.2.2.2.2.2.1.length+Int.toNat x.2.2.2.2.2.2.2.2.2.1+Int.toNat x.2.2.2.2.2.2.2.2.2.2.1+y.1.Columns.length+y.2.1.length+y.2.2.1.Bounds.length+y.2.2.2.1.length+1000)
def zqV (x:ttTstatisticsFormat3) (y:ttTstatisticsFormat4):Nat:=(x.2.2.1.length+Int.toNat x.2.2.2.1+Int.toNat x.2.2.2.2.1+y.1.Columns.length+y.2.1.length+1000)
def zmF:Cx ty:=mkCx base0 78 [(15,zg3),(52,strconv_Itoa_spec),(53,zuP),(54,strings_Join_spec)] [] [(5,[(1,.keep),(3,.keep),(25,.keep),(26,.keep),(27,.keep)]),(11,[(1,.keep),(3,.keep),(5,.keep),(6,.keep),(7,.own 9),(25,.keep),(26,.keep),(27,.keep),(45,.keep),(46,.keep),(47,.keep)])] [(5,1,[(3,.keep)]),(11,3,[(1,.keep),(3,.keep),(5,.keep),(6,.keep),(7,.keep),(25,.keep),(26,.keep),(27,.keep)])] [(11,spW zq6 zqB (ziI) default zpT zpN),(5,spW zrN zrC (zjk) default zqZ zqV)] []
theorem zxY:zW zmF (lp (body Tryz.f24) 1):=zK (id:=11) (V:=zq6) (B:=zqB) (W:=ziI) (z:=default) (tr:=zpT) (m:=zpN)
theorem zzd:zW zmF (lp (body Tryz.f24) 0):=zK (id:=5) (V:=zrN) (B:=zrC) (W:=zjk) (z:=default) (tr:=zqZ) (m:=zqV)
def zm9 (s:Stats):Wy0 (List ByteArray):=.bn (zgZ s) fun r17=>.i (!r17) (.k []) (.bn (strconv_Itoa s.Table) fun r16=>.i (decide ((ByteArray.mk #[(116:UInt8),(97:UInt8),(98:UInt8),(108:UInt8),(101:UInt8),(32:UInt8),(116:UInt8)]).size+r16.size≤9223372036854775807)) (.i (decide ((ByteArray.mk #[(116:UInt8),(97:UInt8),(98:UInt8),(108:UInt8),(101:UInt8),(32:UInt8),(116:UInt8)]++r16).size+(ByteArray.mk #[(58:UInt8),(32:UInt8)]).size≤9223372036854775807)) (.bn (strconv_Itoa s.Rows) fun r15=>.i (decide ((ByteArray.mk #[(116:UInt8),(97:UInt8),(98:UInt8),(108:UInt8),(101:UInt8),(32:UInt8),(116:UInt8)]++r16++ByteArray.mk #[(58:UInt8),(32:UInt8)]).size+r15.size≤9223372036854775807)) (.i (decide ((ByteArray.mk #[(116:UInt8),(97:UInt8),(98:UInt8),(108:UInt8),(101:UInt8),(32:UInt8),(116:UInt8)]++r16++ByteArray.mk #[(58:UInt8),(32:UInt8)]++r15).size+(ByteArray.mk #[(32:UInt8),(114:UInt8),(111:UInt8),(119:UInt8),(115:UInt8)]).size≤9223372036854775807)) (.bn (zmt (s.Columns.length+(Int.ofNat s.Columns.length).toNat +Int.toNat 0+s.Columns.length+[ByteArray.mk #[(116:UInt8),(97:UInt8),(98:UInt8),(108:UInt8),(101:UInt8),(32:UInt8),(116:UInt8)]++r16++ByteArray.mk #[(58:UInt8),(32:UInt8)]++r15++ByteArray.mk #[(32:UInt8),(114:UInt8),(111:UInt8),(119:UInt8),(115:UInt8)]].length+1000) s.Columns (Int.ofNat s.Columns.length) 0 s [ByteArray.mk #[(116:UInt8),(97:UInt8),(98:UInt8),(108:UInt8),(101:UInt8),(32:UInt8),(116:UInt8)]++r16++ByteArray.mk #[(58:UInt8),(32:UInt8)]++r15++ByteArray.mk #[(32:UInt8),(114:UInt8),(111:UInt8),(119:UInt8),(115:UInt8)]]) fun r14=>.k r14) .d) .d) .d) .d)
def zi4 (s:Stats):Bool×List ByteArray:=(zm9 s).fin default
def zqT (r:List ByteArray):ARes ty:=⟨[.own 9 r],[]⟩
def zsq:AL base0 (Stats×Unit):=zf (zg (vAgg 30)) aNil
def zkF:Ab.Spec ty:=zk zsq fun x=>((zi4 x.1).1,zqT (zi4 x.1).2)
theorem zoT:Sound Tryz.prog base0 24 zkF:=
 zr (cx':=zmF) zF zs4 zB (zu ⟨zib.nodr,zBa.nodr,zAY,zAT,trivial⟩) Tryz.call24 Tryz.func24 (c:=body Tryz.f24) (by kernel_rfl) (zh (l:=[lp (body Tryz.f24) 0,lp (body Tryz.f24) 1]) (by kernel_rfl) ⟨zzd,zxY,trivial⟩) (sg:=⟨[.own 9],[]⟩) (A:=zsq) (res:=zqT) (W:=fun x=>zm9 x.1) (z:=default)
def zpM (r:Int):ARes ty:=⟨[.pure (.lit (.int .i64 r))],[]⟩
def zse:AL base (List Term×List Term×Unit):=zf (zg (vSl 152)) (zf (zg (vSl 152)) aNil)
def zcu (F:List Term→List Term→Bool×Int):Ab.Spec ty:=zk zse fun x=>((F x.1 x.2.1).1,zpM (F x.1 x.2.1).2)
def znA (r:Int):ARes ty:=⟨[.pure (.lit (.int .i64 r))],[]⟩
def zoO:AL base (Term×Term×Unit):=zf (zg (vAgg 152)) (zf (zg (vAgg 152)) aNil)
def zd1 (F:Term→Term→Bool×Int):Ab.Spec ty:=zk zoO fun x=>((F x.1 x.2.1).1,znA (F x.1 x.2.1).2)
def zl3 (r:Int):ARes ty:=⟨[.pure (.lit (.int .i64 r))],[]⟩
def zng:AL base (Term×Term×Unit):=zf (zg (vAgg 152)) (zf (zg (vAgg 152)) aNil)
def zeL (F:Term→Term→Bool×Int):Ab.Spec ty:=zk zng fun x=>((F x.1 x.2.1).1,zl3 (F x.1 x.2.1).2)
def zkS (r:Int):ARes ty:=⟨[.pure (.lit (.int .i64 r))],[]⟩
def zlO:AL base (Factor×Factor×Unit):=zf (zg (vAgg 160)) (zf (zg (vAgg 160)) aNil)
def zcL (F:Factor→Factor→Bool×Int):Ab.Spec ty:=zk zlO fun x=>((F x.1 x.2.1).1,zkS (F x.1 x.2.1).2)
def zlT (r:Int):ARes ty:=⟨[.pure (.lit (.int .i64 r))],[]⟩
def znw:AL base (Atom×Atom×Unit):=zf (zg (vAgg 158)) (zf (zg (vAgg 158)) aNil)
def zeH (F:Atom→Atom→Bool×Int):Ab.Spec ty:=zk znw fun x=>((F x.1 x.2.1).1,zlT (F x.1 x.2.1).2)
def zlY (r:Int):ARes ty:=⟨[.pure (.lit (.int .i64 r))],[]⟩
def znM:AL base (Weighted×Weighted×Unit):=zf (zg (vAgg 182)) (zf (zg (vAgg 182)) aNil)
def zcv (F:Weighted→Weighted→Bool×Int):Ab.Spec ty:=zk znM fun x=>((F x.1 x.2.1).1,zlY (F x.1 x.2.1).2)
def zci (r:Int):ARes ty:=⟨[.pure (.lit (.int .i64 r))],[]⟩
def zcr:AL base (List Term×List Term×Unit×Unit):=zf (zg (vSl 152)) (zf (zg (vSl 152)) (zf (zg (vFn 198 vNil)) aNil))
def zY (F:List Term→List Term→Bool×Int):Ab.Spec ty:=zk zcr fun x=>((F x.1 x.2.1).1,zci (F x.1 x.2.1).2)
def zct (r:Int):ARes ty:=⟨[.pure (.lit (.int .i64 r))],[]⟩
def zcz:AL base (List Factor×List Factor×Unit×Unit):=zf (zg (vSl 160)) (zf (zg (vSl 160)) (zf (zg (vFn 143 vNil)) aNil))
def z8 (F:List Factor→List Factor→Bool×Int):Ab.Spec ty:=zk zcz fun x=>((F x.1 x.2.1).1,zct (F x.1 x.2.1).2)
def zbD (r:Int):ARes ty:=⟨[.pure (.lit (.int .i64 r))],[]⟩
def zbG:AL base (List (List Term)×List (List Term)×Unit×Unit):=zf (zg (vSl 36)) (zf (zg (vSl 36)) (zf (zg (vFn 145 vNil)) aNil))
def zN (F:List (List Term)→List (List Term)→Bool×Int):Ab.Spec ty:=zk zbG fun x=>((F x.1 x.2.1).1,zbD (F x.1 x.2.1).2)
def zbT (r:Int):ARes ty:=⟨[.pure (.lit (.int .i64 r))],[]⟩
def zb3:AL base (List Weighted×List Weighted×Unit×Unit):=zf (zg (vSl 182)) (zf (zg (vSl 182)) (zf (zg (vFn 147 vNil)) aNil))
def zU (F:List Weighted→List Weighted→Bool×Int):Ab.Spec ty:=zk zb3 fun x=>((F x.1 x.2.1).1,zbT (F x.1 x.2.1).2)
def zwG (zx:List Term→List Term→Bool×Int) (zy:Term→Term→Bool×Int):Cx ty:=mkCx base 8 [(197,(zY zx)),(198,(zd1 zy))] [] [] [] [] []
def zpu (zx:List Term→List Term→Bool×Int) (zy:Term→Term→Bool×Int) (a:List Term) (b:List Term):Wy0 (Int):=.bn (zx a b) fun r0=>.k r0
def zr7 (zx:List Term→List Term→Bool×Int) (zy:Term→Term→Bool×Int) (a:List Term) (b:List Term):Bool×Int:=(zpu zx zy a b).fin default
theorem zuq (zx:List Term→List Term→Bool×Int) (zy:Term→Term→Bool×Int) (zfP:Sound Tryz.prog base 197 (zY zx)) (zjh:Sound Tryz.prog base 198 (zd1 zy)):Sound Tryz.prog base 145 (zcu (zr7 zx zy)):=
 zr (cx':=(zwG zx zy)) zF zm zB (zu ⟨zfP,zjh,trivial⟩) Tryz.call145 Tryz.func145 (c:=body Tryz.f145) (by kernel_rfl) (zh (l:=[]) (by kernel_rfl) trivial) (sg:=⟨[.pure],[]⟩) (A:=zse) (res:=zpM) (W:=fun x=>zpu zx zy x.1 x.2.1) (z:=default)
def zuo (zbn:Term→Term→Bool×Int):Cx ty:=mkCx base 15 [(108,(zeL zbn)),(121,ziC),(123,zkC)] [] [] [] [] []
def znP (zbn:Term→Term→Bool×Int) (x_:Term) (y_:Term):Wy0 (Int):=.bn (zbn x_ y_) fun r2=>.bn (zhv x_.Coeff y_.Coeff) fun r1=>.bn (zji [r2,r1]) fun r0=>.k r0
def zoX (zbn:Term→Term→Bool×Int) (x_:Term) (y_:Term):Bool×Int:=(znP zbn x_ y_).fin default
theorem zsn (zbn:Term→Term→Bool×Int) (ztZ:Sound Tryz.prog base 108 (zeL zbn)):Sound Tryz.prog base 198 (zd1 (zoX zbn)):=
 zr (cx':=(zuo zbn)) zF zm zB (zu ⟨ztZ,zjO,zoW,trivial⟩) Tryz.call198 Tryz.func198 (c:=body Tryz.f198) (by kernel_rfl) (zh (l:=[]) (by kernel_rfl) trivial) (sg:=⟨[.pure],[]⟩) (A:=zoO) (res:=znA) (W:=fun x=>znP zbn x.1 x.2.1) (z:=default)
def zta (zl:List (List Term)→List (List Term)→Bool×Int) (zo:List Term→List Term→Bool×Int) (zp:List Weighted→List Weighted→Bool×Int) (zt:Weighted→Weighted→Bool×Int):Cx ty:=mkCx base 51 [(79,zb9),(121,ziC),(122,zjd),(144,(zN zl)),(145,(zcu zo)),(146,(zU zp)),(147,(zcv zt))] [] [] [] [] []
def zlZ (zl:List (List Term)→List (List Term)→Bool×Int) (zo:List Term→List Term→Bool×Int) (zp:List Weighted→List Weighted→Bool×Int) (zt:Weighted→Weighted→Bool×Int) (a:Atom) (b:Atom):Wy0 (Int):=.bn (zc5 a.Kind b.Kind) fun r8=>.bn (zc5 a.Row.Table b.Row.Table) fun r7=>.bn (zc5 a.Row.Seq b.Row.Seq) fun r6=>.bn (zl a.Args b.Args) fun r5=>.bn (zc5 a.Func b.Func) fun r4=>.bn (zp a.Items b.Items) fun r3=>.bn (zc5 a.Op b.Op) fun r2=>.bn (zbF a.Bound b.Bound) fun r1=>.bn (zji [r8,r7,r6,r5,r4,r3,r2,r1]) fun r0=>.k r0
def znQ (zl:List (List Term)→List (List Term)→Bool×Int) (zo:List Term→List Term→Bool×Int) (zp:List Weighted→List Weighted→Bool×Int) (zt:Weighted→Weighted→Bool×Int) (a:Atom) (b:Atom):Bool×Int:=(zlZ zl zo zp zt a b).fin default
theorem zrg (zl:List (List Term)→List (List Term)→Bool×Int) (zo:List Term→List Term→Bool×Int) (zp:List Weighted→List Weighted→Bool×Int) (zt:Weighted→Weighted→Bool×Int) (zdx:Sound Tryz.prog base 144 (zN zl)) (zgF:Sound Tryz.prog base 145 (zcu zo)) (zeD:Sound Tryz.prog base 146 (zU zp)) (zis:Sound Tryz.prog base 147 (zcv zt)):Sound Tryz.prog base 110 (zeH (znQ zl zo zp zt)):=
 zr (cx':=(zta zl zo zp zt)) zF zm zB (zu ⟨zcj,zjO,zlg,zdx,zgF,zeD,zis,trivial⟩) Tryz.call110 Tryz.func110 (c:=body Tryz.f110) (by kernel_rfl) (zh (l:=[]) (by kernel_rfl) trivial) (sg:=⟨[.pure],[]⟩) (A:=znw) (res:=zlT) (W:=fun x=>zlZ zl zo zp zt x.1 x.2.1) (z:=default)
def zrv (zbo:Atom→Atom→Bool×Int):Cx ty:=mkCx base 17 [(110,(zeH zbo)),(121,ziC),(122,zjd)] [] [] [] [] []
def zkQ (zbo:Atom→Atom→Bool×Int) (a:Factor) (b:Factor):Wy0 (Int):=.bn (zbo (Atom.mk a.Atom.Kind a.Atom.Row a.Atom.Args a.Atom.Func a.Atom.Items a.Atom.Op a.Atom.Bound) (Atom.mk b.Atom.Kind b.Atom.Row b.Atom.Args b.Atom.Func b.Atom.Items b.Atom.Op b.Atom.Bound)) fun r2=>.bn (zc5 a.Exp b.Exp) fun r1=>.bn (zji [r2,r1]) fun r0=>.k r0
def zl0 (zbo:Atom→Atom→Bool×Int) (a:Factor) (b:Factor):Bool×Int:=(zkQ zbo a b).fin default
theorem zpi (zbo:Atom→Atom→Bool×Int) (zue:Sound Tryz.prog base 110 (zeH zbo)):Sound Tryz.prog base 143 (zcL (zl0 zbo)):=
 zr (cx':=(zrv zbo)) zF zm zB (zu ⟨zue,zjO,zlg,trivial⟩) Tryz.call143 Tryz.func143 (c:=body Tryz.f143) (by kernel_rfl) (zh (l:=[]) (by kernel_rfl) trivial) (sg:=⟨[.pure],[]⟩) (A:=zlO) (res:=zkS) (W:=fun x=>zkQ zbo x.1 x.2.1) (z:=default)
def ztq (zo:List Term→List Term→Bool×Int):Cx ty:=mkCx base 17 [(79,zb9),(121,ziC),(145,(zcu zo))] [] [] [] [] []
def zl5 (zo:List Term→List Term→Bool×Int) (a:Weighted) (b:Weighted):Wy0 (Int):=.bn (zbF a.Value b.Value) fun r2=>.bn (zo a.Ann b.Ann) fun r1=>.bn (zji [r2,r1]) fun r0=>.k r0
def znn (zo:List Term→List Term→Bool×Int) (a:Weighted) (b:Weighted):Bool×Int:=(zl5 zo a b).fin default
theorem zra (zo:List Term→List Term→Bool×Int) (zgF:Sound Tryz.prog base 145 (zcu zo)):Sound Tryz.prog base 147 (zcv (znn zo)):=
 zr (cx':=(ztq zo)) zF zm zB (zu ⟨zcj,zjO,zgF,trivial⟩) Tryz.call147 Tryz.func147 (c:=body Tryz.f147) (by kernel_rfl) (zh (l:=[]) (by kernel_rfl) trivial) (sg:=⟨[.pure],[]⟩) (A:=znM) (res:=zlY) (W:=fun x=>zl5 zo x.1 x.2.1) (z:=default)
def zs3 (zA:List Factor→List Factor→Bool×Int) (zn:Factor→Factor→Bool×Int):Cx ty:=mkCx base 10 [(142,(z8 zA)),(143,(zcL zn))] [] [] [] [] []
def zlU (zA:List Factor→List Factor→Bool×Int) (zn:Factor→Factor→Bool×Int) (a:Term) (b:Term):Wy0 (Int):=.bn (zA a.Factors b.Factors) fun r0=>.k r0
def znB (zA:List Factor→List Factor→Bool×Int) (zn:Factor→Factor→Bool×Int) (a:Term) (b:Term):Bool×Int:=(zlU zA zn a b).fin default
theorem zrd (zA:List Factor→List Factor→Bool×Int) (zn:Factor→Factor→Bool×Int) (zf8:Sound Tryz.prog base 142 (z8 zA)) (zhN:Sound Tryz.prog base 143 (zcL zn)):Sound Tryz.prog base 108 (zeL (znB zA zn)):=
 zr (cx':=(zs3 zA zn)) zF zm zB (zu ⟨zf8,zhN,trivial⟩) Tryz.call108 Tryz.func108 (c:=body Tryz.f108) (by kernel_rfl) (zh (l:=[]) (by kernel_rfl) trivial) (sg:=⟨[.pure],[]⟩) (A:=zng) (res:=zl3) (W:=fun x=>zlU zA zn x.1 x.2.1) (z:=default)
abbrev ttTslicesCompareFuncLapiAnnotationLapiAnnotationapiAnnotationapiAnnotation0:=List (List Term)×List (List Term)×Unit×List (List Term)×Int×Int×Unit
abbrev ttTslicesCompareFuncLapiAnnotationLapiAnnotationapiAnnotationapiAnnotation1:=Int⊕(List (List Term)×List (List Term))
def zdp (zo:List Term→List Term→Bool×Int) (s1:List (List Term)) (s2:List (List Term)) (t11:List (List Term)) (t12:Int) (t13:Int):Wy ttTslicesCompareFuncLapiAnnotationLapiAnnotationapiAnnotationapiAnnotation0 (Unit) ttTslicesCompareFuncLapiAnnotationLapiAnnotationapiAnnotationapiAnnotation1:=.i (decide (t13<t12)) (.i (decide (0≤t13)&&decide (t13<Int.ofNat t11.length)) (.i (decide (t13≥Int.ofNat s2.length)) (.k (.inl 1)) (.i (decide (0≤t13)&&decide (t13<Int.ofNat s2.length)) (.bn (zo (t11.getD t13.toNat default) (s2.getD t13.toNat default)) fun r0=>.i (r0 != 0) (.k (.inl (r0))) (.h (s1,s2,(),t11,t12,(IntKind.i64.wrap (t13+1)),()) ())) .d)) .d) (.k (.inr (s1,s2)))
def zZ (zo:List Term→List Term→Bool×Int) (x:ttTslicesCompareFuncLapiAnnotationLapiAnnotationapiAnnotationapiAnnotation0) (y:Unit):Wy ttTslicesCompareFuncLapiAnnotationLapiAnnotationapiAnnotationapiAnnotation0 (Unit) ttTslicesCompareFuncLapiAnnotationLapiAnnotationapiAnnotationapiAnnotation1:=zdp zo x.1 x.2.1 x.2.2.2.1 x.2.2.2.2.1 x.2.2.2.2.2.1
def zdo (zo:List Term→List Term→Bool×Int) (n:Nat) (s1:List (List Term)) (s2:List (List Term)) (t11:List (List Term)) (t12:Int) (t13:Int):Bool×ttTslicesCompareFuncLapiAnnotationLapiAnnotationapiAnnotationapiAnnotation1:=zP (zZ zo) (.inl default) n (s1,s2,(),t11,t12,t13,()) ()
def zbt (r:ttTslicesCompareFuncLapiAnnotationLapiAnnotationapiAnnotationapiAnnotation1):LTree ty:=.ite (isL r) (.done .ret [.lit (.int .i64 (getL r))] []) (.done (.exit 0) [.sl 36 (getR r).1,.sl 36 (getR r).2] [])
def zby:LL ty ttTslicesCompareFuncLapiAnnotationLapiAnnotationapiAnnotationapiAnnotation0:=za (lSl 36) (za (lSl 36) (za (lFn 145 (zD)) (za (lSl 36) (za (lInt .i64) (za (lInt .i64) zD)))))
def zbA:BL ty (Unit):=bNil
def zbu (x:ttTslicesCompareFuncLapiAnnotationLapiAnnotationapiAnnotationapiAnnotation0) (y:Unit):Nat:=(x.1.length+x.2.1.length+x.2.2.2.1.length+Int.toNat x.2.2.2.2.1+Int.toNat x.2.2.2.2.2.1+1000)
def zbx (zo:List Term→List Term→Bool×Int):Cx ty:=mkCx base 39 [(145,(zcu zo))] [] [(2,[(0,.keep),(1,.keep),(2,.keep),(11,.keep),(12,.keep),(13,.keep)])] [(2,1,[(0,.keep),(1,.keep)]),(2,0,[(6,.keep)])] [(2,spW zby zbA (zZ zo) (.inl default) zbt zbu)] []
theorem zdd (zo:List Term→List Term→Bool×Int):zW (zbx zo) (lp (body Tryz.f144) 0):=zK (id:=2) (V:=zby) (B:=zbA) (W:=zZ zo) (z:=.inl default) (tr:=zbt) (m:=zbu)
def zbC (zo:List Term→List Term→Bool×Int) (s1:List (List Term)) (s2:List (List Term)):Wy0 (Int):=.bn (zdo zo (s1.length+s2.length+s1.length+(Int.ofNat s1.length).toNat +Int.toNat 0+1000) s1 s2 s1 (Int.ofNat s1.length) 0) fun r2=>.i (isL r2) (.k (getL r2)) (.i (decide (Int.ofNat (getR r2).1.length<Int.ofNat (getR r2).2.length)) (.k (-1:Int)) (.k 0))
def zbH (zo:List Term→List Term→Bool×Int) (s1:List (List Term)) (s2:List (List Term)):Bool×Int:=(zbC zo s1 s2).fin default
theorem zc8 (zo:List Term→List Term→Bool×Int) (zgF:Sound Tryz.prog base 145 (zcu zo)):Sound Tryz.prog base 144 (zN (zbH zo)):=
 zr (cx':=(zbx zo)) zF zm zB (zu ⟨zgF,trivial⟩) Tryz.call144 Tryz.func144 (c:=body Tryz.f144) (by kernel_rfl) (zh (l:=[lp (body Tryz.f144) 0]) (by kernel_rfl) ⟨zdd zo,trivial⟩) (sg:=⟨[.pure],[]⟩) (A:=zbG) (res:=zbD) (W:=fun x=>zbC zo x.1 x.2.1) (z:=default)
abbrev ttTslicesCompareFuncLapiFactorLapiFactorapiFactorapiFactor0:=List Factor×List Factor×Unit×List Factor×Int×Int×Unit
abbrev ttTslicesCompareFuncLapiFactorLapiFactorapiFactorapiFactor1:=Int⊕(List Factor×List Factor)
def zfY (zn:Factor→Factor→Bool×Int) (s1:List Factor) (s2:List Factor) (t11:List Factor) (t12:Int) (t13:Int):Wy ttTslicesCompareFuncLapiFactorLapiFactorapiFactorapiFactor0 (Unit) ttTslicesCompareFuncLapiFactorLapiFactorapiFactorapiFactor1:=.i (decide (t13<t12)) (.i (decide (0≤t13)&&decide (t13<Int.ofNat t11.length)) (.i (decide (t13≥Int.ofNat s2.length)) (.k (.inl 1)) (.i (decide (0≤t13)&&decide (t13<Int.ofNat s2.length)) (.bn (zn (FactorOf.mk (Atom.mk (t11.getD t13.toNat default).Atom.Kind (t11.getD t13.toNat default).Atom.Row (t11.getD t13.toNat default).Atom.Args (t11.getD t13.toNat default).Atom.Func (t11.getD t13.toNat default).Atom.Items (t11.getD t13.toNat default).Atom.Op (t11.getD t13.toNat default).Atom.Bound) (t11.getD t13.toNat default).Exp) (FactorOf.mk (Atom.mk (s2.getD t13.toNat default).Atom.Kind (s2.getD t13.toNat default).Atom.Row (s2.getD t13.toNat default).Atom.Args (s2.getD t13.toNat default).Atom.Func (s2.getD t13.toNat default).Atom.Items (s2.getD t13.toNat default).Atom.Op (s2.getD t13.toNat default).Atom.Bound) (s2.getD t13.toNat default).Exp)) fun r0=>.i (r0 != 0) (.k (.inl (r0))) (.h (s1,s2,(),t11,t12,(IntKind.i64.wrap (t13+1)),()) ())) .d)) .d) (.k (.inr (s1,s2)))
def zbk (zn:Factor→Factor→Bool×Int) (x:ttTslicesCompareFuncLapiFactorLapiFactorapiFactorapiFactor0) (y:Unit):Wy ttTslicesCompareFuncLapiFactorLapiFactorapiFactorapiFactor0 (Unit) ttTslicesCompareFuncLapiFactorLapiFactorapiFactorapiFactor1:=zfY zn x.1 x.2.1 x.2.2.2.1 x.2.2.2.2.1 x.2.2.2.2.2.1
def zfU (zn:Factor→Factor→Bool×Int) (n:Nat) (s1:List Factor) (s2:List Factor) (t11:List Factor) (t12:Int) (t13:Int):Bool×ttTslicesCompareFuncLapiFactorLapiFactorapiFactorapiFactor1:=zP (zbk zn) (.inl default) n (s1,s2,(),t11,t12,t13,()) ()
def zcg (r:ttTslicesCompareFuncLapiFactorLapiFactorapiFactorapiFactor1):LTree ty:=.ite (isL r) (.done .ret [.lit (.int .i64 (getL r))] []) (.done (.exit 0) [.sl 160 (getR r).1,.sl 160 (getR r).2] [])
def zcm:LL ty ttTslicesCompareFuncLapiFactorLapiFactorapiFactorapiFactor0:=za (lSl 160) (za (lSl 160) (za (lFn 143 (zD)) (za (lSl 160) (za (lInt .i64) (za (lInt .i64) zD)))))
def zck:BL ty (Unit):=bNil
def zcf (x:ttTslicesCompareFuncLapiFactorLapiFactorapiFactorapiFactor0) (y:Unit):Nat:=(x.1.length+x.2.1.length+x.2.2.2.1.length+Int.toNat x.2.2.2.2.1+Int.toNat x.2.2.2.2.2.1+1000)
def zcl (zn:Factor→Factor→Bool×Int):Cx ty:=mkCx base 39 [(143,(zcL zn))] [] [(2,[(0,.keep),(1,.keep),(2,.keep),(11,.keep),(12,.keep),(13,.keep)])] [(2,1,[(0,.keep),(1,.keep)]),(2,0,[(6,.keep)])] [(2,spW zcm zck (zbk zn) (.inl default) zcg zcf)] []
theorem zfM (zn:Factor→Factor→Bool×Int):zW (zcl zn) (lp (body Tryz.f142) 0):=zK (id:=2) (V:=zcm) (B:=zck) (W:=zbk zn) (z:=.inl default) (tr:=zcg) (m:=zcf)
def zcp (zn:Factor→Factor→Bool×Int) (s1:List Factor) (s2:List Factor):Wy0 (Int):=.bn (zfU zn (s1.length+s2.length+s1.length+(Int.ofNat s1.length).toNat +Int.toNat 0+1000) s1 s2 s1 (Int.ofNat s1.length) 0) fun r2=>.i (isL r2) (.k (getL r2)) (.i (decide (Int.ofNat (getR r2).1.length<Int.ofNat (getR r2).2.length)) (.k (-1:Int)) (.k 0))
def zcx (zn:Factor→Factor→Bool×Int) (s1:List Factor) (s2:List Factor):Bool×Int:=(zcp zn s1 s2).fin default
theorem zfh (zn:Factor→Factor→Bool×Int) (zhN:Sound Tryz.prog base 143 (zcL zn)):Sound Tryz.prog base 142 (z8 (zcx zn)):=
 zr (cx':=(zcl zn)) zF zm zB (zu ⟨zhN,trivial⟩) Tryz.call142 Tryz.func142 (c:=body Tryz.f142) (by kernel_rfl) (zh (l:=[lp (body Tryz.f142) 0]) (by kernel_rfl) ⟨zfM zn,trivial⟩) (sg:=⟨[.pure],[]⟩) (A:=zcz) (res:=zct) (W:=fun x=>zcp zn x.1 x.2.1) (z:=default)
abbrev ttTslicesCompareFuncLapiWeightedLapiWeightedapiWeightedapiWeighted0:=List Weighted×List Weighted×Unit×List Weighted×Int×Int×Unit
abbrev ttTslicesCompareFuncLapiWeightedLapiWeightedapiWeightedapiWeighted1:=Int⊕(List Weighted×List Weighted)
def zek (zt:Weighted→Weighted→Bool×Int) (s1:List Weighted) (s2:List Weighted) (t11:List Weighted) (t12:Int) (t13:Int):Wy ttTslicesCompareFuncLapiWeightedLapiWeightedapiWeightedapiWeighted0 (Unit) ttTslicesCompareFuncLapiWeightedLapiWeightedapiWeightedapiWeighted1:=.i (decide (t13<t12)) (.i (decide (0≤t13)&&decide (t13<Int.ofNat t11.length)) (.i (decide (t13≥Int.ofNat s2.length)) (.k (.inl 1)) (.i (decide (0≤t13)&&decide (t13<Int.ofNat s2.length)) (.bn (zt (t11.getD t13.toNat default) (s2.getD t13.toNat default)) fun r0=>.i (r0 != 0) (.k (.inl (r0))) (.h (s1,s2,(),t11,t12,(IntKind.i64.wrap (t13+1)),()) ())) .d)) .d) (.k (.inr (s1,s2)))
def zbb (zt:Weighted→Weighted→Bool×Int) (x:ttTslicesCompareFuncLapiWeightedLapiWeightedapiWeightedapiWeighted0) (y:Unit):Wy ttTslicesCompareFuncLapiWeightedLapiWeightedapiWeightedapiWeighted0 (Unit) ttTslicesCompareFuncLapiWeightedLapiWeightedapiWeightedapiWeighted1:=zek zt x.1 x.2.1 x.2.2.2.1 x.2.2.2.2.1 x.2.2.2.2.2.1
def zel (zt:Weighted→Weighted→Bool×Int) (n:Nat) (s1:List Weighted) (s2:List Weighted) (t11:List Weighted) (t12:Int) (t13:Int):Bool×ttTslicesCompareFuncLapiWeightedLapiWeightedapiWeightedapiWeighted1:=zP (zbb zt) (.inl default) n (s1,s2,(),t11,t12,t13,()) ()
def zbN (r:ttTslicesCompareFuncLapiWeightedLapiWeightedapiWeightedapiWeighted1):LTree ty:=.ite (isL r) (.done .ret [.lit (.int .i64 (getL r))] []) (.done (.exit 0) [.sl 182 (getR r).1,.sl 182 (getR r).2] [])
def zbP:LL ty ttTslicesCompareFuncLapiWeightedLapiWeightedapiWeightedapiWeighted0:=za (lSl 182) (za (lSl 182) (za (lFn 147 (zD)) (za (lSl 182) (za (lInt .i64) (za (lInt .i64) zD)))))
def zbQ:BL ty (Unit):=bNil
def zbM (x:ttTslicesCompareFuncLapiWeightedLapiWeightedapiWeightedapiWeighted0) (y:Unit):Nat:=(x.1.length+x.2.1.length+x.2.2.2.1.length+Int.toNat x.2.2.2.2.1+Int.toNat x.2.2.2.2.2.1+1000)
def zbR (zt:Weighted→Weighted→Bool×Int):Cx ty:=mkCx base 39 [(147,(zcv zt))] [] [(2,[(0,.keep),(1,.keep),(2,.keep),(11,.keep),(12,.keep),(13,.keep)])] [(2,1,[(0,.keep),(1,.keep)]),(2,0,[(6,.keep)])] [(2,spW zbP zbQ (zbb zt) (.inl default) zbN zbM)] []
theorem zej (zt:Weighted→Weighted→Bool×Int):zW (zbR zt) (lp (body Tryz.f146) 0):=zK (id:=2) (V:=zbP) (B:=zbQ) (W:=zbb zt) (z:=.inl default) (tr:=zbN) (m:=zbM)
def zbU (zt:Weighted→Weighted→Bool×Int) (s1:List Weighted) (s2:List Weighted):Wy0 (Int):=.bn (zel zt (s1.length+s2.length+s1.length+(Int.ofNat s1.length).toNat +Int.toNat 0+1000) s1 s2 s1 (Int.ofNat s1.length) 0) fun r2=>.i (isL r2) (.k (getL r2)) (.i (decide (Int.ofNat (getR r2).1.length<Int.ofNat (getR r2).2.length)) (.k (-1:Int)) (.k 0))
def zb2 (zt:Weighted→Weighted→Bool×Int) (s1:List Weighted) (s2:List Weighted):Bool×Int:=(zbU zt s1 s2).fin default
theorem zd4 (zt:Weighted→Weighted→Bool×Int) (zis:Sound Tryz.prog base 147 (zcv zt)):Sound Tryz.prog base 146 (zU (zb2 zt)):=
 zr (cx':=(zbR zt)) zF zm zB (zu ⟨zis,trivial⟩) Tryz.call146 Tryz.func146 (c:=body Tryz.f146) (by kernel_rfl) (zh (l:=[lp (body Tryz.f146) 0]) (by kernel_rfl) ⟨zej zt,trivial⟩) (sg:=⟨[.pure],[]⟩) (A:=zb3) (res:=zbT) (W:=fun x=>zbU zt x.1 x.2.1) (z:=default)
abbrev ttTslicesCompareFuncapiAnnotationapiAnnotationapiTermapiTerm0:=List Term×List Term×Unit×List Term×Int×Int×Unit
abbrev ttTslicesCompareFuncapiAnnotationapiAnnotationapiTermapiTerm1:=Int⊕(List Term×List Term)
def zfu (zy:Term→Term→Bool×Int) (s1:List Term) (s2:List Term) (t11:List Term) (t12:Int) (t13:Int):Wy ttTslicesCompareFuncapiAnnotationapiAnnotationapiTermapiTerm0 (Unit) ttTslicesCompareFuncapiAnnotationapiAnnotationapiTermapiTerm1:=.i (decide (t13<t12)) (.i (decide (0≤t13)&&decide (t13<Int.ofNat t11.length)) (.i (decide (t13≥Int.ofNat s2.length)) (.k (.inl 1)) (.i (decide (0≤t13)&&decide (t13<Int.ofNat s2.length)) (.bn (zy (t11.getD t13.toNat default) (s2.getD t13.toNat default)) fun r0=>.i (r0 != 0) (.k (.inl (r0))) (.h (s1,s2,(),t11,t12,(IntKind.i64.wrap (t13+1)),()) ())) .d)) .d) (.k (.inr (s1,s2)))
def zbg (zy:Term→Term→Bool×Int) (x:ttTslicesCompareFuncapiAnnotationapiAnnotationapiTermapiTerm0) (y:Unit):Wy ttTslicesCompareFuncapiAnnotationapiAnnotationapiTermapiTerm0 (Unit) ttTslicesCompareFuncapiAnnotationapiAnnotationapiTermapiTerm1:=zfu zy x.1 x.2.1 x.2.2.2.1 x.2.2.2.2.1 x.2.2.2.2.2.1
def zft (zy:Term→Term→Bool×Int) (n:Nat) (s1:List Term) (s2:List Term) (t11:List Term) (t12:Int) (t13:Int):Bool×ttTslicesCompareFuncapiAnnotationapiAnnotationapiTermapiTerm1:=zP (zbg zy) (.inl default) n (s1,s2,(),t11,t12,t13,()) ()
def zca (r:ttTslicesCompareFuncapiAnnotationapiAnnotationapiTermapiTerm1):LTree ty:=.ite (isL r) (.done .ret [.lit (.int .i64 (getL r))] []) (.done (.exit 0) [.sl 152 (getR r).1,.sl 152 (getR r).2] [])
def zcd:LL ty ttTslicesCompareFuncapiAnnotationapiAnnotationapiTermapiTerm0:=za (lSl 152) (za (lSl 152) (za (lFn 198 (zD)) (za (lSl 152) (za (lInt .i64) (za (lInt .i64) zD)))))
def zcc:BL ty (Unit):=bNil
def zb8 (x:ttTslicesCompareFuncapiAnnotationapiAnnotationapiTermapiTerm0) (y:Unit):Nat:=(x.1.length+x.2.1.length+x.2.2.2.1.length+Int.toNat x.2.2.2.2.1+Int.toNat x.2.2.2.2.2.1+1000)
def zcb (zy:Term→Term→Bool×Int):Cx ty:=mkCx base 39 [(198,(zd1 zy))] [] [(2,[(0,.keep),(1,.keep),(2,.keep),(11,.keep),(12,.keep),(13,.keep)])] [(2,1,[(0,.keep),(1,.keep)]),(2,0,[(6,.keep)])] [(2,spW zcd zcc (zbg zy) (.inl default) zca zb8)] []
theorem zfr (zy:Term→Term→Bool×Int):zW (zcb zy) (lp (body Tryz.f197) 0):=zK (id:=2) (V:=zcd) (B:=zcc) (W:=zbg zy) (z:=.inl default) (tr:=zca) (m:=zb8)
def zch (zy:Term→Term→Bool×Int) (s1:List Term) (s2:List Term):Wy0 (Int):=.bn (zft zy (s1.length+s2.length+s1.length+(Int.ofNat s1.length).toNat +Int.toNat 0+1000) s1 s2 s1 (Int.ofNat s1.length) 0) fun r2=>.i (isL r2) (.k (getL r2)) (.i (decide (Int.ofNat (getR r2).1.length<Int.ofNat (getR r2).2.length)) (.k (-1:Int)) (.k 0))
def zco (zy:Term→Term→Bool×Int) (s1:List Term) (s2:List Term):Bool×Int:=(zch zy s1 s2).fin default
theorem zeZ (zy:Term→Term→Bool×Int) (zjh:Sound Tryz.prog base 198 (zd1 zy)):Sound Tryz.prog base 197 (zY (zco zy)):=
 zr (cx':=(zcb zy)) zF zm zB (zu ⟨zjh,trivial⟩) Tryz.call197 Tryz.func197 (c:=body Tryz.f197) (by kernel_rfl) (zh (l:=[lp (body Tryz.f197) 0]) (by kernel_rfl) ⟨zfr zy,trivial⟩) (sg:=⟨[.pure],[]⟩) (A:=zcr) (res:=zci) (W:=fun x=>zch zy x.1 x.2.1) (z:=default)
def zbf:Nat→(List Term→List Term→Bool×Int)×(Term→Term→Bool×Int)×(Term→Term→Bool×Int)×(Factor→Factor→Bool×Int)×(Atom→Atom→Bool×Int)×(Weighted→Weighted→Bool×Int)×(List Term→List Term→Bool×Int)×(List Factor→List Factor→Bool×Int)×(List (List Term)→List (List Term)→Bool×Int)×(List Weighted→List Weighted→Bool×Int)
 | 0=>(fun _ _=>(false,default),fun _ _=>(false,default),fun _ _=>(false,default),fun _ _=>(false,default),fun _ _=>(false,default),fun _ _=>(false,default),fun _ _=>(false,default),fun _ _=>(false,default),fun _ _=>(false,default),fun _ _=>(false,default))
 | n+1=>(zr7 ((zbf n).2.2.2.2.2.2.1) ((zbf n).2.1),zoX ((zbf n).2.2.1),znB ((zbf n).2.2.2.2.2.2.2.1) ((zbf n).2.2.2.1),zl0 ((zbf n).2.2.2.2.1),znQ ((zbf n).2.2.2.2.2.2.2.2.1) ((zbf n).1) ((zbf n).2.2.2.2.2.2.2.2.2) ((zbf n).2.2.2.2.2.1),znn ((zbf n).1),zco ((zbf n).2.1),zcx ((zbf n).2.2.2.1),zbH ((zbf n).1),zb2 ((zbf n).2.2.2.2.2.1))
def zrZ (n:Nat):List Term→List Term→Bool×Int:=(zbf n).1
def zwL (n:Nat):Term→Term→Bool×Int:=(zbf n).2.1
def znG (n:Nat):Term→Term→Bool×Int:=(zbf n).2.2.1
def ztX (n:Nat):Factor→Factor→Bool×Int:=(zbf n).2.2.2.1
def zni (n:Nat):Atom→Atom→Bool×Int:=(zbf n).2.2.2.2.1
def zny (n:Nat):Weighted→Weighted→Bool×Int:=(zbf n).2.2.2.2.2.1
def zf7 (n:Nat):List Term→List Term→Bool×Int:=(zbf n).2.2.2.2.2.2.1
def zgB (n:Nat):List Factor→List Factor→Bool×Int:=(zbf n).2.2.2.2.2.2.2.1
def zdQ (n:Nat):List (List Term)→List (List Term)→Bool×Int:=(zbf n).2.2.2.2.2.2.2.2.1
def zeY (n:Nat):List Weighted→List Weighted→Bool×Int:=(zbf n).2.2.2.2.2.2.2.2.2
theorem zmS:∀ n,Sound Tryz.prog base 145 (zcu (zrZ n))∧Sound Tryz.prog base 198 (zd1 (zwL n))∧Sound Tryz.prog base 108 (zeL (znG n))∧Sound Tryz.prog base 143 (zcL (ztX n))∧Sound Tryz.prog base 110 (zeH (zni n))∧Sound Tryz.prog base 147 (zcv (zny n))∧Sound Tryz.prog base 197 (zY (zf7 n))∧Sound Tryz.prog base 142 (z8 (zgB n))∧Sound Tryz.prog base 144 (zN (zdQ n))∧Sound Tryz.prog base 146 (zU (zeY n))
 | 0=>⟨zbm Tryz.call145 (fun _=>rfl),zbm Tryz.call198 (fun _=>rfl),zbm Tryz.call108 (fun _=>rfl),zbm Tryz.call143 (fun _=>rfl),zbm Tryz.call110 (fun _=>rfl),zbm Tryz.call147 (fun _=>rfl),zbm Tryz.call197 (fun _=>rfl),zbm Tryz.call142 (fun _=>rfl),zbm Tryz.call144 (fun _=>rfl),zbm Tryz.call146 (fun _=>rfl)⟩
 | n+1=>by
  have ih:=zmS n
  exact ⟨zuq _ _ (ih.2.2.2.2.2.2.1) (ih.2.1),zsn _ (ih.2.2.1),zrd _ _ (ih.2.2.2.2.2.2.2.1) (ih.2.2.2.1),zpi _ (ih.2.2.2.2.1),zrg _ _ _ _ (ih.2.2.2.2.2.2.2.2.1) (ih.1) (ih.2.2.2.2.2.2.2.2.2) (ih.2.2.2.2.2.1),zra _ (ih.1),zeZ _ (ih.2.1),zfh _ (ih.2.2.2.1),zc8 _ (ih.1),zd4 _ (ih.2.2.2.2.2.1)⟩
def ztx:List Term→List Term→Bool×Int:=zrZ 1000
def annotation_Compare_spec:Ab.Spec ty:=zcu ztx
theorem zwl:Sound Tryz.prog base 145 annotation_Compare_spec:=(zmS 1000).1
def zoI:Term→Term→Bool×Int:=znG 1000
def annotation_compareLists_spec:Ab.Spec ty:=zeL zoI
theorem zsj:Sound Tryz.prog base 108 annotation_compareLists_spec:=(zmS 1000).2.2.1
def zj4:Atom→Atom→Bool×Int:=zni 1000
def annotation_compareAtoms_spec:Ab.Spec ty:=zeH zj4
theorem zso:Sound Tryz.prog base 110 annotation_compareAtoms_spec:=(zmS 1000).2.2.2.2.1
def zoG:Weighted→Weighted→Bool×Int:=zny 1000
def annotation_compareItems_spec:Ab.Spec ty:=zcv zoG
theorem zkN:Sound Tryz.prog base 147 annotation_compareItems_spec:=(zmS 1000).2.2.2.2.2.1
def zrH (r:Bool):ARes ty:=⟨[.pure (.lit (.bool r))],[]⟩
def ztY:AL base (List Term×Unit):=zf (zg (vSl 152)) aNil
def zfq (F:List Term→Bool×Bool):Ab.Spec ty:=zk ztY fun x=>((F x.1).1,zrH (F x.1).2)
def zbq (r:Bool):ARes ty:=⟨[.pure (.lit (.bool r))],[]⟩
def zpy:AL base (Atom×Unit):=zf (zg (vAgg 158)) aNil
def zic (F:Atom→Bool×Bool):Ab.Spec ty:=zk zpy fun x=>((F x.1).1,zbq (F x.1).2)
def zmi (r:Bool):ARes ty:=⟨[.pure (.lit (.bool r))],[]⟩
def znk:AL base (List Term×Unit):=zf (zg (vSl 152)) aNil
def zbY (F:List Term→Bool×Bool):Ab.Spec ty:=zk znk fun x=>((F x.1).1,zmi (F x.1).2)
def zlV (r:Bool):ARes ty:=⟨[.pure (.lit (.bool r))],[]⟩
def znE:AL base (Weighted×Unit):=zf (zg (vAgg 182)) aNil
def zbX (F:Weighted→Bool×Bool):Ab.Spec ty:=zk znE fun x=>((F x.1).1,zlV (F x.1).2)
def zdV (r:Int):ARes ty:=⟨[.pure (.lit (.int .i64 r))],[]⟩
def zee:AL base (List (List Term)×Unit×Unit):=zf (zg (vSl 36)) (zf (zg (vFn 149 vNil)) aNil)
def zbr (F:List (List Term)→Bool×Int):Ab.Spec ty:=zk zee fun x=>((F x.1).1,zdV (F x.1).2)
def zdk (r:Bool):ARes ty:=⟨[.pure (.lit (.bool r))],[]⟩
def zdJ:AL base (List (List Term)×Unit×Unit):=zf (zg (vSl 36)) (zf (zg (vFn 149 vNil)) aNil)
def zbl (F:List (List Term)→Bool×Bool):Ab.Spec ty:=zk zdJ fun x=>((F x.1).1,zdk (F x.1).2)
def zeM (r:Int):ARes ty:=⟨[.pure (.lit (.int .i64 r))],[]⟩
def zfi:AL base (List Weighted×Unit×Unit):=zf (zg (vSl 182)) (zf (zg (vFn 156 vNil)) aNil)
def zbI (F:List Weighted→Bool×Int):Ab.Spec ty:=zk zfi fun x=>((F x.1).1,zeM (F x.1).2)
def zd5 (r:Bool):ARes ty:=⟨[.pure (.lit (.bool r))],[]⟩
def zez:AL base (List Weighted×Unit×Unit):=zf (zg (vSl 182)) (zf (zg (vFn 156 vNil)) aNil)
def zbz (F:List Weighted→Bool×Bool):Ab.Spec ty:=zk zez fun x=>((F x.1).1,zd5 (F x.1).2)
def zvM:Cx ty:=mkCx base 11 [] [] [] [] [] []
def zoJ (x_:Atom):Wy0 (Bool):=.i (x_.Kind==3) (.k true) (.k (x_.Kind==4))
def ziK (x_:Atom):Bool×Bool:=(zoJ x_).fin default
def znH (r:Bool):ARes ty:=⟨[.pure (.lit (.bool r))],[]⟩
def zoK:AL base (Atom×Unit):=zf (zg (vAgg 158)) aNil
def ziX:Ab.Spec ty:=zk zoK fun x=>((ziK x.1).1,znH (ziK x.1).2)
theorem zl7:Sound Tryz.prog base 109 ziX:=
 zr (cx':=zvM) zF zm zB (zu trivial) Tryz.call109 Tryz.func109 (c:=body Tryz.f109) (by kernel_rfl) (zh (l:=[]) (by kernel_rfl) trivial) (sg:=⟨[.pure],[]⟩) (A:=zoK) (res:=znH) (W:=fun x=>zoJ x.1) (z:=default)
def zsI (r:Int):ARes ty:=⟨[.pure (.lit (.int .i64 r))],[]⟩
def zuT:AL base (List Term×Unit):=zf (zg (vSl 152)) aNil
def zi2 (F:List Term→Bool×Int):Ab.Spec ty:=zk zuT fun x=>((F x.1).1,zsI (F x.1).2)
abbrev ttTannotationSize0:=Int×Unit×List Term×Int×Int×List Factor×Int×Int×List (List Term)×Int×Int×Unit
abbrev ttTannotationSize1:=Int×List Term×Int×Int×List Factor×Int×Int×Factor
abbrev ttTannotationSize2:=Int×List Term×Int×Int×List Factor×Int×Int×List Weighted×Int×Int×Unit
abbrev ttTannotationSize3:=Int×List Term×Int×Int×List Factor×Int×Int
abbrev ttTannotationSize4:=Int×List Term×Int×Int×List Factor×Int×Int×Unit
abbrev ttTannotationSize5:=Int×List Term×Int×Int
abbrev ttTannotationSize6:=Int×List Term×Int×Int×Unit
def zyD (zj:List Term→Bool×Int) (n_:Int) (t12:List Term) (t13:Int) (t14:Int) (t25:List Factor) (t26:Int) (t27:Int) (t33:List (List Term)) (t34:Int) (t35:Int) (f:Factor):Wy ttTannotationSize0 (Factor×Unit) ttTannotationSize1:=.i (decide (t35<t34)) (.i (decide (0≤t35)&&decide (t35<Int.ofNat t33.length)) (.bn (zj (t33.getD t35.toNat default)) fun r0=>.h ((IntKind.i64.wrap (n_+r0)),(),t12,t13,t14,t25,t26,t27,t33,t34,(IntKind.i64.wrap (t35+1)),()) (f,())) .d) (.k (n_,t12,t13,t14,t25,t26,t27,f))
def zlc (zj:List Term→Bool×Int) (x:ttTannotationSize0) (y:Factor×Unit):Wy ttTannotationSize0 (Factor×Unit) ttTannotationSize1:=zyD zj x.1 x.2.2.1 x.2.2.2.1 x.2.2.2.2.1 x.2.2.2.2.2.1 x.2.2.2.2.2.2.1 x.2.2.2.2.2.2.2.1 x.2.2.2.2.2.2.2.2.1 x.2.2.2.2.2.2.2.2.2.1 x.2.2.2.2.2.2.2.2.2.2.1 y.1
def zyG (zj:List Term→Bool×Int) (n:Nat) (n_:Int) (t12:List Term) (t13:Int) (t14:Int) (t25:List Factor) (t26:Int) (t27:Int) (t33:List (List Term)) (t34:Int) (t35:Int) (f:Factor):Bool×ttTannotationSize1:=zP (zlc zj) default n (n_,(),t12,t13,t14,t25,t26,t27,t33,t34,t35,()) (f,())
def zpX (r:ttTannotationSize1):LTree ty:=.done (.exit 4) [.lit (.int .i64 r.1),.ptr 248 0,.sl 152 r.2.1,.lit (.int .i64 r.2.2.1),.lit (.int .i64 r.2.2.2.1),.sl 160 r.2.2.2.2.1,.lit (.int .i64 r.2.2.2.2.2.1),.lit (.int .i64 r.2.2.2.2.2.2.1)] [.box (base.enc 160 r.2.2.2.2.2.2.2) false]
def zqp:LL ty ttTannotationSize0:=za (lInt .i64) (za (zbW 248 0) (za (lSl 152) (za (lInt .i64) (za (lInt .i64) (za (lSl 160) (za (lInt .i64) (za (lInt .i64) (za (lSl 36) (za (lInt .i64) (za (lInt .i64) zD))))))))))
def zqN:BL ty (Factor×Unit):=bBox (zdP (fun x=>(⟨⟨x.1,⟨x.2.1,x.2.2.1⟩,x.2.2.2.1,x.2.2.2.2.1,x.2.2.2.2.2.1,x.2.2.2.2.2.2.1,⟨x.2.2.2.2.2.2.2.1,x.2.2.2.2.2.2.2.2.1,x.2.2.2.2.2.2.2.2.2.1⟩⟩,x.2.2.2.2.2.2.2.2.2.2.1⟩:Factor)) (fun x=>(x.Atom.Kind,x.Atom.Row.Table,x.Atom.Row.Seq,x.Atom.Args,x.Atom.Func,x.Atom.Items,x.Atom.Op,x.Atom.Bound.Kind,x.Atom.Bound.Int,x.Atom.Bound.Text,x.Exp,())) (fun _=>rfl) (za (lInt .i64) (za (lInt .i64) (za (lInt .i64) (za (lSl 36) (za (lInt .i64) (za (lSl 182) (za (lInt .i64) (za (lInt .i64) (za (lInt .i64) (za lStr (za (lInt .i64) zD)))))))))))) false (bNil)
def zyy (zj:List Term→Bool×Int) (n_:Int) (t12:List Term) (t13:Int) (t14:Int) (t25:List Factor) (t26:Int) (t27:Int) (t46:List Weighted) (t47:Int) (t48:Int):Wy ttTannotationSize2 (Unit) ttTannotationSize3:=.i (decide (t48<t47)) (.i (decide (0≤t48)&&decide (t48<Int.ofNat t46.length)) (.bn (zj (t46.getD t48.toNat default).Ann) fun r2=>.h ((IntKind.i64.wrap (n_+IntKind.i64.wrap (1+r2))),t12,t13,t14,t25,t26,t27,t46,t47,(IntKind.i64.wrap (t48+1)),()) ()) .d) (.k (n_,t12,t13,t14,t25,t26,t27))
def zlE (zj:List Term→Bool×Int) (x:ttTannotationSize2) (y:Unit):Wy ttTannotationSize2 (Unit) ttTannotationSize3:=zyy zj x.1 x.2.1 x.2.2.1 x.2.2.2.1 x.2.2.2.2.1 x.2.2.2.2.2.1 x.2.2.2.2.2.2.1 x.2.2.2.2.2.2.2.1 x.2.2.2.2.2.2.2.2.1 x.2.2.2.2.2.2.2.2.2.1
def zyM (zj:List Term→Bool×Int) (n:Nat) (n_:Int) (t12:List Term) (t13:Int) (t14:Int) (t25:List Factor) (t26:Int) (t27:Int) (t46:List Weighted) (t47:Int) (t48:Int):Bool×ttTannotationSize3:=zP (zlE zj) default n (n_,t12,t13,t14,t25,t26,t27,t46,t47,t48,()) ()
def zpR (r:ttTannotationSize3):LTree ty:=.done (.exit 6) [.lit (.int .i64 r.1),.sl 152 r.2.1,.lit (.int .i64 r.2.2.1),.lit (.int .i64 r.2.2.2.1),.sl 160 r.2.2.2.2.1,.lit (.int .i64 r.2.2.2.2.2.1),.lit (.int .i64 r.2.2.2.2.2.2)] []
def zqG:LL ty ttTannotationSize2:=za (lInt .i64) (za (lSl 152) (za (lInt .i64) (za (lInt .i64) (za (lSl 160) (za (lInt .i64) (za (lInt .i64) (za (lSl 182) (za (lInt .i64) (za (lInt .i64) zD)))))))))
def zqA:BL ty (Unit):=bNil
def zzv (zj:List Term→Bool×Int) (n_:Int) (t12:List Term) (t13:Int) (t14:Int) (t25:List Factor) (t26:Int) (t27:Int):Wy ttTannotationSize4 (Unit) ttTannotationSize5:=.i (decide (t27<t26)) (.i (decide (0≤t27)&&decide (t27<Int.ofNat t25.length)) (.bn (zyG zj (n_.toNat +t12.length+t13.toNat +t14.toNat +t25.length+t26.toNat +t27.toNat +(t25.getD t27.toNat default).Atom.Args.length+(Int.ofNat (t25.getD t27.toNat default).Atom.Args.length).toNat +Int.toNat 0+(t25.getD t27.toNat default).Atom.Args.length+(t25.getD t27.toNat default).Atom.Items.length+1000) n_ t12 t13 t14 t25 t26 t27 (t25.getD t27.toNat default).Atom.Args (Int.ofNat (t25.getD t27.toNat default).Atom.Args.length) 0 (FactorOf.mk (Atom.mk (t25.getD t27.toNat default).Atom.Kind (t25.getD t27.toNat default).Atom.Row (t25.getD t27.toNat default).Atom.Args (t25.getD t27.toNat default).Atom.Func (t25.getD t27.toNat default).Atom.Items (t25.getD t27.toNat default).Atom.Op (t25.getD t27.toNat default).Atom.Bound) (t25.getD t27.toNat default).Exp)) fun r5=>.bn (zyM zj (r5.1.toNat +r5.2.1.length+r5.2.2.1.toNat +r5.2.2.2.1.toNat +r5.2.2.2.2.1.length+r5.2.2.2.2.2.1.toNat +r5.2.2.2.2.2.2.1.toNat +r5.2.2.2.2.2.2.2.Atom.Items.length+(Int.ofNat r5.2.2.2.2.2.2.2.Atom.Items.length).toNat +Int.toNat 0+1000) r5.1 r5.2.1 r5.2.2.1 r5.2.2.2.1 r5.2.2.2.2.1 r5.2.2.2.2.2.1 r5.2.2.2.2.2.2.1 r5.2.2.2.2.2.2.2.Atom.Items (Int.ofNat r5.2.2.2.2.2.2.2.Atom.Items.length) 0) fun r4=>.h ((r4.1),(r4.2.1),(r4.2.2.1),(r4.2.2.2.1),(r4.2.2.2.2.1),(r4.2.2.2.2.2.1),(IntKind.i64.wrap (r4.2.2.2.2.2.2+1)),()) ()) .d) (.k (n_,t12,t13,t14))
def zmI (zj:List Term→Bool×Int) (x:ttTannotationSize4) (y:Unit):Wy ttTannotationSize4 (Unit) ttTannotationSize5:=zzv zj x.1 x.2.1 x.2.2.1 x.2.2.2.1 x.2.2.2.2.1 x.2.2.2.2.2.1 x.2.2.2.2.2.2.1
def zz4 (zj:List Term→Bool×Int) (n:Nat) (n_:Int) (t12:List Term) (t13:Int) (t14:Int) (t25:List Factor) (t26:Int) (t27:Int):Bool×ttTannotationSize5:=zP (zmI zj) default n (n_,t12,t13,t14,t25,t26,t27,()) ()
def zqz (r:ttTannotationSize5):LTree ty:=.done (.exit 2) [.lit (.int .i64 r.1),.sl 152 r.2.1,.lit (.int .i64 r.2.2.1),.lit (.int .i64 r.2.2.2)] []
def zri:LL ty ttTannotationSize4:=za (lInt .i64) (za (lSl 152) (za (lInt .i64) (za (lInt .i64) (za (lSl 160) (za (lInt .i64) (za (lInt .i64) zD))))))
def zr0:BL ty (Unit):=bNil
def zzp (zj:List Term→Bool×Int) (n_:Int) (t12:List Term) (t13:Int) (t14:Int):Wy ttTannotationSize6 (Unit) (Int):=.i (decide (t14<t13)) (.i (decide (0≤t14)&&decide (t14<Int.ofNat t12.length)) (.bn (zz4 zj ((IntKind.i64.wrap (n_+IntKind.i64.wrap (1+Int.ofNat (t12.getD t14.toNat default).Factors.length))).toNat +t12.length+t13.toNat +t14.toNat +(t12.getD t14.toNat default).Factors.length+(Int.ofNat (t12.getD t14.toNat default).Factors.length).toNat +Int.toNat 0+1000) (IntKind.i64.wrap (n_+IntKind.i64.wrap (1+Int.ofNat (t12.getD t14.toNat default).Factors.length))) t12 t13 t14 (t12.getD t14.toNat default).Factors (Int.ofNat (t12.getD t14.toNat default).Factors.length) 0) fun r8=>.h ((r8.1),(r8.2.1),(r8.2.2.1),(IntKind.i64.wrap (r8.2.2.2+1)),()) ()) .d) (.k n_)
def zmA (zj:List Term→Bool×Int) (x:ttTannotationSize6) (y:Unit):Wy ttTannotationSize6 (Unit) (Int):=zzp zj x.1 x.2.1 x.2.2.1 x.2.2.2.1
def zzF (zj:List Term→Bool×Int) (n:Nat) (n_:Int) (t12:List Term) (t13:Int) (t14:Int):Bool×Int:=zP (zmA zj) default n (n_,t12,t13,t14,()) ()
def zqj (r:Int):LTree ty:=.done (.exit 0) [.lit (.int .i64 r)] []
def zsc:LL ty ttTannotationSize6:=za (lInt .i64) (za (lSl 152) (za (lInt .i64) (za (lInt .i64) zD)))
def zrp:BL ty (Unit):=bNil
def zpJ (x:ttTannotationSize0) (y:Factor×Unit):Nat:=(Int.toNat x.1+x.2.2.1.length+Int.toNat x.2.2.2.1+Int.toNat x.2.2.2.2.1+x.2.2.2.2.2.1.length+Int.toNat x.2.2.2.2.2.2.1+Int.toNat x.2.2.2.2.2.2.2.1+x.2.2.2.2.2.2.2.2.1.length+Int.toNat x.2.2.2.2.2.2.2.2.2.1+Int.toNat x.2.2.2.2.2.2.2.2.2.2.1+y.1.Atom.Args.length+y.1.Atom.Items.length+1000)
def zpl (x:ttTannotationSize2) (y:Unit):Nat:=(Int.toNat x.1+x.2.1.length+Int.toNat x.2.2.1+Int.toNat x.2.2.2.1+x.2.2.2.2.1.length+Int.toNat x.2.2.2.2.2.1+Int.toNat x.2.2.2.2.2.2.1+x.2.2.2.2.2.2.2.1.length+Int.toNat x.2.2.2.2.2.2.2.2.1+Int.toNat x.2.2.2.2.2.2.2.2.2.1+1000)
def zqF (x:ttTannotationSize4) (y:Unit):Nat:=(Int.toNat x.1+x.2.1.length+Int.toNat x.2.2.1+Int.toNat x.2.2.2.1+x.2.2.2.2.1.length+Int.toNat x.2.2.2.2.2.1+Int.toNat x.2.2.2.2.2.2.1+1000)
def zqh (x:ttTannotationSize6) (y:Unit):Nat:=(Int.toNat x.1+x.2.1.length+Int.toNat x.2.2.1+Int.toNat x.2.2.2.1+1000)
def zhm (zj:List Term→Bool×Int):Cx ty:=mkCx base 62 [(137,(zi2 zj))] [] [(3,[(3,.keep),(12,.keep),(13,.keep),(14,.keep)]),(7,[(3,.keep),(12,.keep),(13,.keep),(14,.keep),(25,.keep),(26,.keep),(27,.keep)]),(10,[(3,.keep),(7,.keep),(12,.keep),(13,.keep),(14,.keep),(25,.keep),(26,.keep),(27,.keep),(33,.keep),(34,.keep),(35,.keep)]),(15,[(3,.keep),(12,.keep),(13,.keep),(14,.keep),(25,.keep),(26,.keep),(27,.keep),(46,.keep),(47,.keep),(48,.keep)])] [(3,1,[(3,.keep)]),(7,3,[(3,.keep),(12,.keep),(13,.keep),(14,.keep)]),(10,5,[(3,.keep),(7,.keep),(12,.keep),(13,.keep),(14,.keep),(25,.keep),(26,.keep),(27,.keep)]),(15,7,[(3,.keep),(12,.keep),(13,.keep),(14,.keep),(25,.keep),(26,.keep),(27,.keep)])] [(10,spW zqp zqN (zlc zj) default zpX zpJ),(15,spW zqG zqA (zlE zj) default zpR zpl),(7,spW zri zr0 (zmI zj) default zqz zqF),(3,spW zsc zrp (zmA zj) default zqj zqh)] []
theorem zxM (zj:List Term→Bool×Int):zW (zhm zj) (lp (body Tryz.f137) 2):=zK (id:=10) (V:=zqp) (B:=zqN) (W:=zlc zj) (z:=default) (tr:=zpX) (m:=zpJ)
theorem zxV (zj:List Term→Bool×Int):zW (zhm zj) (lp (body Tryz.f137) 3):=zK (id:=15) (V:=zqG) (B:=zqA) (W:=zlE zj) (z:=default) (tr:=zpR) (m:=zpl)
theorem zyc (zj:List Term→Bool×Int):zW (zhm zj) (lp (body Tryz.f137) 1):=zK (id:=7) (V:=zri) (B:=zr0) (W:=zmI zj) (z:=default) (tr:=zqz) (m:=zqF)
theorem zyv (zj:List Term→Bool×Int):zW (zhm zj) (lp (body Tryz.f137) 0):=zK (id:=3) (V:=zsc) (B:=zrp) (W:=zmA zj) (z:=default) (tr:=zqj) (m:=zqh)
def zsJ (zj:List Term→Bool×Int) (a:List Term):Wy0 (Int):=.bn (zzF zj (Int.toNat 0+a.length+(Int.ofNat a.length).toNat +Int.toNat 0+1000) 0 a (Int.ofNat a.length) 0) fun r10=>.k r10
def zu7 (zj:List Term→Bool×Int) (a:List Term):Bool×Int:=(zsJ zj a).fin default
theorem zwJ (zj:List Term→Bool×Int) (zAM:Sound Tryz.prog base 137 (zi2 zj)):Sound Tryz.prog base 137 (zi2 (zu7 zj)):=
 zr (cx':=(zhm zj)) zF zm zB (zu ⟨zAM,trivial⟩) Tryz.call137 Tryz.func137 (c:=body Tryz.f137) (by kernel_rfl) (zh (l:=[lp (body Tryz.f137) 0,lp (body Tryz.f137) 1,lp (body Tryz.f137) 2,lp (body Tryz.f137) 3]) (by kernel_rfl) ⟨zyv zj,zyc zj,zxM zj,zxV zj,trivial⟩) (sg:=⟨[.pure],[]⟩) (A:=zuT) (res:=zsI) (W:=fun x=>zsJ zj x.1) (z:=default)
def zFU:Nat→(List Term→Bool×Int)
 | 0=>fun _=>(false,default)
 | n+1=>zu7 (zFU n)
def zu3 (n:Nat):List Term→Bool×Int:=zFU n
theorem zDO:∀ n,Sound Tryz.prog base 137 (zi2 (zu3 n))
 | 0=>zbm Tryz.call137 (fun _=>rfl)
 | n+1=>by
  have ih:=zDO n
  exact zwJ _ (ih)
def zxt:List Term→Bool×Int:=zu3 1000
def annotation_Size_spec:Ab.Spec ty:=zi2 zxt
theorem zyJ:Sound Tryz.prog base 137 annotation_Size_spec:=(zDO 1000)
def zpt (r:Int):ARes ty:=⟨[.pure (.lit (.int .i64 r))],[]⟩
def zrh:AL base (List Term×Unit):=zf (zg (vSl 152)) aNil
def zho (F:List Term→Bool×Int):Ab.Spec ty:=zk zrh fun x=>((F x.1).1,zpt (F x.1).2)
abbrev ttTannotationnesting0:=Int×Unit×Int×List Term×Int×Int×List Factor×Int×Int×List (List Term)×Int×Int×Unit
abbrev ttTannotationnesting1:=Int×Int×List Term×Int×Int×List Factor×Int×Int×Factor
abbrev ttTannotationnesting2:=Int×Int×List Term×Int×Int×List Factor×Int×Int×List Weighted×Int×Int×Unit
abbrev ttTannotationnesting3:=Int×Int×List Term×Int×Int×List Factor×Int×Int
abbrev ttTannotationnesting4:=Int×List Term×Int×Int×List Factor×Int×Int×Unit
abbrev ttTannotationnesting5:=Int×List Term×Int×Int
abbrev ttTannotationnesting6:=Int×List Term×Int×Int×Unit
def zvN (zi:List Term→Bool×Int) (n_:Int) (inner:Int) (t13:List Term) (t14:Int) (t15:Int) (t20:List Factor) (t21:Int) (t22:Int) (t32:List (List Term)) (t33:Int) (t34:Int) (f:Factor):Wy ttTannotationnesting0 (Factor×Unit) ttTannotationnesting1:=.i (decide (t34<t33)) (.i (decide (0≤t34)&&decide (t34<Int.ofNat t32.length)) (.bn (zi (t32.getD t34.toNat default)) fun r0=>.h (n_,(),(if r0>inner then r0 else inner),t13,t14,t15,t20,t21,t22,t32,t33,(IntKind.i64.wrap (t34+1)),()) (f,())) .d) (.k (n_,inner,t13,t14,t15,t20,t21,t22,f))
def zjL (zi:List Term→Bool×Int) (x:ttTannotationnesting0) (y:Factor×Unit):Wy ttTannotationnesting0 (Factor×Unit) ttTannotationnesting1:=zvN zi x.1 x.2.2.1 x.2.2.2.1 x.2.2.2.2.1 x.2.2.2.2.2.1 x.2.2.2.2.2.2.1 x.2.2.2.2.2.2.2.1 x.2.2.2.2.2.2.2.2.1 x.2.2.2.2.2.2.2.2.2.1 x.2.2.2.2.2.2.2.2.2.2.1 x.2.2.2.2.2.2.2.2.2.2.2.1 y.1
def zvW (zi:List Term→Bool×Int) (n:Nat) (n_:Int) (inner:Int) (t13:List Term) (t14:Int) (t15:Int) (t20:List Factor) (t21:Int) (t22:Int) (t32:List (List Term)) (t33:Int) (t34:Int) (f:Factor):Bool×ttTannotationnesting1:=zP (zjL zi) default n (n_,(),inner,t13,t14,t15,t20,t21,t22,t32,t33,t34,()) (f,())
def znC (r:ttTannotationnesting1):LTree ty:=.done (.exit 4) [.lit (.int .i64 r.1),.ptr 256 0,.lit (.int .i64 r.2.1),.sl 152 r.2.2.1,.lit (.int .i64 r.2.2.2.1),.lit (.int .i64 r.2.2.2.2.1),.sl 160 r.2.2.2.2.2.1,.lit (.int .i64 r.2.2.2.2.2.2.1),.lit (.int .i64 r.2.2.2.2.2.2.2.1)] [.box (base.enc 160 r.2.2.2.2.2.2.2.2) false]
def zoa:LL ty ttTannotationnesting0:=za (lInt .i64) (za (zbW 256 0) (za (lInt .i64) (za (lSl 152) (za (lInt .i64) (za (lInt .i64) (za (lSl 160) (za (lInt .i64) (za (lInt .i64) (za (lSl 36) (za (lInt .i64) (za (lInt .i64) zD)))))))))))
def zol:BL ty (Factor×Unit):=bBox (zdP (fun x=>(⟨⟨x.1,⟨x.2.1,x.2.2.1⟩,x.2.2.2.1,x.2.2.2.2.1,x.2.2.2.2.2.1,x.2.2.2.2.2.2.1,⟨x.2.2.2.2.2.2.2.1,x.2.2.2.2.2.2.2.2.1,x.2.2.2.2.2.2.2.2.2.1⟩⟩,x.2.2.2.2.2.2.2.2.2.2.1⟩:Factor)) (fun x=>(x.Atom.Kind,x.Atom.Row.Table,x.Atom.Row.Seq,x.Atom.Args,x.Atom.Func,x.Atom.Items,x.Atom.Op,x.Atom.Bound.Kind,x.Atom.Bound.Int,x.Atom.Bound.Text,x.Exp,())) (fun _=>rfl) (za (lInt .i64) (za (lInt .i64) (za (lInt .i64) (za (lSl 36) (za (lInt .i64) (za (lSl 182) (za (lInt .i64) (za (lInt .i64) (za (lInt .i64) (za lStr (za (lInt .i64) zD)))))))))))) false (bNil)
def zwi (zi:List Term→Bool×Int) (n_:Int) (inner:Int) (t13:List Term) (t14:Int) (t15:Int) (t20:List Factor) (t21:Int) (t22:Int) (t45:List Weighted) (t46:Int) (t47:Int):Wy ttTannotationnesting2 (Unit) ttTannotationnesting3:=.i (decide (t47<t46)) (.i (decide (0≤t47)&&decide (t47<Int.ofNat t45.length)) (.bn (zi (t45.getD t47.toNat default).Ann) fun r2=>.h (n_,(if r2>inner then r2 else inner),t13,t14,t15,t20,t21,t22,t45,t46,(IntKind.i64.wrap (t47+1)),()) ()) .d) (.k (n_,inner,t13,t14,t15,t20,t21,t22))
def zjM (zi:List Term→Bool×Int) (x:ttTannotationnesting2) (y:Unit):Wy ttTannotationnesting2 (Unit) ttTannotationnesting3:=zwi zi x.1 x.2.1 x.2.2.1 x.2.2.2.1 x.2.2.2.2.1 x.2.2.2.2.2.1 x.2.2.2.2.2.2.1 x.2.2.2.2.2.2.2.1 x.2.2.2.2.2.2.2.2.1 x.2.2.2.2.2.2.2.2.2.1 x.2.2.2.2.2.2.2.2.2.2.1
def zvU (zi:List Term→Bool×Int) (n:Nat) (n_:Int) (inner:Int) (t13:List Term) (t14:Int) (t15:Int) (t20:List Factor) (t21:Int) (t22:Int) (t45:List Weighted) (t46:Int) (t47:Int):Bool×ttTannotationnesting3:=zP (zjM zi) default n (n_,inner,t13,t14,t15,t20,t21,t22,t45,t46,t47,()) ()
def znK (r:ttTannotationnesting3):LTree ty:=.done (.exit 6) [.lit (.int .i64 r.1),.lit (.int .i64 r.2.1),.sl 152 r.2.2.1,.lit (.int .i64 r.2.2.2.1),.lit (.int .i64 r.2.2.2.2.1),.sl 160 r.2.2.2.2.2.1,.lit (.int .i64 r.2.2.2.2.2.2.1),.lit (.int .i64 r.2.2.2.2.2.2.2)] []
def zn4:LL ty ttTannotationnesting2:=za (lInt .i64) (za (lInt .i64) (za (lSl 152) (za (lInt .i64) (za (lInt .i64) (za (lSl 160) (za (lInt .i64) (za (lInt .i64) (za (lSl 182) (za (lInt .i64) (za (lInt .i64) zD))))))))))
def zoj:BL ty (Unit):=bNil
def zwN (zi:List Term→Bool×Int) (n_:Int) (t13:List Term) (t14:Int) (t15:Int) (t20:List Factor) (t21:Int) (t22:Int):Wy ttTannotationnesting4 (Unit) ttTannotationnesting5:=.i (decide (t22<t21)) (.i (decide (0≤t22)&&decide (t22<Int.ofNat t20.length)) (.i ((t20.getD t22.toNat default).Atom.Kind==0) (.h (n_,t13,t14,t15,t20,t21,(IntKind.i64.wrap (t22+1)),()) ()) (.bn (zvW zi (n_.toNat +Int.toNat 0+t13.length+t14.toNat +t15.toNat +t20.length+t21.toNat +t22.toNat +(t20.getD t22.toNat default).Atom.Args.length+(Int.ofNat (t20.getD t22.toNat default).Atom.Args.length).toNat +Int.toNat 0+(t20.getD t22.toNat default).Atom.Args.length+(t20.getD t22.toNat default).Atom.Items.length+1000) n_ 0 t13 t14 t15 t20 t21 t22 (t20.getD t22.toNat default).Atom.Args (Int.ofNat (t20.getD t22.toNat default).Atom.Args.length) 0 (FactorOf.mk (Atom.mk (t20.getD t22.toNat default).Atom.Kind (t20.getD t22.toNat default).Atom.Row (t20.getD t22.toNat default).Atom.Args (t20.getD t22.toNat default).Atom.Func (t20.getD t22.toNat default).Atom.Items (t20.getD t22.toNat default).Atom.Op (t20.getD t22.toNat default).Atom.Bound) (t20.getD t22.toNat default).Exp)) fun r5=>.bn (zvU zi (r5.1.toNat +r5.2.1.toNat +r5.2.2.1.length+r5.2.2.2.1.toNat +r5.2.2.2.2.1.toNat +r5.2.2.2.2.2.1.length+r5.2.2.2.2.2.2.1.toNat +r5.2.2.2.2.2.2.2.1.toNat +r5.2.2.2.2.2.2.2.2.Atom.Items.length+(Int.ofNat r5.2.2.2.2.2.2.2.2.Atom.Items.length).toNat +Int.toNat 0+1000) r5.1 r5.2.1 r5.2.2.1 r5.2.2.2.1 r5.2.2.2.2.1 r5.2.2.2.2.2.1 r5.2.2.2.2.2.2.1 r5.2.2.2.2.2.2.2.1 r5.2.2.2.2.2.2.2.2.Atom.Items (Int.ofNat r5.2.2.2.2.2.2.2.2.Atom.Items.length) 0) fun r4=>.h ((if IntKind.i64.wrap (1+r4.2.1)>r4.1 then IntKind.i64.wrap (1+r4.2.1) else r4.1),(r4.2.2.1),(r4.2.2.2.1),(r4.2.2.2.2.1),(r4.2.2.2.2.2.1),(r4.2.2.2.2.2.2.1),(IntKind.i64.wrap (r4.2.2.2.2.2.2.2+1)),()) ())) .d) (.k (n_,t13,t14,t15))
def zj6 (zi:List Term→Bool×Int) (x:ttTannotationnesting4) (y:Unit):Wy ttTannotationnesting4 (Unit) ttTannotationnesting5:=zwN zi x.1 x.2.1 x.2.2.1 x.2.2.2.1 x.2.2.2.2.1 x.2.2.2.2.2.1 x.2.2.2.2.2.2.1
def zwM (zi:List Term→Bool×Int) (n:Nat) (n_:Int) (t13:List Term) (t14:Int) (t15:Int) (t20:List Factor) (t21:Int) (t22:Int):Bool×ttTannotationnesting5:=zP (zj6 zi) default n (n_,t13,t14,t15,t20,t21,t22,()) ()
def zn5 (r:ttTannotationnesting5):LTree ty:=.done (.exit 2) [.lit (.int .i64 r.1),.sl 152 r.2.1,.lit (.int .i64 r.2.2.1),.lit (.int .i64 r.2.2.2)] []
def zoP:LL ty ttTannotationnesting4:=za (lInt .i64) (za (lSl 152) (za (lInt .i64) (za (lInt .i64) (za (lSl 160) (za (lInt .i64) (za (lInt .i64) zD))))))
def zoR:BL ty (Unit):=bNil
def zwK (zi:List Term→Bool×Int) (n_:Int) (t13:List Term) (t14:Int) (t15:Int):Wy ttTannotationnesting6 (Unit) (Int):=.i (decide (t15<t14)) (.i (decide (0≤t15)&&decide (t15<Int.ofNat t13.length)) (.bn (zwM zi (n_.toNat +t13.length+t14.toNat +t15.toNat +(t13.getD t15.toNat default).Factors.length+(Int.ofNat (t13.getD t15.toNat default).Factors.length).toNat +Int.toNat 0+1000) n_ t13 t14 t15 (t13.getD t15.toNat default).Factors (Int.ofNat (t13.getD t15.toNat default).Factors.length) 0) fun r8=>.h ((r8.1),(r8.2.1),(r8.2.2.1),(IntKind.i64.wrap (r8.2.2.2+1)),()) ()) .d) (.k n_)
def zka (zi:List Term→Bool×Int) (x:ttTannotationnesting6) (y:Unit):Wy ttTannotationnesting6 (Unit) (Int):=zwK zi x.1 x.2.1 x.2.2.1 x.2.2.2.1
def zwR (zi:List Term→Bool×Int) (n:Nat) (n_:Int) (t13:List Term) (t14:Int) (t15:Int):Bool×Int:=zP (zka zi) default n (n_,t13,t14,t15,()) ()
def zom (r:Int):LTree ty:=.done (.exit 0) [.lit (.int .i64 r)] []
def zo2:LL ty ttTannotationnesting6:=za (lInt .i64) (za (lSl 152) (za (lInt .i64) (za (lInt .i64) zD)))
def zoY:BL ty (Unit):=bNil
def znN (x:ttTannotationnesting0) (y:Factor×Unit):Nat:=(Int.toNat x.1+Int.toNat x.2.2.1+x.2.2.2.1.length+Int.toNat x.2.2.2.2.1+Int.toNat x.2.2.2.2.2.1+x.2.2.2.2.2.2.1.length+Int.toNat x.2.2.2.2.2.2.2.1+Int.toNat x.2.2.2.2.2.2.2.2.1+x.2.2.2.2.2.2.2.2.2.1.length+Int.toNat x.2.2.2.2.2.2.2.2.2.2.1+Int.toNat x.2.2.2.2.2.2.2.2.2.2.2.1+y.1.Atom.Args.length+y.1.Atom.Items.length+1000)
def znp (x:ttTannotationnesting2) (y:Unit):Nat:=(Int.toNat x.1+Int.toNat x.2.1+x.2.2.1.length+Int.toNat x.2.2.2.1+Int.toNat x.2.2.2.2.1+x.2.2.2.2.2.1.length+Int.toNat x.2.2.2.2.2.2.1+Int.toNat x.2.2.2.2.2.2.2.1+x.2.2.2.2.2.2.2.2.1.length+Int.toNat x.2.2.2.2.2.2.2.2.2.1+Int.toNat x.2.2.2.2.2.2.2.2.2.2.1+1000)
def zn0 (x:ttTannotationnesting4) (y:Unit):Nat:=(Int.toNat x.1+x.2.1.length+Int.toNat x.2.2.1+Int.toNat x.2.2.2.1+x.2.2.2.2.1.length+Int.toNat x.2.2.2.2.2.1+Int.toNat x.2.2.2.2.2.2.1+1000)
def zod (x:ttTannotationnesting6) (y:Unit):Nat:=(Int.toNat x.1+x.2.1.length+Int.toNat x.2.2.1+Int.toNat x.2.2.2.1+1000)
def zf0 (zi:List Term→Bool×Int):Cx ty:=mkCx base 64 [(136,(zho zi))] [] [(3,[(3,.keep),(13,.keep),(14,.keep),(15,.keep)]),(6,[(3,.keep),(13,.keep),(14,.keep),(15,.keep),(20,.keep),(21,.keep),(22,.keep)]),(11,[(3,.keep),(7,.keep),(8,.keep),(13,.keep),(14,.keep),(15,.keep),(20,.keep),(21,.keep),(22,.keep),(32,.keep),(33,.keep),(34,.keep)]),(16,[(3,.keep),(8,.keep),(13,.keep),(14,.keep),(15,.keep),(20,.keep),(21,.keep),(22,.keep),(45,.keep),(46,.keep),(47,.keep)])] [(3,1,[(3,.keep)]),(6,3,[(3,.keep),(13,.keep),(14,.keep),(15,.keep)]),(11,5,[(3,.keep),(7,.keep),(8,.keep),(13,.keep),(14,.keep),(15,.keep),(20,.keep),(21,.keep),(22,.keep)]),(16,7,[(3,.keep),(8,.keep),(13,.keep),(14,.keep),(15,.keep),(20,.keep),(21,.keep),(22,.keep)])] [(11,spW zoa zol (zjL zi) default znC znN),(16,spW zn4 zoj (zjM zi) default znK znp),(6,spW zoP zoR (zj6 zi) default zn5 zn0),(3,spW zo2 zoY (zka zi) default zom zod)] []
theorem zvj (zi:List Term→Bool×Int):zW (zf0 zi) (lp (body Tryz.f136) 2):=zK (id:=11) (V:=zoa) (B:=zol) (W:=zjL zi) (z:=default) (tr:=znC) (m:=znN)
theorem zvm (zi:List Term→Bool×Int):zW (zf0 zi) (lp (body Tryz.f136) 3):=zK (id:=16) (V:=zn4) (B:=zoj) (W:=zjM zi) (z:=default) (tr:=znK) (m:=znp)
theorem zwr (zi:List Term→Bool×Int):zW (zf0 zi) (lp (body Tryz.f136) 1):=zK (id:=6) (V:=zoP) (B:=zoR) (W:=zj6 zi) (z:=default) (tr:=zn5) (m:=zn0)
theorem zwb (zi:List Term→Bool×Int):zW (zf0 zi) (lp (body Tryz.f136) 0):=zK (id:=3) (V:=zo2) (B:=zoY) (W:=zka zi) (z:=default) (tr:=zom) (m:=zod)
def zpQ (zi:List Term→Bool×Int) (a:List Term):Wy0 (Int):=.bn (zwR zi (Int.toNat 0+a.length+(Int.ofNat a.length).toNat +Int.toNat 0+1000) 0 a (Int.ofNat a.length) 0) fun r10=>.k r10
def zrz (zi:List Term→Bool×Int) (a:List Term):Bool×Int:=(zpQ zi a).fin default
theorem zuC (zi:List Term→Bool×Int) (zxZ:Sound Tryz.prog base 136 (zho zi)):Sound Tryz.prog base 136 (zho (zrz zi)):=
 zr (cx':=(zf0 zi)) zF zm zB (zu ⟨zxZ,trivial⟩) Tryz.call136 Tryz.func136 (c:=body Tryz.f136) (by kernel_rfl) (zh (l:=[lp (body Tryz.f136) 0,lp (body Tryz.f136) 1,lp (body Tryz.f136) 2,lp (body Tryz.f136) 3]) (by kernel_rfl) ⟨zwb zi,zwr zi,zvj zi,zvm zi,trivial⟩) (sg:=⟨[.pure],[]⟩) (A:=zrh) (res:=zpt) (W:=fun x=>zpQ zi x.1) (z:=default)
def zCd:Nat→(List Term→Bool×Int)
 | 0=>fun _=>(false,default)
 | n+1=>zrz (zCd n)
def zrV (n:Nat):List Term→Bool×Int:=zCd n
theorem zAx:∀ n,Sound Tryz.prog base 136 (zho (zrV n))
 | 0=>zbm Tryz.call136 (fun _=>rfl)
 | n+1=>by
  have ih:=zAx n
  exact zuC _ (ih)
def ztz:List Term→Bool×Int:=zrV 1000
def annotation_nesting_spec:Ab.Spec ty:=zho ztz
theorem zvB:Sound Tryz.prog base 136 annotation_nesting_spec:=(zAx 1000)
def zuw:Cx ty:=mkCx base 13 [] [] [] [] [] []
def znI (f:Factor):Wy0 (Bool):=.i (decide (f.Exp>64)) (.k true) (.k (decide (Int.ofNat f.Atom.Items.length>1024)))
def zkc (f:Factor):Bool×Bool:=(znI f).fin default
def zlL (r:Bool):ARes ty:=⟨[.pure (.lit (.bool r))],[]⟩
def znu:AL base (Factor×Unit):=zf (zg (vAgg 160)) aNil
def zfJ:Ab.Spec ty:=zk znu fun x=>((zkc x.1).1,zlL (zkc x.1).2)
theorem zhE:Sound Tryz.prog base 141 zfJ:=
 zr (cx':=zuw) zF zm zB (zu trivial) Tryz.call141 Tryz.func141 (c:=body Tryz.f141) (by kernel_rfl) (zh (l:=[]) (by kernel_rfl) trivial) (sg:=⟨[.pure],[]⟩) (A:=znu) (res:=zlL) (W:=fun x=>znI x.1) (z:=default)
abbrev ttTslicesIndexFuncLapiFactorapiFactorwi0:=List Factor×Unit×Int×Int×Unit
def zkj (s:List Factor) (t7:Int) (t8:Int):Wy ttTslicesIndexFuncLapiFactorapiFactorwi0 (Unit) (Int⊕Unit):=.i (decide (t8<t7)) (.i (decide (0≤t8)&&decide (t8<Int.ofNat s.length)) (.bn (zkc (FactorOf.mk (Atom.mk (s.getD t8.toNat default).Atom.Kind (s.getD t8.toNat default).Atom.Row (s.getD t8.toNat default).Atom.Args (s.getD t8.toNat default).Atom.Func (s.getD t8.toNat default).Atom.Items (s.getD t8.toNat default).Atom.Op (s.getD t8.toNat default).Atom.Bound) (s.getD t8.toNat default).Exp)) fun r0=>.i (r0) (.k (.inl t8)) (.h (s,(),t7,(IntKind.i64.wrap (t8+1)),()) ())) .d) (.k (.inr ()))
def zc6 (x:ttTslicesIndexFuncLapiFactorapiFactorwi0) (y:Unit):Wy ttTslicesIndexFuncLapiFactorapiFactorwi0 (Unit) (Int⊕Unit):=zkj x.1 x.2.2.1 x.2.2.2.1
def zkr (n:Nat) (s:List Factor) (t7:Int) (t8:Int):Bool×(Int⊕Unit):=zP (zc6) (.inl default) n (s,(),t7,t8,()) ()
def zf5 (r:Int⊕Unit):LTree ty:=.ite (isL r) (.done .ret [.lit (.int .i64 (getL r))] []) (.done (.exit 0) [] [])
def zgo:LL ty ttTslicesIndexFuncLapiFactorapiFactorwi0:=za (lSl 160) (za (lFn 141 (zD)) (za (lInt .i64) (za (lInt .i64) zD)))
def zgr:BL ty (Unit):=bNil
def zfT (x:ttTslicesIndexFuncLapiFactorapiFactorwi0) (y:Unit):Nat:=(x.1.length+Int.toNat x.2.2.1+Int.toNat x.2.2.2.1+1000)
def zgf:Cx ty:=mkCx base 19 [(141,zfJ)] [] [(2,[(0,.keep),(1,.keep),(7,.keep),(8,.keep)])] [(2,1,[]),(2,0,[(4,.keep)])] [(2,spW zgo zgr (zc6) (.inl default) zf5 zfT)] []
theorem zj5:zW zgf (lp (body Tryz.f196) 0):=zK (id:=2) (V:=zgo) (B:=zgr) (W:=zc6) (z:=.inl default) (tr:=zf5) (m:=zfT)
def zgx (s:List Factor):Wy0 (Int):=.bn (zkr (s.length+(Int.ofNat s.length).toNat +Int.toNat 0+1000) s (Int.ofNat s.length) 0) fun r2=>.i (isL r2) (.k (getL r2)) (.k (-1:Int))
def zds (s:List Factor):Bool×Int:=(zgx s).fin default
def zfX (r:Int):ARes ty:=⟨[.pure (.lit (.int .i64 r))],[]⟩
def zgC:AL base (List Factor×Unit×Unit):=zf (zg (vSl 160)) (zf (zg (vFn 141 vNil)) aNil)
def zfF:Ab.Spec ty:=zk zgC fun x=>((zds x.1).1,zfX (zds x.1).2)
theorem zjS:Sound Tryz.prog base 196 zfF:=
 zr (cx':=zgf) zF zm zB (zu ⟨zhE,trivial⟩) Tryz.call196 Tryz.func196 (c:=body Tryz.f196) (by kernel_rfl) (zh (l:=[lp (body Tryz.f196) 0]) (by kernel_rfl) ⟨zj5,trivial⟩) (sg:=⟨[.pure],[]⟩) (A:=zgC) (res:=zfX) (W:=fun x=>zgx x.1) (z:=default)
def zjP:Cx ty:=mkCx base 9 [(141,zfJ),(196,zfF)] [] [] [] [] []
def zfE (s:List Factor):Wy0 (Bool):=.bn (zds s) fun r0=>.k (decide (r0≥0))
def zc3 (s:List Factor):Bool×Bool:=(zfE s).fin default
def ze4 (r:Bool):ARes ty:=⟨[.pure (.lit (.bool r))],[]⟩
def zfw:AL base (List Factor×Unit×Unit):=zf (zg (vSl 160)) (zf (zg (vFn 141 vNil)) aNil)
def zeJ:Ab.Spec ty:=zk zfw fun x=>((zc3 x.1).1,ze4 (zc3 x.1).2)
theorem zja:Sound Tryz.prog base 140 zeJ:=
 zr (cx':=zjP) zF zm zB (zu ⟨zhE,zjS,trivial⟩) Tryz.call140 Tryz.func140 (c:=body Tryz.f140) (by kernel_rfl) (zh (l:=[]) (by kernel_rfl) trivial) (sg:=⟨[.pure],[]⟩) (A:=zfw) (res:=ze4) (W:=fun x=>zfE x.1) (z:=default)
def zwE:Cx ty:=mkCx base 12 [(140,zeJ),(141,zfJ)] [] [] [] [] []
def zpk (t:Term):Wy0 (Bool):=.i (decide (Int.ofNat t.Factors.length>64)) (.k true) (.bn (zc3 t.Factors) fun r0=>.k r0)
def zml (t:Term):Bool×Bool:=(zpk t).fin default
def zok (r:Bool):ARes ty:=⟨[.pure (.lit (.bool r))],[]⟩
def zpY:AL base (Term×Unit):=zf (zg (vAgg 152)) aNil
def zhb:Ab.Spec ty:=zk zpY fun x=>((zml x.1).1,zok (zml x.1).2)
theorem ziS:Sound Tryz.prog base 139 zhb:=
 zr (cx':=zwE) zF zm zB (zu ⟨zja,zhE,trivial⟩) Tryz.call139 Tryz.func139 (c:=body Tryz.f139) (by kernel_rfl) (zh (l:=[]) (by kernel_rfl) trivial) (sg:=⟨[.pure],[]⟩) (A:=zpY) (res:=zok) (W:=fun x=>zpk x.1) (z:=default)
abbrev ttTslicesIndexFuncapiAnnotationapiTermwi0:=List Term×Unit×Int×Int×Unit
def zj9 (s:List Term) (t7:Int) (t8:Int):Wy ttTslicesIndexFuncapiAnnotationapiTermwi0 (Unit) (Int⊕Unit):=.i (decide (t8<t7)) (.i (decide (0≤t8)&&decide (t8<Int.ofNat s.length)) (.bn (zml (s.getD t8.toNat default)) fun r0=>.i (r0) (.k (.inl t8)) (.h (s,(),t7,(IntKind.i64.wrap (t8+1)),()) ())) .d) (.k (.inr ()))
def zcU (x:ttTslicesIndexFuncapiAnnotationapiTermwi0) (y:Unit):Wy ttTslicesIndexFuncapiAnnotationapiTermwi0 (Unit) (Int⊕Unit):=zj9 x.1 x.2.2.1 x.2.2.2.1
def zj7 (n:Nat) (s:List Term) (t7:Int) (t8:Int):Bool×(Int⊕Unit):=zP (zcU) (.inl default) n (s,(),t7,t8,()) ()
def zfx (r:Int⊕Unit):LTree ty:=.ite (isL r) (.done .ret [.lit (.int .i64 (getL r))] []) (.done (.exit 0) [] [])
def zf3:LL ty ttTslicesIndexFuncapiAnnotationapiTermwi0:=za (lSl 152) (za (lFn 139 (zD)) (za (lInt .i64) (za (lInt .i64) zD)))
def zfR:BL ty (Unit):=bNil
def zfD (x:ttTslicesIndexFuncapiAnnotationapiTermwi0) (y:Unit):Nat:=(x.1.length+Int.toNat x.2.2.1+Int.toNat x.2.2.2.1+1000)
def zfS:Cx ty:=mkCx base 19 [(139,zhb)] [] [(2,[(0,.keep),(1,.keep),(7,.keep),(8,.keep)])] [(2,1,[]),(2,0,[(4,.keep)])] [(2,spW zf3 zfR (zcU) (.inl default) zfx zfD)] []
theorem zjZ:zW zfS (lp (body Tryz.f195) 0):=zK (id:=2) (V:=zf3) (B:=zfR) (W:=zcU) (z:=.inl default) (tr:=zfx) (m:=zfD)
def zgp (s:List Term):Wy0 (Int):=.bn (zj7 (s.length+(Int.ofNat s.length).toNat +Int.toNat 0+1000) s (Int.ofNat s.length) 0) fun r2=>.i (isL r2) (.k (getL r2)) (.k (-1:Int))
def zdf (s:List Term):Bool×Int:=(zgp s).fin default
def zfB (r:Int):ARes ty:=⟨[.pure (.lit (.int .i64 r))],[]⟩
def zgj:AL base (List Term×Unit×Unit):=zf (zg (vSl 152)) (zf (zg (vFn 139 vNil)) aNil)
def zfn:Ab.Spec ty:=zk zgj fun x=>((zdf x.1).1,zfB (zdf x.1).2)
theorem zjC:Sound Tryz.prog base 195 zfn:=
 zr (cx':=zfS) zF zm zB (zu ⟨ziS,trivial⟩) Tryz.call195 Tryz.func195 (c:=body Tryz.f195) (by kernel_rfl) (zh (l:=[lp (body Tryz.f195) 0]) (by kernel_rfl) ⟨zjZ,trivial⟩) (sg:=⟨[.pure],[]⟩) (A:=zgj) (res:=zfB) (W:=fun x=>zgp x.1) (z:=default)
def zjE:Cx ty:=mkCx base 9 [(139,zhb),(195,zfn)] [] [] [] [] []
def zff (s:List Term):Wy0 (Bool):=.bn (zdf s) fun r0=>.k (decide (r0≥0))
def zcR (s:List Term):Bool×Bool:=(zff s).fin default
def zeR (r:Bool):ARes ty:=⟨[.pure (.lit (.bool r))],[]⟩
def zfm:AL base (List Term×Unit×Unit):=zf (zg (vSl 152)) (zf (zg (vFn 139 vNil)) aNil)
def zes:Ab.Spec ty:=zk zfm fun x=>((zcR x.1).1,zeR (zcR x.1).2)
theorem ziM:Sound Tryz.prog base 138 zes:=
 zr (cx':=zjE) zF zm zB (zu ⟨ziS,zjC,trivial⟩) Tryz.call138 Tryz.func138 (c:=body Tryz.f138) (by kernel_rfl) (zh (l:=[]) (by kernel_rfl) trivial) (sg:=⟨[.pure],[]⟩) (A:=zfm) (res:=zeR) (W:=fun x=>zff x.1) (z:=default)
def zzI:Cx ty:=mkCx base 19 [(136,annotation_nesting_spec),(137,annotation_Size_spec),(138,zes),(139,zhb)] [] [] [] [] []
def zsL (a:List Term):Wy0 (Bool):=.i (decide (Int.ofNat a.length>512)) (.k false) (.bn (ztz a) fun r2=>.i (decide (r2>8)) (.k false) (.bn (zxt a) fun r1=>.i (decide (r1>4096)) (.k false) (.bn (zcR a) fun r0=>.k (!r0))))
def zo6 (a:List Term):Bool×Bool:=(zsL a).fin default
def zqn (r:Bool):ARes ty:=⟨[.pure (.lit (.bool r))],[]⟩
def zsM:AL base (List Term×Unit):=zf (zg (vSl 152)) aNil
def zpI:Ab.Spec ty:=zk zsM fun x=>((zo6 x.1).1,zqn (zo6 x.1).2)
theorem zwT:Sound Tryz.prog base 107 zpI:=
 zr (cx':=zzI) zF zm zB (zu ⟨zvB,zyJ,ziM,ziS,trivial⟩) Tryz.call107 Tryz.func107 (c:=body Tryz.f107) (by kernel_rfl) (zh (l:=[]) (by kernel_rfl) trivial) (sg:=⟨[.pure],[]⟩) (A:=zsM) (res:=zqn) (W:=fun x=>zsL x.1) (z:=default)
end Go.Proofs.YtddkaehkimnklaaGreatDoor
end
