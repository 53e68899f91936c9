/- Texts of this claim, joined (the program, its functions in plain words, and what they compute). -/
import Derived.Test.YtddkaehkimnklaaGreatDoorGC1
import Derived.Test.YtddkaehkimnklaaGreatDoorGA3
set_option autoImplicit false
set_option linter.unusedVariables false
set_option linter.unusedSectionVars false
set_option linter.unusedSimpArgs false
set_option maxRecDepth 1000000
set_option maxHeartbeats 0
noncomputable section
namespace Go.Proofs.YtddkaehkimnklaaGreatDoor
open Go Go.Ab
abbrev ttTstatisticsFormat0:=Unit×Unit×Unit×ByteArray×Unit×List ColumnStats×Int×Int×List Value×Int×Int×Unit
abbrev ttTstatisticsFormat1:=Stats×List ByteArray×ColumnStats×List ByteArray×Unit
abbrev ttTstatisticsFormat2:=ByteArray×List ColumnStats×Int×Int×Stats×List ByteArray×ColumnStats×List ByteArray
abbrev ttTstatisticsFormat3:=Unit×Unit×List ColumnStats×Int×Int×Unit
abbrev ttTstatisticsFormat4:=Stats×List ByteArray×Unit
def zzb (line:ByteArray) (t25:List ColumnStats) (t26:Int) (t27:Int) (t45:List Value) (t46:Int) (t47:Int) (s:Stats) (out_:List ByteArray) (c:ColumnStats) (l:List ByteArray):Wy ttTstatisticsFormat0 ttTstatisticsFormat1 ttTstatisticsFormat2:=.i (decide (t47<t46)) (.i (decide (0≤t47)&&decide (t47<Int.ofNat t45.length)) (.bn (znV (t45.getD t47.toNat default)) fun r0=>.i (decide ((l.length+[r0].length)*16≤zds)) (.h ((),(),(),line,(),t25,t26,t27,t45,t46,(IntKind.i64.wrap (t47+1)),()) (s,out_,c,(l++[r0]),())) .d) .d) (.k (line,t25,t26,t27,s,out_,c,l))
def zlk (x:ttTstatisticsFormat0) (y:ttTstatisticsFormat1):Wy ttTstatisticsFormat0 ttTstatisticsFormat1 ttTstatisticsFormat2:=zzb x.2.2.2.1 x.2.2.2.2.2.1 x.2.2.2.2.2.2.1 x.2.2.2.2.2.2.2.1 x.2.2.2.2.2.2.2.2.1 x.2.2.2.2.2.2.2.2.2.1 x.2.2.2.2.2.2.2.2.2.2.1 y.1 y.2.1 y.2.2.1 y.2.2.2.1
def zy7 (n:Nat) (line:ByteArray) (t25:List ColumnStats) (t26:Int) (t27:Int) (t45:List Value) (t46:Int) (t47:Int) (s:Stats) (out_:List ByteArray) (c:ColumnStats) (l:List ByteArray):Bool×ttTstatisticsFormat2:=zN (zlk) default n ((),(),(),line,(),t25,t26,t27,t45,t46,t47,()) (s,out_,c,l,())
def zpd (r:ttTstatisticsFormat2):LTree ty:=.done (.exit 2) [.ptr 312 0,.own 313,.ptr 314 0,.lit (.string r.1),.own 315,.sl 43 r.2.1,.lit (.int .i64 r.2.2.1),.lit (.int .i64 r.2.2.2.1)] [.box (base.enc 30 r.2.2.2.2.1) false,.arr 9 r.2.2.2.2.2.1 false,.box (base.enc 43 r.2.2.2.2.2.2.1) false,.arr 9 r.2.2.2.2.2.2.2 false]
def zqO:LL ty ttTstatisticsFormat0:=za (z6 312 0) (za (lOwn 313) (za (z6 314 0) (za lStr (za (lOwn 315) (za (lSl 43) (za (lInt .i64) (za (lInt .i64) (za (lSl 40) (za (lInt .i64) (za (lInt .i64) zy))))))))))
def zqE:BL ty ttTstatisticsFormat1:=bBox (zbj (fun x=>(⟨x.1,x.2.1,x.2.2.1⟩:Stats)) (fun x=>(x.Table,x.Rows,x.Columns,())) (fun _=>rfl) (za (lInt .i64) (za (lInt .i64) (za (lSl 43) zy)))) false (bArr 9 false (bBox (zbj (fun x=>(⟨x.1,⟨x.2.1,x.2.2.1,x.2.2.2.1⟩,⟨x.2.2.2.2.1,x.2.2.2.2.2.1,x.2.2.2.2.2.2.1⟩,x.2.2.2.2.2.2.2.1⟩:ColumnStats)) (fun x=>(x.Distinct,x.Min.Kind,x.Min.Int,x.Min.Text,x.Max.Kind,x.Max.Int,x.Max.Text,x.Bounds,())) (fun _=>rfl) (za (lInt .i64) (za (lInt .i64) (za (lInt .i64) (za lStr (za (lInt .i64) (za (lInt .i64) (za lStr (za (lSl 40) zy))))))))) false (bArr 9 false (bNil))))
def zzJ (t25:List ColumnStats) (t26:Int) (t27:Int) (s:Stats) (out_:List ByteArray):Wy ttTstatisticsFormat3 ttTstatisticsFormat4 (List ByteArray):=.i (decide (t27<t26)) (.i (decide (0≤t27)&&decide (t27<Int.ofNat t25.length)) (.bn (strconv_Itoa t27) fun r7=>.i (decide ((ByteArray.mk #[(99:UInt8),(111:UInt8),(108:UInt8),(117:UInt8),(109:UInt8),(110:UInt8),(32:UInt8)]).size+r7.size≤9223372036854775807)) (.i (decide ((ByteArray.mk #[(99:UInt8),(111:UInt8),(108:UInt8),(117:UInt8),(109:UInt8),(110:UInt8),(32:UInt8)]++r7).size+(ByteArray.mk #[(58:UInt8),(32:UInt8)]).size≤9223372036854775807)) (.bn (strconv_Itoa (t25.getD t27.toNat default).Distinct) fun r6=>.i (decide ((ByteArray.mk #[(99:UInt8),(111:UInt8),(108:UInt8),(117:UInt8),(109:UInt8),(110:UInt8),(32:UInt8)]++r7++ByteArray.mk #[(58:UInt8),(32:UInt8)]).size+r6.size≤9223372036854775807)) (.i (decide ((ByteArray.mk #[(99:UInt8),(111:UInt8),(108:UInt8),(117:UInt8),(109:UInt8),(110:UInt8),(32:UInt8)]++r7++ByteArray.mk #[(58:UInt8),(32:UInt8)]++r6).size+(ByteArray.mk #[(32:UInt8),(100:UInt8),(105:UInt8),(115:UInt8),(116:UInt8),(105:UInt8),(110:UInt8),(99:UInt8),(116:UInt8)]).size≤9223372036854775807)) (.i (decide (s.Rows>0)) (.bn (zy7 ((ByteArray.mk #[(99:UInt8),(111:UInt8),(108:UInt8),(117:UInt8),(109:UInt8),(110:UInt8),(32:UInt8)]++r7++ByteArray.mk #[(58:UInt8),(32:UInt8)]++r6++ByteArray.mk #[(32:UInt8),(100:UInt8),(105:UInt8),(115:UInt8),(116:UInt8),(105:UInt8),(110:UInt8),(99:UInt8),(116:UInt8)]).size+t25.length+t26.toNat +t27.toNat +(t25.getD t27.toNat default).Bounds.length+(Int.ofNat (t25.getD t27.toNat default).Bounds.length).toNat +Int.toNat 0+s.Columns.length+out_.length+(t25.getD t27.toNat default).Bounds.length+0+1000) (ByteArray.mk #[(99:UInt8),(111:UInt8),(108:UInt8),(117:UInt8),(109:UInt8),(110:UInt8),(32:UInt8)]++r7++ByteArray.mk #[(58:UInt8),(32:UInt8)]++r6++ByteArray.mk #[(32:UInt8),(100:UInt8),(105:UInt8),(115:UInt8),(116:UInt8),(105:UInt8),(110:UInt8),(99:UInt8),(116:UInt8)]) t25 t26 t27 (t25.getD t27.toNat default).Bounds (Int.ofNat (t25.getD t27.toNat default).Bounds.length) 0 s out_ (t25.getD t27.toNat default) []) fun r5=>.bn (znV r5.2.2.2.2.2.2.1.Min) fun r4=>.i (decide ((ByteArray.mk #[(44:UInt8),(32:UInt8)]).size+r4.size≤9223372036854775807)) (.i (decide ((ByteArray.mk #[(44:UInt8),(32:UInt8)]++r4).size+(ByteArray.mk #[(32:UInt8),(116:UInt8),(111:UInt8),(32:UInt8)]).size≤9223372036854775807)) (.bn (znV r5.2.2.2.2.2.2.1.Max) fun r3=>.i (decide ((ByteArray.mk #[(44:UInt8),(32:UInt8)]++r4++ByteArray.mk #[(32:UInt8),(116:UInt8),(111:UInt8),(32:UInt8)]).size+r3.size≤9223372036854775807)) (.i (decide ((ByteArray.mk #[(44:UInt8),(32:UInt8)]++r4++ByteArray.mk #[(32:UInt8),(116:UInt8),(111:UInt8),(32:UInt8)]++r3).size+(ByteArray.mk #[(44:UInt8),(32:UInt8),(98:UInt8),(111:UInt8),(117:UInt8),(110:UInt8),(100:UInt8),(97:UInt8),(114:UInt8),(105:UInt8),(101:UInt8),(115:UInt8),(32:UInt8)]).size≤9223372036854775807)) (.bn (strings_Join r5.2.2.2.2.2.2.2 (ByteArray.mk #[(44:UInt8),(32:UInt8)])) fun r2=>.i (decide ((ByteArray.mk #[(44:UInt8),(32:UInt8)]++r4++ByteArray.mk #[(32:UInt8),(116:UInt8),(111:UInt8),(32:UInt8)]++r3++ByteArray.mk #[(44:UInt8),(32:UInt8),(98:UInt8),(111:UInt8),(117:UInt8),(110:UInt8),(100:UInt8),(97:UInt8),(114:UInt8),(105:UInt8),(101:UInt8),(115:UInt8),(32:UInt8)]).size+r2.size≤9223372036854775807)) (.i (decide (r5.1.size+(ByteArray.mk #[(44:UInt8),(32:UInt8)]++r4++ByteArray.mk #[(32:UInt8),(116:UInt8),(111:UInt8),(32:UInt8)]++r3++ByteArray.mk #[(44:UInt8),(32:UInt8),(98:UInt8),(111:UInt8),(117:UInt8),(110:UInt8),(100:UInt8),(97:UInt8),(114:UInt8),(105:UInt8),(101:UInt8),(115:UInt8),(32:UInt8)]++r2).size≤9223372036854775807)) (.i (decide ((r5.2.2.2.2.2.1.length+[r5.1++(ByteArray.mk #[(44:UInt8),(32:UInt8)]++r4++ByteArray.mk #[(32:UInt8),(116:UInt8),(111:UInt8),(32:UInt8)]++r3++ByteArray.mk #[(44:UInt8),(32:UInt8),(98:UInt8),(111:UInt8),(117:UInt8),(110:UInt8),(100:UInt8),(97:UInt8),(114:UInt8),(105:UInt8),(101:UInt8),(115:UInt8),(32:UInt8)]++r2)].length)*16≤zds)) (.h ((),(),(r5.2.1),(r5.2.2.1),(IntKind.i64.wrap (r5.2.2.2.1+1)),()) ((r5.2.2.2.2.1),(r5.2.2.2.2.2.1++[r5.1++(ByteArray.mk #[(44:UInt8),(32:UInt8)]++r4++ByteArray.mk #[(32:UInt8),(116:UInt8),(111:UInt8),(32:UInt8)]++r3++ByteArray.mk #[(44:UInt8),(32:UInt8),(98:UInt8),(111:UInt8),(117:UInt8),(110:UInt8),(100:UInt8),(97:UInt8),(114:UInt8),(105:UInt8),(101:UInt8),(115:UInt8),(32:UInt8)]++r2)]),())) .d) .d) .d) .d) .d) .d) .d) (.i (decide ((out_.length+[ByteArray.mk #[(99:UInt8),(111:UInt8),(108:UInt8),(117:UInt8),(109:UInt8),(110:UInt8),(32:UInt8)]++r7++ByteArray.mk #[(58:UInt8),(32:UInt8)]++r6++ByteArray.mk #[(32:UInt8),(100:UInt8),(105:UInt8),(115:UInt8),(116:UInt8),(105:UInt8),(110:UInt8),(99:UInt8),(116:UInt8)]].length)*16≤zds)) (.h ((),(),t25,t26,(IntKind.i64.wrap (t27+1)),()) (s,(out_++[ByteArray.mk #[(99:UInt8),(111:UInt8),(108:UInt8),(117:UInt8),(109:UInt8),(110:UInt8),(32:UInt8)]++r7++ByteArray.mk #[(58:UInt8),(32:UInt8)]++r6++ByteArray.mk #[(32:UInt8),(100:UInt8),(105:UInt8),(115:UInt8),(116:UInt8),(105:UInt8),(110:UInt8),(99:UInt8),(116:UInt8)]]),())) .d)) .d) .d) .d) .d) .d) (.k out_)
def zmj (x:ttTstatisticsFormat3) (y:ttTstatisticsFormat4):Wy ttTstatisticsFormat3 ttTstatisticsFormat4 (List ByteArray):=zzJ x.2.2.1 x.2.2.2.1 x.2.2.2.2.1 y.1 y.2.1
def zzU (n:Nat) (t25:List ColumnStats) (t26:Int) (t27:Int) (s:Stats) (out_:List ByteArray):Bool×List ByteArray:=zN (zmj) default n ((),(),t25,t26,t27,()) (s,out_,())
def zqP (r:List ByteArray):LTree ty:=.done (.exit 0) [.own 312] [.arr 9 r false]
def zru:LL ty ttTstatisticsFormat3:=za (z6 312 0) (za (lOwn 313) (za (lSl 43) (za (lInt .i64) (za (lInt .i64) zy))))
def zr9:BL ty ttTstatisticsFormat4:=bBox (zbj (fun x=>(⟨x.1,x.2.1,x.2.2.1⟩:Stats)) (fun x=>(x.Table,x.Rows,x.Columns,())) (fun _=>rfl) (za (lInt .i64) (za (lInt .i64) (za (lSl 43) zy)))) false (bArr 9 false (bNil))
def zpj (x:ttTstatisticsFormat0) (y:ttTstatisticsFormat1):Nat:=(x.2.2.2.1.size+x.2.2.2.2.2.1.length+Int.toNat x.2.2.2.2.2.2.1+Int.toNat x.2.2.2.2.2.2.2.1+x.2.2.2.2.2.2.2.2.1.length+Int.toNat x.2.2.2.2.2.2.2.2.2.1+Int.toNat x.2.2.2.2.2.2.2.2.2.2.1+y.1.Columns.length+y.2.1.length+y.2.2.1.Bounds.length+y.2.2.2.1.length+1000)
def zqo (x:ttTstatisticsFormat3) (y:ttTstatisticsFormat4):Nat:=(x.2.2.1.length+Int.toNat x.2.2.2.1+Int.toNat x.2.2.2.2.1+y.1.Columns.length+y.2.1.length+1000)
def zmn:Cx ty:=mkCx base0 78 [(15,ziB),(52,strconv_Itoa_spec),(53,zuR),(54,strings_Join_spec)] [] [(5,[(1,.keep),(3,.keep),(25,.keep),(26,.keep),(27,.keep)]),(11,[(1,.keep),(3,.keep),(5,.keep),(6,.keep),(7,.own 9),(25,.keep),(26,.keep),(27,.keep),(45,.keep),(46,.keep),(47,.keep)])] [(5,1,[(3,.keep)]),(11,3,[(1,.keep),(3,.keep),(5,.keep),(6,.keep),(7,.keep),(25,.keep),(26,.keep),(27,.keep)])] [(11,spW zqO zqE (zlk) default zpd zpj),(5,spW zru zr9 (zmj) default zqP zqo)] []
theorem zxL:zZ zmn (lp (body Tryz.f24) 1):=zP (id:=11) (V:=zqO) (B:=zqE) (W:=zlk) (z:=default) (tr:=zpd) (m:=zpj)
theorem zyC:zZ zmn (lp (body Tryz.f24) 0):=zP (id:=5) (V:=zru) (B:=zr9) (W:=zmj) (z:=default) (tr:=zqP) (m:=zqo)
def zsR (s:Stats):Wy0 (List ByteArray):=.bn (zh2 s) fun r17=>.i (!r17) (.k []) (.bn (strconv_Itoa s.Table) fun r16=>.i (decide ((ByteArray.mk #[(116:UInt8),(97:UInt8),(98:UInt8),(108:UInt8),(101:UInt8),(32:UInt8),(116:UInt8)]).size+r16.size≤9223372036854775807)) (.i (decide ((ByteArray.mk #[(116:UInt8),(97:UInt8),(98:UInt8),(108:UInt8),(101:UInt8),(32:UInt8),(116:UInt8)]++r16).size+(ByteArray.mk #[(58:UInt8),(32:UInt8)]).size≤9223372036854775807)) (.bn (strconv_Itoa s.Rows) fun r15=>.i (decide ((ByteArray.mk #[(116:UInt8),(97:UInt8),(98:UInt8),(108:UInt8),(101:UInt8),(32:UInt8),(116:UInt8)]++r16++ByteArray.mk #[(58:UInt8),(32:UInt8)]).size+r15.size≤9223372036854775807)) (.i (decide ((ByteArray.mk #[(116:UInt8),(97:UInt8),(98:UInt8),(108:UInt8),(101:UInt8),(32:UInt8),(116:UInt8)]++r16++ByteArray.mk #[(58:UInt8),(32:UInt8)]++r15).size+(ByteArray.mk #[(32:UInt8),(114:UInt8),(111:UInt8),(119:UInt8),(115:UInt8)]).size≤9223372036854775807)) (.bn (zzU (s.Columns.length+(Int.ofNat s.Columns.length).toNat +Int.toNat 0+s.Columns.length+[ByteArray.mk #[(116:UInt8),(97:UInt8),(98:UInt8),(108:UInt8),(101:UInt8),(32:UInt8),(116:UInt8)]++r16++ByteArray.mk #[(58:UInt8),(32:UInt8)]++r15++ByteArray.mk #[(32:UInt8),(114:UInt8),(111:UInt8),(119:UInt8),(115:UInt8)]].length+1000) s.Columns (Int.ofNat s.Columns.length) 0 s [ByteArray.mk #[(116:UInt8),(97:UInt8),(98:UInt8),(108:UInt8),(101:UInt8),(32:UInt8),(116:UInt8)]++r16++ByteArray.mk #[(58:UInt8),(32:UInt8)]++r15++ByteArray.mk #[(32:UInt8),(114:UInt8),(111:UInt8),(119:UInt8),(115:UInt8)]]) fun r14=>.k r14) .d) .d) .d) .d)
def zu2 (s:Stats):Bool×List ByteArray:=(zsR s).fin default
def zq1 (r:List ByteArray):ARes ty:=⟨[.own 9 r],[]⟩
def zsX:AL base0 (Stats×Unit):=zg (zh (vAgg 30)) aNil
def zoZ:Ab.Spec ty:=zl zsX fun x=>((zu2 x.1).1,zq1 (zu2 x.1).2)
theorem zwL:Sound Tryz.prog base0 24 zoZ:=
 zt (cx':=zmn) zG zsZ zD (zw ⟨zkN.nodr,zB0.nodr,zB1,zBp,trivial⟩) Tryz.call24 Tryz.func24 (c:=body Tryz.f24) (by kernel_rfl) (zi (l:=[lp (body Tryz.f24) 0,lp (body Tryz.f24) 1]) (by kernel_rfl) ⟨zyC,zxL,trivial⟩) (sg:=⟨[.own 9],[]⟩) (A:=zsX) (res:=zq1) (W:=fun x=>zsR x.1) (z:=default)
def zpt (r:Int):ARes ty:=⟨[.pure (.lit (.int .i64 r))],[]⟩
def zsj:AL base (List Term×List Term×Unit):=zg (zh (vSl 152)) (zg (zh (vSl 152)) aNil)
def zcB (F:List Term→List Term→Bool×Int):Ab.Spec ty:=zl zsj fun x=>((F x.1 x.2.1).1,zpt (F x.1 x.2.1).2)
def znc (r:Int):ARes ty:=⟨[.pure (.lit (.int .i64 r))],[]⟩
def zoz:AL base (Term×Term×Unit):=zg (zh (vAgg 152)) (zg (zh (vAgg 152)) aNil)
def zd3 (F:Term→Term→Bool×Int):Ab.Spec ty:=zl zoz fun x=>((F x.1 x.2.1).1,znc (F x.1 x.2.1).2)
def zlN (r:Int):ARes ty:=⟨[.pure (.lit (.int .i64 r))],[]⟩
def znz:AL base (Term×Term×Unit):=zg (zh (vAgg 152)) (zg (zh (vAgg 152)) aNil)
def zeU (F:Term→Term→Bool×Int):Ab.Spec ty:=zl znz fun x=>((F x.1 x.2.1).1,zlN (F x.1 x.2.1).2)
def zkY (r:Int):ARes ty:=⟨[.pure (.lit (.int .i64 r))],[]⟩
def zl6:AL base (Factor×Factor×Unit):=zg (zh (vAgg 160)) (zg (zh (vAgg 160)) aNil)
def zcR (F:Factor→Factor→Bool×Int):Ab.Spec ty:=zl zl6 fun x=>((F x.1 x.2.1).1,zkY (F x.1 x.2.1).2)
def zlS (r:Int):ARes ty:=⟨[.pure (.lit (.int .i64 r))],[]⟩
def znd:AL base (Atom×Atom×Unit):=zg (zh (vAgg 158)) (zg (zh (vAgg 158)) aNil)
def zeF (F:Atom→Atom→Bool×Int):Ab.Spec ty:=zl znd fun x=>((F x.1 x.2.1).1,zlS (F x.1 x.2.1).2)
def zlV (r:Int):ARes ty:=⟨[.pure (.lit (.int .i64 r))],[]⟩
def znC:AL base (Weighted×Weighted×Unit):=zg (zh (vAgg 182)) (zg (zh (vAgg 182)) aNil)
def zcz (F:Weighted→Weighted→Bool×Int):Ab.Spec ty:=zl znC fun x=>((F x.1 x.2.1).1,zlV (F x.1 x.2.1).2)
def zck (r:Int):ARes ty:=⟨[.pure (.lit (.int .i64 r))],[]⟩
def zcw:AL base (List Term×List Term×Unit×Unit):=zg (zh (vSl 152)) (zg (zh (vSl 152)) (zg (zh (vFn 198 vNil)) aNil))
def zY (F:List Term→List Term→Bool×Int):Ab.Spec ty:=zl zcw fun x=>((F x.1 x.2.1).1,zck (F x.1 x.2.1).2)
def zcx (r:Int):ARes ty:=⟨[.pure (.lit (.int .i64 r))],[]⟩
def zcE:AL base (List Factor×List Factor×Unit×Unit):=zg (zh (vSl 160)) (zg (zh (vSl 160)) (zg (zh (vFn 143 vNil)) aNil))
def z8 (F:List Factor→List Factor→Bool×Int):Ab.Spec ty:=zl zcE fun x=>((F x.1 x.2.1).1,zcx (F x.1 x.2.1).2)
def zbF (r:Int):ARes ty:=⟨[.pure (.lit (.int .i64 r))],[]⟩
def zbN:AL base (List (List Term)×List (List Term)×Unit×Unit):=zg (zh (vSl 36)) (zg (zh (vSl 36)) (zg (zh (vFn 145 vNil)) aNil))
def zO (F:List (List Term)→List (List Term)→Bool×Int):Ab.Spec ty:=zl zbN fun x=>((F x.1 x.2.1).1,zbF (F x.1 x.2.1).2)
def zb1 (r:Int):ARes ty:=⟨[.pure (.lit (.int .i64 r))],[]⟩
def zb7:AL base (List Weighted×List Weighted×Unit×Unit):=zg (zh (vSl 182)) (zg (zh (vSl 182)) (zg (zh (vFn 147 vNil)) aNil))
def zW (F:List Weighted→List Weighted→Bool×Int):Ab.Spec ty:=zl zb7 fun x=>((F x.1 x.2.1).1,zb1 (F x.1 x.2.1).2)
def zwF (zA:List Term→List Term→Bool×Int) (zB:Term→Term→Bool×Int):Cx ty:=mkCx base 8 [(197,(zY zA)),(198,(zd3 zB))] [] [] [] [] []
def zpi (zA:List Term→List Term→Bool×Int) (zB:Term→Term→Bool×Int) (a:List Term) (b:List Term):Wy0 (Int):=.bn (zA a b) fun r0=>.k r0
def zsc (zA:List Term→List Term→Bool×Int) (zB:Term→Term→Bool×Int) (a:List Term) (b:List Term):Bool×Int:=(zpi zA zB a b).fin default
theorem zun (zA:List Term→List Term→Bool×Int) (zB:Term→Term→Bool×Int) (zfP:Sound Tryz.prog base 197 (zY zA)) (zjg:Sound Tryz.prog base 198 (zd3 zB)):Sound Tryz.prog base 145 (zcB (zsc zA zB)):=
 zt (cx':=(zwF zA zB)) zG zn zD (zw ⟨zfP,zjg,trivial⟩) Tryz.call145 Tryz.func145 (c:=body Tryz.f145) (by kernel_rfl) (zi (l:=[]) (by kernel_rfl) trivial) (sg:=⟨[.pure],[]⟩) (A:=zsj) (res:=zpt) (W:=fun x=>zpi zA zB x.1 x.2.1) (z:=default)
def zuB (zbq:Term→Term→Bool×Int):Cx ty:=mkCx base 15 [(108,(zeU zbq)),(121,ziy),(123,zkP)] [] [] [] [] []
def znD (zbq:Term→Term→Bool×Int) (x_:Term) (y_:Term):Wy0 (Int):=.bn (zbq x_ y_) fun r2=>.bn (zht x_.Coeff y_.Coeff) fun r1=>.bn (zjr [r2,r1]) fun r0=>.k r0
def zoH (zbq:Term→Term→Bool×Int) (x_:Term) (y_:Term):Bool×Int:=(znD zbq x_ y_).fin default
theorem zss (zbq:Term→Term→Bool×Int) (zt2:Sound Tryz.prog base 108 (zeU zbq)):Sound Tryz.prog base 198 (zd3 (zoH zbq)):=
 zt (cx':=(zuB zbq)) zG zn zD (zw ⟨zt2,zjP,zoI,trivial⟩) Tryz.call198 Tryz.func198 (c:=body Tryz.f198) (by kernel_rfl) (zi (l:=[]) (by kernel_rfl) trivial) (sg:=⟨[.pure],[]⟩) (A:=zoz) (res:=znc) (W:=fun x=>znD zbq x.1 x.2.1) (z:=default)
def zto (zm:List (List Term)→List (List Term)→Bool×Int) (zp:List Term→List Term→Bool×Int) (zr:List Weighted→List Weighted→Bool×Int) (zu:Weighted→Weighted→Bool×Int):Cx ty:=mkCx base 51 [(79,zcd),(121,ziy),(122,zjk),(144,(zO zm)),(145,(zcB zp)),(146,(zW zr)),(147,(zcz zu))] [] [] [] [] []
def zlT (zm:List (List Term)→List (List Term)→Bool×Int) (zp:List Term→List Term→Bool×Int) (zr:List Weighted→List Weighted→Bool×Int) (zu:Weighted→Weighted→Bool×Int) (a:Atom) (b:Atom):Wy0 (Int):=.bn (zc4 a.Kind b.Kind) fun r8=>.bn (zc4 a.Row.Table b.Row.Table) fun r7=>.bn (zc4 a.Row.Seq b.Row.Seq) fun r6=>.bn (zm a.Args b.Args) fun r5=>.bn (zc4 a.Func b.Func) fun r4=>.bn (zr a.Items b.Items) fun r3=>.bn (zc4 a.Op b.Op) fun r2=>.bn (zbL a.Bound b.Bound) fun r1=>.bn (zjr [r8,r7,r6,r5,r4,r3,r2,r1]) fun r0=>.k r0
def znt (zm:List (List Term)→List (List Term)→Bool×Int) (zp:List Term→List Term→Bool×Int) (zr:List Weighted→List Weighted→Bool×Int) (zu:Weighted→Weighted→Bool×Int) (a:Atom) (b:Atom):Bool×Int:=(zlT zm zp zr zu a b).fin default
theorem zq3 (zm:List (List Term)→List (List Term)→Bool×Int) (zp:List Term→List Term→Bool×Int) (zr:List Weighted→List Weighted→Bool×Int) (zu:Weighted→Weighted→Bool×Int) (zdy:Sound Tryz.prog base 144 (zO zm)) (zgB:Sound Tryz.prog base 145 (zcB zp)) (zeD:Sound Tryz.prog base 146 (zW zr)) (zit:Sound Tryz.prog base 147 (zcz zu)):Sound Tryz.prog base 110 (zeF (znt zm zp zr zu)):=
 zt (cx':=(zto zm zp zr zu)) zG zn zD (zw ⟨zcn,zjP,zlj,zdy,zgB,zeD,zit,trivial⟩) Tryz.call110 Tryz.func110 (c:=body Tryz.f110) (by kernel_rfl) (zi (l:=[]) (by kernel_rfl) trivial) (sg:=⟨[.pure],[]⟩) (A:=znd) (res:=zlS) (W:=fun x=>zlT zm zp zr zu x.1 x.2.1) (z:=default)
def zrr (zbs:Atom→Atom→Bool×Int):Cx ty:=mkCx base 17 [(110,(zeF zbs)),(121,ziy),(122,zjk)] [] [] [] [] []
def zkW (zbs:Atom→Atom→Bool×Int) (a:Factor) (b:Factor):Wy0 (Int):=.bn (zbs (Atom.mk a.Atom.Kind a.Atom.Row a.Atom.Args a.Atom.Func a.Atom.Items a.Atom.Op a.Atom.Bound) (Atom.mk b.Atom.Kind b.Atom.Row b.Atom.Args b.Atom.Func b.Atom.Items b.Atom.Op b.Atom.Bound)) fun r2=>.bn (zc4 a.Exp b.Exp) fun r1=>.bn (zjr [r2,r1]) fun r0=>.k r0
def zl2 (zbs:Atom→Atom→Bool×Int) (a:Factor) (b:Factor):Bool×Int:=(zkW zbs a b).fin default
theorem zo1 (zbs:Atom→Atom→Bool×Int) (ztI:Sound Tryz.prog base 110 (zeF zbs)):Sound Tryz.prog base 143 (zcR (zl2 zbs)):=
 zt (cx':=(zrr zbs)) zG zn zD (zw ⟨ztI,zjP,zlj,trivial⟩) Tryz.call143 Tryz.func143 (c:=body Tryz.f143) (by kernel_rfl) (zi (l:=[]) (by kernel_rfl) trivial) (sg:=⟨[.pure],[]⟩) (A:=zl6) (res:=zkY) (W:=fun x=>zkW zbs x.1 x.2.1) (z:=default)
def ztf (zp:List Term→List Term→Bool×Int):Cx ty:=mkCx base 17 [(79,zcd),(121,ziy),(145,(zcB zp))] [] [] [] [] []
def zlR (zp:List Term→List Term→Bool×Int) (a:Weighted) (b:Weighted):Wy0 (Int):=.bn (zbL a.Value b.Value) fun r2=>.bn (zp a.Ann b.Ann) fun r1=>.bn (zjr [r2,r1]) fun r0=>.k r0
def zm8 (zp:List Term→List Term→Bool×Int) (a:Weighted) (b:Weighted):Bool×Int:=(zlR zp a b).fin default
theorem zq5 (zp:List Term→List Term→Bool×Int) (zgB:Sound Tryz.prog base 145 (zcB zp)):Sound Tryz.prog base 147 (zcz (zm8 zp)):=
 zt (cx':=(ztf zp)) zG zn zD (zw ⟨zcn,zjP,zgB,trivial⟩) Tryz.call147 Tryz.func147 (c:=body Tryz.f147) (by kernel_rfl) (zi (l:=[]) (by kernel_rfl) trivial) (sg:=⟨[.pure],[]⟩) (A:=znC) (res:=zlV) (W:=fun x=>zlR zp x.1 x.2.1) (z:=default)
def ztw (zC:List Factor→List Factor→Bool×Int) (zo:Factor→Factor→Bool×Int):Cx ty:=mkCx base 10 [(142,(z8 zC)),(143,(zcR zo))] [] [] [] [] []
def zl0 (zC:List Factor→List Factor→Bool×Int) (zo:Factor→Factor→Bool×Int) (a:Term) (b:Term):Wy0 (Int):=.bn (zC a.Factors b.Factors) fun r0=>.k r0
def znk (zC:List Factor→List Factor→Bool×Int) (zo:Factor→Factor→Bool×Int) (a:Term) (b:Term):Bool×Int:=(zl0 zC zo a b).fin default
theorem zrb (zC:List Factor→List Factor→Bool×Int) (zo:Factor→Factor→Bool×Int) (zf6:Sound Tryz.prog base 142 (z8 zC)) (zhB:Sound Tryz.prog base 143 (zcR zo)):Sound Tryz.prog base 108 (zeU (znk zC zo)):=
 zt (cx':=(ztw zC zo)) zG zn zD (zw ⟨zf6,zhB,trivial⟩) Tryz.call108 Tryz.func108 (c:=body Tryz.f108) (by kernel_rfl) (zi (l:=[]) (by kernel_rfl) trivial) (sg:=⟨[.pure],[]⟩) (A:=znz) (res:=zlN) (W:=fun x=>zl0 zC zo x.1 x.2.1) (z:=default)
abbrev ttTslicesCompareFuncLapiAnnotationLapiAnnotationapiAnnotationapiAnnotation0:=List (List Term)×List (List Term)×Unit×List (List Term)×Int×Int×Unit
abbrev ttTslicesCompareFuncLapiAnnotationLapiAnnotationapiAnnotationapiAnnotation1:=Int⊕(List (List Term)×List (List Term))
def zdu (zp:List Term→List Term→Bool×Int) (s1:List (List Term)) (s2:List (List Term)) (t11:List (List Term)) (t12:Int) (t13:Int):Wy ttTslicesCompareFuncLapiAnnotationLapiAnnotationapiAnnotationapiAnnotation0 (Unit) ttTslicesCompareFuncLapiAnnotationLapiAnnotationapiAnnotationapiAnnotation1:=.i (decide (t13<t12)) (.i (decide (0≤t13)&&decide (t13<Int.ofNat t11.length)) (.i (decide (t13≥Int.ofNat s2.length)) (.k (.inl 1)) (.i (decide (0≤t13)&&decide (t13<Int.ofNat s2.length)) (.bn (zp (t11.getD t13.toNat default) (s2.getD t13.toNat default)) fun r0=>.i (r0 != 0) (.k (.inl (r0))) (.h (s1,s2,(),t11,t12,(IntKind.i64.wrap (t13+1)),()) ())) .d)) .d) (.k (.inr (s1,s2)))
def zX (zp:List Term→List Term→Bool×Int) (x:ttTslicesCompareFuncLapiAnnotationLapiAnnotationapiAnnotationapiAnnotation0) (y:Unit):Wy ttTslicesCompareFuncLapiAnnotationLapiAnnotationapiAnnotationapiAnnotation0 (Unit) ttTslicesCompareFuncLapiAnnotationLapiAnnotationapiAnnotationapiAnnotation1:=zdu zp x.1 x.2.1 x.2.2.2.1 x.2.2.2.2.1 x.2.2.2.2.2.1
def zdt (zp:List Term→List Term→Bool×Int) (n:Nat) (s1:List (List Term)) (s2:List (List Term)) (t11:List (List Term)) (t12:Int) (t13:Int):Bool×ttTslicesCompareFuncLapiAnnotationLapiAnnotationapiAnnotationapiAnnotation1:=zN (zX zp) (.inl default) n (s1,s2,(),t11,t12,t13,()) ()
def zby (r:ttTslicesCompareFuncLapiAnnotationLapiAnnotationapiAnnotationapiAnnotation1):LTree ty:=.ite (isL r) (.done .ret [.lit (.int .i64 (getL r))] []) (.done (.exit 0) [.sl 36 (getR r).1,.sl 36 (getR r).2] [])
def zbE:LL ty ttTslicesCompareFuncLapiAnnotationLapiAnnotationapiAnnotationapiAnnotation0:=za (lSl 36) (za (lSl 36) (za (lFn 145 (zy)) (za (lSl 36) (za (lInt .i64) (za (lInt .i64) zy)))))
def zbD:BL ty (Unit):=bNil
def zbx (x:ttTslicesCompareFuncLapiAnnotationLapiAnnotationapiAnnotationapiAnnotation0) (y:Unit):Nat:=(x.1.length+x.2.1.length+x.2.2.2.1.length+Int.toNat x.2.2.2.2.1+Int.toNat x.2.2.2.2.2.1+1000)
def zbB (zp:List Term→List Term→Bool×Int):Cx ty:=mkCx base 39 [(145,(zcB zp))] [] [(2,[(0,.keep),(1,.keep),(2,.keep),(11,.keep),(12,.keep),(13,.keep)])] [(2,1,[(0,.keep),(1,.keep)]),(2,0,[(6,.keep)])] [(2,spW zbE zbD (zX zp) (.inl default) zby zbx)] []
theorem zdk (zp:List Term→List Term→Bool×Int):zZ (zbB zp) (lp (body Tryz.f144) 0):=zP (id:=2) (V:=zbE) (B:=zbD) (W:=zX zp) (z:=.inl default) (tr:=zby) (m:=zbx)
def zbJ (zp:List Term→List Term→Bool×Int) (s1:List (List Term)) (s2:List (List Term)):Wy0 (Int):=.bn (zdt zp (s1.length+s2.length+s1.length+(Int.ofNat s1.length).toNat +Int.toNat 0+1000) s1 s2 s1 (Int.ofNat s1.length) 0) fun r2=>.i (isL r2) (.k (getL r2)) (.i (decide (Int.ofNat (getR r2).1.length<Int.ofNat (getR r2).2.length)) (.k (-1:Int)) (.k 0))
def zbM (zp:List Term→List Term→Bool×Int) (s1:List (List Term)) (s2:List (List Term)):Bool×Int:=(zbJ zp s1 s2).fin default
theorem zdd (zp:List Term→List Term→Bool×Int) (zgB:Sound Tryz.prog base 145 (zcB zp)):Sound Tryz.prog base 144 (zO (zbM zp)):=
 zt (cx':=(zbB zp)) zG zn zD (zw ⟨zgB,trivial⟩) Tryz.call144 Tryz.func144 (c:=body Tryz.f144) (by kernel_rfl) (zi (l:=[lp (body Tryz.f144) 0]) (by kernel_rfl) ⟨zdk zp,trivial⟩) (sg:=⟨[.pure],[]⟩) (A:=zbN) (res:=zbF) (W:=fun x=>zbJ zp x.1 x.2.1) (z:=default)
abbrev ttTslicesCompareFuncLapiFactorLapiFactorapiFactorapiFactor0:=List Factor×List Factor×Unit×List Factor×Int×Int×Unit
abbrev ttTslicesCompareFuncLapiFactorLapiFactorapiFactorapiFactor1:=Int⊕(List Factor×List Factor)
def zfS (zo:Factor→Factor→Bool×Int) (s1:List Factor) (s2:List Factor) (t11:List Factor) (t12:Int) (t13:Int):Wy ttTslicesCompareFuncLapiFactorLapiFactorapiFactorapiFactor0 (Unit) ttTslicesCompareFuncLapiFactorLapiFactorapiFactorapiFactor1:=.i (decide (t13<t12)) (.i (decide (0≤t13)&&decide (t13<Int.ofNat t11.length)) (.i (decide (t13≥Int.ofNat s2.length)) (.k (.inl 1)) (.i (decide (0≤t13)&&decide (t13<Int.ofNat s2.length)) (.bn (zo (FactorOf.mk (Atom.mk (t11.getD t13.toNat default).Atom.Kind (t11.getD t13.toNat default).Atom.Row (t11.getD t13.toNat default).Atom.Args (t11.getD t13.toNat default).Atom.Func (t11.getD t13.toNat default).Atom.Items (t11.getD t13.toNat default).Atom.Op (t11.getD t13.toNat default).Atom.Bound) (t11.getD t13.toNat default).Exp) (FactorOf.mk (Atom.mk (s2.getD t13.toNat default).Atom.Kind (s2.getD t13.toNat default).Atom.Row (s2.getD t13.toNat default).Atom.Args (s2.getD t13.toNat default).Atom.Func (s2.getD t13.toNat default).Atom.Items (s2.getD t13.toNat default).Atom.Op (s2.getD t13.toNat default).Atom.Bound) (s2.getD t13.toNat default).Exp)) fun r0=>.i (r0 != 0) (.k (.inl (r0))) (.h (s1,s2,(),t11,t12,(IntKind.i64.wrap (t13+1)),()) ())) .d)) .d) (.k (.inr (s1,s2)))
def zbp (zo:Factor→Factor→Bool×Int) (x:ttTslicesCompareFuncLapiFactorLapiFactorapiFactorapiFactor0) (y:Unit):Wy ttTslicesCompareFuncLapiFactorLapiFactorapiFactorapiFactor0 (Unit) ttTslicesCompareFuncLapiFactorLapiFactorapiFactorapiFactor1:=zfS zo x.1 x.2.1 x.2.2.2.1 x.2.2.2.2.1 x.2.2.2.2.2.1
def zfU (zo:Factor→Factor→Bool×Int) (n:Nat) (s1:List Factor) (s2:List Factor) (t11:List Factor) (t12:Int) (t13:Int):Bool×ttTslicesCompareFuncLapiFactorLapiFactorapiFactorapiFactor1:=zN (zbp zo) (.inl default) n (s1,s2,(),t11,t12,t13,()) ()
def zcl (r:ttTslicesCompareFuncLapiFactorLapiFactorapiFactorapiFactor1):LTree ty:=.ite (isL r) (.done .ret [.lit (.int .i64 (getL r))] []) (.done (.exit 0) [.sl 160 (getR r).1,.sl 160 (getR r).2] [])
def zco:LL ty ttTslicesCompareFuncLapiFactorLapiFactorapiFactorapiFactor0:=za (lSl 160) (za (lSl 160) (za (lFn 143 (zy)) (za (lSl 160) (za (lInt .i64) (za (lInt .i64) zy)))))
def zcq:BL ty (Unit):=bNil
def zcm (x:ttTslicesCompareFuncLapiFactorLapiFactorapiFactorapiFactor0) (y:Unit):Nat:=(x.1.length+x.2.1.length+x.2.2.2.1.length+Int.toNat x.2.2.2.2.1+Int.toNat x.2.2.2.2.2.1+1000)
def zcp (zo:Factor→Factor→Bool×Int):Cx ty:=mkCx base 39 [(143,(zcR zo))] [] [(2,[(0,.keep),(1,.keep),(2,.keep),(11,.keep),(12,.keep),(13,.keep)])] [(2,1,[(0,.keep),(1,.keep)]),(2,0,[(6,.keep)])] [(2,spW zco zcq (zbp zo) (.inl default) zcl zcm)] []
theorem zfM (zo:Factor→Factor→Bool×Int):zZ (zcp zo) (lp (body Tryz.f142) 0):=zP (id:=2) (V:=zco) (B:=zcq) (W:=zbp zo) (z:=.inl default) (tr:=zcl) (m:=zcm)
def zct (zo:Factor→Factor→Bool×Int) (s1:List Factor) (s2:List Factor):Wy0 (Int):=.bn (zfU zo (s1.length+s2.length+s1.length+(Int.ofNat s1.length).toNat +Int.toNat 0+1000) s1 s2 s1 (Int.ofNat s1.length) 0) fun r2=>.i (isL r2) (.k (getL r2)) (.i (decide (Int.ofNat (getR r2).1.length<Int.ofNat (getR r2).2.length)) (.k (-1:Int)) (.k 0))
def zcD (zo:Factor→Factor→Bool×Int) (s1:List Factor) (s2:List Factor):Bool×Int:=(zct zo s1 s2).fin default
theorem zfb (zo:Factor→Factor→Bool×Int) (zhB:Sound Tryz.prog base 143 (zcR zo)):Sound Tryz.prog base 142 (z8 (zcD zo)):=
 zt (cx':=(zcp zo)) zG zn zD (zw ⟨zhB,trivial⟩) Tryz.call142 Tryz.func142 (c:=body Tryz.f142) (by kernel_rfl) (zi (l:=[lp (body Tryz.f142) 0]) (by kernel_rfl) ⟨zfM zo,trivial⟩) (sg:=⟨[.pure],[]⟩) (A:=zcE) (res:=zcx) (W:=fun x=>zct zo x.1 x.2.1) (z:=default)
abbrev ttTslicesCompareFuncLapiWeightedLapiWeightedapiWeightedapiWeighted0:=List Weighted×List Weighted×Unit×List Weighted×Int×Int×Unit
abbrev ttTslicesCompareFuncLapiWeightedLapiWeightedapiWeightedapiWeighted1:=Int⊕(List Weighted×List Weighted)
def zen (zu:Weighted→Weighted→Bool×Int) (s1:List Weighted) (s2:List Weighted) (t11:List Weighted) (t12:Int) (t13:Int):Wy ttTslicesCompareFuncLapiWeightedLapiWeightedapiWeightedapiWeighted0 (Unit) ttTslicesCompareFuncLapiWeightedLapiWeightedapiWeightedapiWeighted1:=.i (decide (t13<t12)) (.i (decide (0≤t13)&&decide (t13<Int.ofNat t11.length)) (.i (decide (t13≥Int.ofNat s2.length)) (.k (.inl 1)) (.i (decide (0≤t13)&&decide (t13<Int.ofNat s2.length)) (.bn (zu (t11.getD t13.toNat default) (s2.getD t13.toNat default)) fun r0=>.i (r0 != 0) (.k (.inl (r0))) (.h (s1,s2,(),t11,t12,(IntKind.i64.wrap (t13+1)),()) ())) .d)) .d) (.k (.inr (s1,s2)))
def zbc (zu:Weighted→Weighted→Bool×Int) (x:ttTslicesCompareFuncLapiWeightedLapiWeightedapiWeightedapiWeighted0) (y:Unit):Wy ttTslicesCompareFuncLapiWeightedLapiWeightedapiWeightedapiWeighted0 (Unit) ttTslicesCompareFuncLapiWeightedLapiWeightedapiWeightedapiWeighted1:=zen zu x.1 x.2.1 x.2.2.2.1 x.2.2.2.2.1 x.2.2.2.2.2.1
def zeo (zu:Weighted→Weighted→Bool×Int) (n:Nat) (s1:List Weighted) (s2:List Weighted) (t11:List Weighted) (t12:Int) (t13:Int):Bool×ttTslicesCompareFuncLapiWeightedLapiWeightedapiWeightedapiWeighted1:=zN (zbc zu) (.inl default) n (s1,s2,(),t11,t12,t13,()) ()
def zbT (r:ttTslicesCompareFuncLapiWeightedLapiWeightedapiWeightedapiWeighted1):LTree ty:=.ite (isL r) (.done .ret [.lit (.int .i64 (getL r))] []) (.done (.exit 0) [.sl 182 (getR r).1,.sl 182 (getR r).2] [])
def zbW:LL ty ttTslicesCompareFuncLapiWeightedLapiWeightedapiWeightedapiWeighted0:=za (lSl 182) (za (lSl 182) (za (lFn 147 (zy)) (za (lSl 182) (za (lInt .i64) (za (lInt .i64) zy)))))
def zbV:BL ty (Unit):=bNil
def zbU (x:ttTslicesCompareFuncLapiWeightedLapiWeightedapiWeightedapiWeighted0) (y:Unit):Nat:=(x.1.length+x.2.1.length+x.2.2.2.1.length+Int.toNat x.2.2.2.2.1+Int.toNat x.2.2.2.2.2.1+1000)
def zbX (zu:Weighted→Weighted→Bool×Int):Cx ty:=mkCx base 39 [(147,(zcz zu))] [] [(2,[(0,.keep),(1,.keep),(2,.keep),(11,.keep),(12,.keep),(13,.keep)])] [(2,1,[(0,.keep),(1,.keep)]),(2,0,[(6,.keep)])] [(2,spW zbW zbV (zbc zu) (.inl default) zbT zbU)] []
theorem zej (zu:Weighted→Weighted→Bool×Int):zZ (zbX zu) (lp (body Tryz.f146) 0):=zP (id:=2) (V:=zbW) (B:=zbV) (W:=zbc zu) (z:=.inl default) (tr:=zbT) (m:=zbU)
def zb0 (zu:Weighted→Weighted→Bool×Int) (s1:List Weighted) (s2:List Weighted):Wy0 (Int):=.bn (zeo zu (s1.length+s2.length+s1.length+(Int.ofNat s1.length).toNat +Int.toNat 0+1000) s1 s2 s1 (Int.ofNat s1.length) 0) fun r2=>.i (isL r2) (.k (getL r2)) (.i (decide (Int.ofNat (getR r2).1.length<Int.ofNat (getR r2).2.length)) (.k (-1:Int)) (.k 0))
def zb8 (zu:Weighted→Weighted→Bool×Int) (s1:List Weighted) (s2:List Weighted):Bool×Int:=(zb0 zu s1 s2).fin default
theorem zd5 (zu:Weighted→Weighted→Bool×Int) (zit:Sound Tryz.prog base 147 (zcz zu)):Sound Tryz.prog base 146 (zW (zb8 zu)):=
 zt (cx':=(zbX zu)) zG zn zD (zw ⟨zit,trivial⟩) Tryz.call146 Tryz.func146 (c:=body Tryz.f146) (by kernel_rfl) (zi (l:=[lp (body Tryz.f146) 0]) (by kernel_rfl) ⟨zej zu,trivial⟩) (sg:=⟨[.pure],[]⟩) (A:=zb7) (res:=zb1) (W:=fun x=>zb0 zu x.1 x.2.1) (z:=default)
abbrev ttTslicesCompareFuncapiAnnotationapiAnnotationapiTermapiTerm0:=List Term×List Term×Unit×List Term×Int×Int×Unit
abbrev ttTslicesCompareFuncapiAnnotationapiAnnotationapiTermapiTerm1:=Int⊕(List Term×List Term)
def zfu (zB:Term→Term→Bool×Int) (s1:List Term) (s2:List Term) (t11:List Term) (t12:Int) (t13:Int):Wy ttTslicesCompareFuncapiAnnotationapiAnnotationapiTermapiTerm0 (Unit) ttTslicesCompareFuncapiAnnotationapiAnnotationapiTermapiTerm1:=.i (decide (t13<t12)) (.i (decide (0≤t13)&&decide (t13<Int.ofNat t11.length)) (.i (decide (t13≥Int.ofNat s2.length)) (.k (.inl 1)) (.i (decide (0≤t13)&&decide (t13<Int.ofNat s2.length)) (.bn (zB (t11.getD t13.toNat default) (s2.getD t13.toNat default)) fun r0=>.i (r0 != 0) (.k (.inl (r0))) (.h (s1,s2,(),t11,t12,(IntKind.i64.wrap (t13+1)),()) ())) .d)) .d) (.k (.inr (s1,s2)))
def zbk (zB:Term→Term→Bool×Int) (x:ttTslicesCompareFuncapiAnnotationapiAnnotationapiTermapiTerm0) (y:Unit):Wy ttTslicesCompareFuncapiAnnotationapiAnnotationapiTermapiTerm0 (Unit) ttTslicesCompareFuncapiAnnotationapiAnnotationapiTermapiTerm1:=zfu zB x.1 x.2.1 x.2.2.2.1 x.2.2.2.2.1 x.2.2.2.2.2.1
def zfv (zB:Term→Term→Bool×Int) (n:Nat) (s1:List Term) (s2:List Term) (t11:List Term) (t12:Int) (t13:Int):Bool×ttTslicesCompareFuncapiAnnotationapiAnnotationapiTermapiTerm1:=zN (zbk zB) (.inl default) n (s1,s2,(),t11,t12,t13,()) ()
def zcc (r:ttTslicesCompareFuncapiAnnotationapiAnnotationapiTermapiTerm1):LTree ty:=.ite (isL r) (.done .ret [.lit (.int .i64 (getL r))] []) (.done (.exit 0) [.sl 152 (getR r).1,.sl 152 (getR r).2] [])
def zch:LL ty ttTslicesCompareFuncapiAnnotationapiAnnotationapiTermapiTerm0:=za (lSl 152) (za (lSl 152) (za (lFn 198 (zy)) (za (lSl 152) (za (lInt .i64) (za (lInt .i64) zy)))))
def zcf:BL ty (Unit):=bNil
def zce (x:ttTslicesCompareFuncapiAnnotationapiAnnotationapiTermapiTerm0) (y:Unit):Nat:=(x.1.length+x.2.1.length+x.2.2.2.1.length+Int.toNat x.2.2.2.2.1+Int.toNat x.2.2.2.2.2.1+1000)
def zcg (zB:Term→Term→Bool×Int):Cx ty:=mkCx base 39 [(198,(zd3 zB))] [] [(2,[(0,.keep),(1,.keep),(2,.keep),(11,.keep),(12,.keep),(13,.keep)])] [(2,1,[(0,.keep),(1,.keep)]),(2,0,[(6,.keep)])] [(2,spW zch zcf (zbk zB) (.inl default) zcc zce)] []
theorem zfs (zB:Term→Term→Bool×Int):zZ (zcg zB) (lp (body Tryz.f197) 0):=zP (id:=2) (V:=zch) (B:=zcf) (W:=zbk zB) (z:=.inl default) (tr:=zcc) (m:=zce)
def zcj (zB:Term→Term→Bool×Int) (s1:List Term) (s2:List Term):Wy0 (Int):=.bn (zfv zB (s1.length+s2.length+s1.length+(Int.ofNat s1.length).toNat +Int.toNat 0+1000) s1 s2 s1 (Int.ofNat s1.length) 0) fun r2=>.i (isL r2) (.k (getL r2)) (.i (decide (Int.ofNat (getR r2).1.length<Int.ofNat (getR r2).2.length)) (.k (-1:Int)) (.k 0))
def zcv (zB:Term→Term→Bool×Int) (s1:List Term) (s2:List Term):Bool×Int:=(zcj zB s1 s2).fin default
theorem zeY (zB:Term→Term→Bool×Int) (zjg:Sound Tryz.prog base 198 (zd3 zB)):Sound Tryz.prog base 197 (zY (zcv zB)):=
 zt (cx':=(zcg zB)) zG zn zD (zw ⟨zjg,trivial⟩) Tryz.call197 Tryz.func197 (c:=body Tryz.f197) (by kernel_rfl) (zi (l:=[lp (body Tryz.f197) 0]) (by kernel_rfl) ⟨zfs zB,trivial⟩) (sg:=⟨[.pure],[]⟩) (A:=zcw) (res:=zck) (W:=fun x=>zcj zB x.1 x.2.1) (z:=default)
def zbi:Nat→(List Term→List Term→Bool×Int)×(Term→Term→Bool×Int)×(Term→Term→Bool×Int)×(Factor→Factor→Bool×Int)×(Atom→Atom→Bool×Int)×(Weighted→Weighted→Bool×Int)×(List Term→List Term→Bool×Int)×(List Factor→List Factor→Bool×Int)×(List (List Term)→List (List Term)→Bool×Int)×(List Weighted→List Weighted→Bool×Int)
 | 0=>(fun _ _=>(false,default),fun _ _=>(false,default),fun _ _=>(false,default),fun _ _=>(false,default),fun _ _=>(false,default),fun _ _=>(false,default),fun _ _=>(false,default),fun _ _=>(false,default),fun _ _=>(false,default),fun _ _=>(false,default))
 | n+1=>(zsc ((zbi n).2.2.2.2.2.2.1) ((zbi n).2.1),zoH ((zbi n).2.2.1),znk ((zbi n).2.2.2.2.2.2.2.1) ((zbi n).2.2.2.1),zl2 ((zbi n).2.2.2.2.1),znt ((zbi n).2.2.2.2.2.2.2.2.1) ((zbi n).1) ((zbi n).2.2.2.2.2.2.2.2.2) ((zbi n).2.2.2.2.2.1),zm8 ((zbi n).1),zcv ((zbi n).2.1),zcD ((zbi n).2.2.2.1),zbM ((zbi n).1),zb8 ((zbi n).2.2.2.2.2.1))
def zrn (n:Nat):List Term→List Term→Bool×Int:=(zbi n).1
def zwH (n:Nat):Term→Term→Bool×Int:=(zbi n).2.1
def zns (n:Nat):Term→Term→Bool×Int:=(zbi n).2.2.1
def zub (n:Nat):Factor→Factor→Bool×Int:=(zbi n).2.2.2.1
def znb (n:Nat):Atom→Atom→Bool×Int:=(zbi n).2.2.2.2.1
def znr (n:Nat):Weighted→Weighted→Bool×Int:=(zbi n).2.2.2.2.2.1
def zf7 (n:Nat):List Term→List Term→Bool×Int:=(zbi n).2.2.2.2.2.2.1
def zgE (n:Nat):List Factor→List Factor→Bool×Int:=(zbi n).2.2.2.2.2.2.2.1
def zdS (n:Nat):List (List Term)→List (List Term)→Bool×Int:=(zbi n).2.2.2.2.2.2.2.2.1
def ze0 (n:Nat):List Weighted→List Weighted→Bool×Int:=(zbi n).2.2.2.2.2.2.2.2.2
theorem zmH:∀ n,Sound Tryz.prog base 145 (zcB (zrn n))∧Sound Tryz.prog base 198 (zd3 (zwH n))∧Sound Tryz.prog base 108 (zeU (zns n))∧Sound Tryz.prog base 143 (zcR (zub n))∧Sound Tryz.prog base 110 (zeF (znb n))∧Sound Tryz.prog base 147 (zcz (znr n))∧Sound Tryz.prog base 197 (zY (zf7 n))∧Sound Tryz.prog base 142 (z8 (zgE n))∧Sound Tryz.prog base 144 (zO (zdS n))∧Sound Tryz.prog base 146 (zW (ze0 n))
 | 0=>⟨zbe Tryz.call145 (fun _=>rfl),zbe Tryz.call198 (fun _=>rfl),zbe Tryz.call108 (fun _=>rfl),zbe Tryz.call143 (fun _=>rfl),zbe Tryz.call110 (fun _=>rfl),zbe Tryz.call147 (fun _=>rfl),zbe Tryz.call197 (fun _=>rfl),zbe Tryz.call142 (fun _=>rfl),zbe Tryz.call144 (fun _=>rfl),zbe Tryz.call146 (fun _=>rfl)⟩
 | n+1=>by
  have ih:=zmH n
  exact ⟨zun _ _ (ih.2.2.2.2.2.2.1) (ih.2.1),zss _ (ih.2.2.1),zrb _ _ (ih.2.2.2.2.2.2.2.1) (ih.2.2.2.1),zo1 _ (ih.2.2.2.2.1),zq3 _ _ _ _ (ih.2.2.2.2.2.2.2.2.1) (ih.1) (ih.2.2.2.2.2.2.2.2.2) (ih.2.2.2.2.2.1),zq5 _ (ih.1),zeY _ (ih.2.1),zfb _ (ih.2.2.2.1),zdd _ (ih.1),zd5 _ (ih.2.2.2.2.2.1)⟩
def ztX:List Term→List Term→Bool×Int:=zrn 1000
def annotation_Compare_spec:Ab.Spec ty:=zcB ztX
theorem zvV:Sound Tryz.prog base 145 annotation_Compare_spec:=(zmH 1000).1
def zoF:Term→Term→Bool×Int:=zns 1000
def annotation_compareLists_spec:Ab.Spec ty:=zeU zoF
theorem zst:Sound Tryz.prog base 108 annotation_compareLists_spec:=(zmH 1000).2.2.1
def zkc:Atom→Atom→Bool×Int:=znb 1000
def annotation_compareAtoms_spec:Ab.Spec ty:=zeF zkc
theorem zsu:Sound Tryz.prog base 110 annotation_compareAtoms_spec:=(zmH 1000).2.2.2.2.1
def zop:Weighted→Weighted→Bool×Int:=znr 1000
def annotation_compareItems_spec:Ab.Spec ty:=zcz zop
theorem zk3:Sound Tryz.prog base 147 annotation_compareItems_spec:=(zmH 1000).2.2.2.2.2.1
def zre (r:Bool):ARes ty:=⟨[.pure (.lit (.bool r))],[]⟩
def ztY:AL base (List Term×Unit):=zg (zh (vSl 152)) aNil
def zfq (F:List Term→Bool×Bool):Ab.Spec ty:=zl ztY fun x=>((F x.1).1,zre (F x.1).2)
def zbt (r:Bool):ARes ty:=⟨[.pure (.lit (.bool r))],[]⟩
def zpB:AL base (Atom×Unit):=zg (zh (vAgg 158)) aNil
def zid (F:Atom→Bool×Bool):Ab.Spec ty:=zl zpB fun x=>((F x.1).1,zbt (F x.1).2)
def zlW (r:Bool):ARes ty:=⟨[.pure (.lit (.bool r))],[]⟩
def znl:AL base (List Term×Unit):=zg (zh (vSl 152)) aNil
def zb3 (F:List Term→Bool×Bool):Ab.Spec ty:=zl znl fun x=>((F x.1).1,zlW (F x.1).2)
def zlQ (r:Bool):ARes ty:=⟨[.pure (.lit (.bool r))],[]⟩
def zny:AL base (Weighted×Unit):=zg (zh (vAgg 182)) aNil
def zb2 (F:Weighted→Bool×Bool):Ab.Spec ty:=zl zny fun x=>((F x.1).1,zlQ (F x.1).2)
def zd1 (r:Int):ARes ty:=⟨[.pure (.lit (.int .i64 r))],[]⟩
def zei:AL base (List (List Term)×Unit×Unit):=zg (zh (vSl 36)) (zg (zh (vFn 149 vNil)) aNil)
def zbv (F:List (List Term)→Bool×Int):Ab.Spec ty:=zl zei fun x=>((F x.1).1,zd1 (F x.1).2)
def zdn (r:Bool):ARes ty:=⟨[.pure (.lit (.bool r))],[]⟩
def zdR:AL base (List (List Term)×Unit×Unit):=zg (zh (vSl 36)) (zg (zh (vFn 149 vNil)) aNil)
def zbr (F:List (List Term)→Bool×Bool):Ab.Spec ty:=zl zdR fun x=>((F x.1).1,zdn (F x.1).2)
def zeH (r:Int):ARes ty:=⟨[.pure (.lit (.int .i64 r))],[]⟩
def zfd:AL base (List Weighted×Unit×Unit):=zg (zh (vSl 182)) (zg (zh (vFn 156 vNil)) aNil)
def zbS (F:List Weighted→Bool×Int):Ab.Spec ty:=zl zfd fun x=>((F x.1).1,zeH (F x.1).2)
def zec (r:Bool):ARes ty:=⟨[.pure (.lit (.bool r))],[]⟩
def zez:AL base (List Weighted×Unit×Unit):=zg (zh (vSl 182)) (zg (zh (vFn 156 vNil)) aNil)
def zbC (F:List Weighted→Bool×Bool):Ab.Spec ty:=zl zez fun x=>((F x.1).1,zec (F x.1).2)
def zvL:Cx ty:=mkCx base 11 [] [] [] [] [] []
def zos (x_:Atom):Wy0 (Bool):=.i (x_.Kind==3) (.k true) (.k (x_.Kind==4))
def ziD (x_:Atom):Bool×Bool:=(zos x_).fin default
def znA (r:Bool):ARes ty:=⟨[.pure (.lit (.bool r))],[]⟩
def zot:AL base (Atom×Unit):=zg (zh (vAgg 158)) aNil
def ziT:Ab.Spec ty:=zl zot fun x=>((ziD x.1).1,znA (ziD x.1).2)
theorem zlH:Sound Tryz.prog base 109 ziT:=
 zt (cx':=zvL) zG zn zD (zw trivial) Tryz.call109 Tryz.func109 (c:=body Tryz.f109) (by kernel_rfl) (zi (l:=[]) (by kernel_rfl) trivial) (sg:=⟨[.pure],[]⟩) (A:=zot) (res:=znA) (W:=fun x=>zos x.1) (z:=default)
def zsF (r:Int):ARes ty:=⟨[.pure (.lit (.int .i64 r))],[]⟩
def zuT:AL base (List Term×Unit):=zg (zh (vSl 152)) aNil
def ziY (F:List Term→Bool×Int):Ab.Spec ty:=zl zuT fun x=>((F x.1).1,zsF (F x.1).2)
abbrev ttTannotationSize0:=Int×Unit×List Term×Int×Int×List Factor×Int×Int×List (List Term)×Int×Int×Unit
abbrev ttTannotationSize1:=Int×List Term×Int×Int×List Factor×Int×Int×Factor
abbrev ttTannotationSize2:=Int×List Term×Int×Int×List Factor×Int×Int×List Weighted×Int×Int×Unit
abbrev ttTannotationSize3:=Int×List Term×Int×Int×List Factor×Int×Int
abbrev ttTannotationSize4:=Int×List Term×Int×Int×List Factor×Int×Int×Unit
abbrev ttTannotationSize5:=Int×List Term×Int×Int
abbrev ttTannotationSize6:=Int×List Term×Int×Int×Unit
def zzf (zk:List Term→Bool×Int) (n_:Int) (t12:List Term) (t13:Int) (t14:Int) (t25:List Factor) (t26:Int) (t27:Int) (t33:List (List Term)) (t34:Int) (t35:Int) (f:Factor):Wy ttTannotationSize0 (Factor×Unit) ttTannotationSize1:=.i (decide (t35<t34)) (.i (decide (0≤t35)&&decide (t35<Int.ofNat t33.length)) (.bn (zk (t33.getD t35.toNat default)) fun r0=>.h ((IntKind.i64.wrap (n_+r0)),(),t12,t13,t14,t25,t26,t27,t33,t34,(IntKind.i64.wrap (t35+1)),()) (f,())) .d) (.k (n_,t12,t13,t14,t25,t26,t27,f))
def zlm (zk:List Term→Bool×Int) (x:ttTannotationSize0) (y:Factor×Unit):Wy ttTannotationSize0 (Factor×Unit) ttTannotationSize1:=zzf zk x.1 x.2.2.1 x.2.2.2.1 x.2.2.2.2.1 x.2.2.2.2.2.1 x.2.2.2.2.2.2.1 x.2.2.2.2.2.2.2.1 x.2.2.2.2.2.2.2.2.1 x.2.2.2.2.2.2.2.2.2.1 x.2.2.2.2.2.2.2.2.2.2.1 y.1
def zza (zk:List Term→Bool×Int) (n:Nat) (n_:Int) (t12:List Term) (t13:Int) (t14:Int) (t25:List Factor) (t26:Int) (t27:Int) (t33:List (List Term)) (t34:Int) (t35:Int) (f:Factor):Bool×ttTannotationSize1:=zN (zlm zk) default n (n_,(),t12,t13,t14,t25,t26,t27,t33,t34,t35,()) (f,())
def zpp (r:ttTannotationSize1):LTree ty:=.done (.exit 4) [.lit (.int .i64 r.1),.ptr 248 0,.sl 152 r.2.1,.lit (.int .i64 r.2.2.1),.lit (.int .i64 r.2.2.2.1),.sl 160 r.2.2.2.2.1,.lit (.int .i64 r.2.2.2.2.2.1),.lit (.int .i64 r.2.2.2.2.2.2.1)] [.box (base.enc 160 r.2.2.2.2.2.2.2) false]
def zqn:LL ty ttTannotationSize0:=za (lInt .i64) (za (z6 248 0) (za (lSl 152) (za (lInt .i64) (za (lInt .i64) (za (lSl 160) (za (lInt .i64) (za (lInt .i64) (za (lSl 36) (za (lInt .i64) (za (lInt .i64) zy))))))))))
def zqW:BL ty (Factor×Unit):=bBox (zbj (fun x=>(⟨⟨x.1,⟨x.2.1,x.2.2.1⟩,x.2.2.2.1,x.2.2.2.2.1,x.2.2.2.2.2.1,x.2.2.2.2.2.2.1,⟨x.2.2.2.2.2.2.2.1,x.2.2.2.2.2.2.2.2.1,x.2.2.2.2.2.2.2.2.2.1⟩⟩,x.2.2.2.2.2.2.2.2.2.2.1⟩:Factor)) (fun x=>(x.Atom.Kind,x.Atom.Row.Table,x.Atom.Row.Seq,x.Atom.Args,x.Atom.Func,x.Atom.Items,x.Atom.Op,x.Atom.Bound.Kind,x.Atom.Bound.Int,x.Atom.Bound.Text,x.Exp,())) (fun _=>rfl) (za (lInt .i64) (za (lInt .i64) (za (lInt .i64) (za (lSl 36) (za (lInt .i64) (za (lSl 182) (za (lInt .i64) (za (lInt .i64) (za (lInt .i64) (za lStr (za (lInt .i64) zy)))))))))))) false (bNil)
def zyz (zk:List Term→Bool×Int) (n_:Int) (t12:List Term) (t13:Int) (t14:Int) (t25:List Factor) (t26:Int) (t27:Int) (t46:List Weighted) (t47:Int) (t48:Int):Wy ttTannotationSize2 (Unit) ttTannotationSize3:=.i (decide (t48<t47)) (.i (decide (0≤t48)&&decide (t48<Int.ofNat t46.length)) (.bn (zk (t46.getD t48.toNat default).Ann) fun r2=>.h ((IntKind.i64.wrap (n_+IntKind.i64.wrap (1+r2))),t12,t13,t14,t25,t26,t27,t46,t47,(IntKind.i64.wrap (t48+1)),()) ()) .d) (.k (n_,t12,t13,t14,t25,t26,t27))
def zlp (zk:List Term→Bool×Int) (x:ttTannotationSize2) (y:Unit):Wy ttTannotationSize2 (Unit) ttTannotationSize3:=zyz zk x.1 x.2.1 x.2.2.1 x.2.2.2.1 x.2.2.2.2.1 x.2.2.2.2.2.1 x.2.2.2.2.2.2.1 x.2.2.2.2.2.2.2.1 x.2.2.2.2.2.2.2.2.1 x.2.2.2.2.2.2.2.2.2.1
def zyh (zk:List Term→Bool×Int) (n:Nat) (n_:Int) (t12:List Term) (t13:Int) (t14:Int) (t25:List Factor) (t26:Int) (t27:Int) (t46:List Weighted) (t47:Int) (t48:Int):Bool×ttTannotationSize3:=zN (zlp zk) default n (n_,t12,t13,t14,t25,t26,t27,t46,t47,t48,()) ()
def zpk (r:ttTannotationSize3):LTree ty:=.done (.exit 6) [.lit (.int .i64 r.1),.sl 152 r.2.1,.lit (.int .i64 r.2.2.1),.lit (.int .i64 r.2.2.2.1),.sl 160 r.2.2.2.2.1,.lit (.int .i64 r.2.2.2.2.2.1),.lit (.int .i64 r.2.2.2.2.2.2)] []
def zqS:LL ty ttTannotationSize2:=za (lInt .i64) (za (lSl 152) (za (lInt .i64) (za (lInt .i64) (za (lSl 160) (za (lInt .i64) (za (lInt .i64) (za (lSl 182) (za (lInt .i64) (za (lInt .i64) zy)))))))))
def zqc:BL ty (Unit):=bNil
def zzB (zk:List Term→Bool×Int) (n_:Int) (t12:List Term) (t13:Int) (t14:Int) (t25:List Factor) (t26:Int) (t27:Int):Wy ttTannotationSize4 (Unit) ttTannotationSize5:=.i (decide (t27<t26)) (.i (decide (0≤t27)&&decide (t27<Int.ofNat t25.length)) (.bn (zza zk (n_.toNat +t12.length+t13.toNat +t14.toNat +t25.length+t26.toNat +t27.toNat +(t25.getD t27.toNat default).Atom.Args.length+(Int.ofNat (t25.getD t27.toNat default).Atom.Args.length).toNat +Int.toNat 0+(t25.getD t27.toNat default).Atom.Args.length+(t25.getD t27.toNat default).Atom.Items.length+1000) n_ t12 t13 t14 t25 t26 t27 (t25.getD t27.toNat default).Atom.Args (Int.ofNat (t25.getD t27.toNat default).Atom.Args.length) 0 (FactorOf.mk (Atom.mk (t25.getD t27.toNat default).Atom.Kind (t25.getD t27.toNat default).Atom.Row (t25.getD t27.toNat default).Atom.Args (t25.getD t27.toNat default).Atom.Func (t25.getD t27.toNat default).Atom.Items (t25.getD t27.toNat default).Atom.Op (t25.getD t27.toNat default).Atom.Bound) (t25.getD t27.toNat default).Exp)) fun r5=>.bn (zyh zk (r5.1.toNat +r5.2.1.length+r5.2.2.1.toNat +r5.2.2.2.1.toNat +r5.2.2.2.2.1.length+r5.2.2.2.2.2.1.toNat +r5.2.2.2.2.2.2.1.toNat +r5.2.2.2.2.2.2.2.Atom.Items.length+(Int.ofNat r5.2.2.2.2.2.2.2.Atom.Items.length).toNat +Int.toNat 0+1000) r5.1 r5.2.1 r5.2.2.1 r5.2.2.2.1 r5.2.2.2.2.1 r5.2.2.2.2.2.1 r5.2.2.2.2.2.2.1 r5.2.2.2.2.2.2.2.Atom.Items (Int.ofNat r5.2.2.2.2.2.2.2.Atom.Items.length) 0) fun r4=>.h ((r4.1),(r4.2.1),(r4.2.2.1),(r4.2.2.2.1),(r4.2.2.2.2.1),(r4.2.2.2.2.2.1),(IntKind.i64.wrap (r4.2.2.2.2.2.2+1)),()) ()) .d) (.k (n_,t12,t13,t14))
def zmm (zk:List Term→Bool×Int) (x:ttTannotationSize4) (y:Unit):Wy ttTannotationSize4 (Unit) ttTannotationSize5:=zzB zk x.1 x.2.1 x.2.2.1 x.2.2.2.1 x.2.2.2.2.1 x.2.2.2.2.2.1 x.2.2.2.2.2.2.1
def zz3 (zk:List Term→Bool×Int) (n:Nat) (n_:Int) (t12:List Term) (t13:Int) (t14:Int) (t25:List Factor) (t26:Int) (t27:Int):Bool×ttTannotationSize5:=zN (zmm zk) default n (n_,t12,t13,t14,t25,t26,t27,()) ()
def zqU (r:ttTannotationSize5):LTree ty:=.done (.exit 2) [.lit (.int .i64 r.1),.sl 152 r.2.1,.lit (.int .i64 r.2.2.1),.lit (.int .i64 r.2.2.2)] []
def zrx:LL ty ttTannotationSize4:=za (lInt .i64) (za (lSl 152) (za (lInt .i64) (za (lInt .i64) (za (lSl 160) (za (lInt .i64) (za (lInt .i64) zy))))))
def zsn:BL ty (Unit):=bNil
def zAf (zk:List Term→Bool×Int) (n_:Int) (t12:List Term) (t13:Int) (t14:Int):Wy ttTannotationSize6 (Unit) (Int):=.i (decide (t14<t13)) (.i (decide (0≤t14)&&decide (t14<Int.ofNat t12.length)) (.bn (zz3 zk ((IntKind.i64.wrap (n_+IntKind.i64.wrap (1+Int.ofNat (t12.getD t14.toNat default).Factors.length))).toNat +t12.length+t13.toNat +t14.toNat +(t12.getD t14.toNat default).Factors.length+(Int.ofNat (t12.getD t14.toNat default).Factors.length).toNat +Int.toNat 0+1000) (IntKind.i64.wrap (n_+IntKind.i64.wrap (1+Int.ofNat (t12.getD t14.toNat default).Factors.length))) t12 t13 t14 (t12.getD t14.toNat default).Factors (Int.ofNat (t12.getD t14.toNat default).Factors.length) 0) fun r8=>.h ((r8.1),(r8.2.1),(r8.2.2.1),(IntKind.i64.wrap (r8.2.2.2+1)),()) ()) .d) (.k n_)
def zl9 (zk:List Term→Bool×Int) (x:ttTannotationSize6) (y:Unit):Wy ttTannotationSize6 (Unit) (Int):=zAf zk x.1 x.2.1 x.2.2.1 x.2.2.2.1
def zzq (zk:List Term→Bool×Int) (n:Nat) (n_:Int) (t12:List Term) (t13:Int) (t14:Int):Bool×Int:=zN (zl9 zk) default n (n_,t12,t13,t14,()) ()
def zqs (r:Int):LTree ty:=.done (.exit 0) [.lit (.int .i64 r)] []
def zrS:LL ty ttTannotationSize6:=za (lInt .i64) (za (lSl 152) (za (lInt .i64) (za (lInt .i64) zy)))
def zr4:BL ty (Unit):=bNil
def zpI (x:ttTannotationSize0) (y:Factor×Unit):Nat:=(Int.toNat x.1+x.2.2.1.length+Int.toNat x.2.2.2.1+Int.toNat x.2.2.2.2.1+x.2.2.2.2.2.1.length+Int.toNat x.2.2.2.2.2.2.1+Int.toNat x.2.2.2.2.2.2.2.1+x.2.2.2.2.2.2.2.2.1.length+Int.toNat x.2.2.2.2.2.2.2.2.2.1+Int.toNat x.2.2.2.2.2.2.2.2.2.2.1+y.1.Atom.Args.length+y.1.Atom.Items.length+1000)
def zps (x:ttTannotationSize2) (y:Unit):Nat:=(Int.toNat x.1+x.2.1.length+Int.toNat x.2.2.1+Int.toNat x.2.2.2.1+x.2.2.2.2.1.length+Int.toNat x.2.2.2.2.2.1+Int.toNat x.2.2.2.2.2.2.1+x.2.2.2.2.2.2.2.1.length+Int.toNat x.2.2.2.2.2.2.2.2.1+Int.toNat x.2.2.2.2.2.2.2.2.2.1+1000)
def zp5 (x:ttTannotationSize4) (y:Unit):Nat:=(Int.toNat x.1+x.2.1.length+Int.toNat x.2.2.1+Int.toNat x.2.2.2.1+x.2.2.2.2.1.length+Int.toNat x.2.2.2.2.2.1+Int.toNat x.2.2.2.2.2.2.1+1000)
def zqI (x:ttTannotationSize6) (y:Unit):Nat:=(Int.toNat x.1+x.2.1.length+Int.toNat x.2.2.1+Int.toNat x.2.2.2.1+1000)
def zhl (zk:List Term→Bool×Int):Cx ty:=mkCx base 62 [(137,(ziY zk))] [] [(3,[(3,.keep),(12,.keep),(13,.keep),(14,.keep)]),(7,[(3,.keep),(12,.keep),(13,.keep),(14,.keep),(25,.keep),(26,.keep),(27,.keep)]),(10,[(3,.keep),(7,.keep),(12,.keep),(13,.keep),(14,.keep),(25,.keep),(26,.keep),(27,.keep),(33,.keep),(34,.keep),(35,.keep)]),(15,[(3,.keep),(12,.keep),(13,.keep),(14,.keep),(25,.keep),(26,.keep),(27,.keep),(46,.keep),(47,.keep),(48,.keep)])] [(3,1,[(3,.keep)]),(7,3,[(3,.keep),(12,.keep),(13,.keep),(14,.keep)]),(10,5,[(3,.keep),(7,.keep),(12,.keep),(13,.keep),(14,.keep),(25,.keep),(26,.keep),(27,.keep)]),(15,7,[(3,.keep),(12,.keep),(13,.keep),(14,.keep),(25,.keep),(26,.keep),(27,.keep)])] [(10,spW zqn zqW (zlm zk) default zpp zpI),(15,spW zqS zqc (zlp zk) default zpk zps),(7,spW zrx zsn (zmm zk) default zqU zp5),(3,spW zrS zr4 (zl9 zk) default zqs zqI)] []
theorem zxZ (zk:List Term→Bool×Int):zZ (zhl zk) (lp (body Tryz.f137) 2):=zP (id:=10) (V:=zqn) (B:=zqW) (W:=zlm zk) (z:=default) (tr:=zpp) (m:=zpI)
theorem zxY (zk:List Term→Bool×Int):zZ (zhl zk) (lp (body Tryz.f137) 3):=zP (id:=15) (V:=zqS) (B:=zqc) (W:=zlp zk) (z:=default) (tr:=zpk) (m:=zps)
theorem zyl (zk:List Term→Bool×Int):zZ (zhl zk) (lp (body Tryz.f137) 1):=zP (id:=7) (V:=zrx) (B:=zsn) (W:=zmm zk) (z:=default) (tr:=zqU) (m:=zp5)
theorem zyU (zk:List Term→Bool×Int):zZ (zhl zk) (lp (body Tryz.f137) 0):=zP (id:=3) (V:=zrS) (B:=zr4) (W:=zl9 zk) (z:=default) (tr:=zqs) (m:=zqI)
def zsS (zk:List Term→Bool×Int) (a:List Term):Wy0 (Int):=.bn (zzq zk (Int.toNat 0+a.length+(Int.ofNat a.length).toNat +Int.toNat 0+1000) 0 a (Int.ofNat a.length) 0) fun r10=>.k r10
def zuL (zk:List Term→Bool×Int) (a:List Term):Bool×Int:=(zsS zk a).fin default
theorem zwD (zk:List Term→Bool×Int) (zAO:Sound Tryz.prog base 137 (ziY zk)):Sound Tryz.prog base 137 (ziY (zuL zk)):=
 zt (cx':=(zhl zk)) zG zn zD (zw ⟨zAO,trivial⟩) Tryz.call137 Tryz.func137 (c:=body Tryz.f137) (by kernel_rfl) (zi (l:=[lp (body Tryz.f137) 0,lp (body Tryz.f137) 1,lp (body Tryz.f137) 2,lp (body Tryz.f137) 3]) (by kernel_rfl) ⟨zyU zk,zyl zk,zxZ zk,zxY zk,trivial⟩) (sg:=⟨[.pure],[]⟩) (A:=zuT) (res:=zsF) (W:=fun x=>zsS zk x.1) (z:=default)
def zGe:Nat→(List Term→Bool×Int)
 | 0=>fun _=>(false,default)
 | n+1=>zuL (zGe n)
def zuU (n:Nat):List Term→Bool×Int:=zGe n
theorem zEC:∀ n,Sound Tryz.prog base 137 (ziY (zuU n))
 | 0=>zbe Tryz.call137 (fun _=>rfl)
 | n+1=>by
  have ih:=zEC n
  exact zwD _ (ih)
def zxc:List Term→Bool×Int:=zuU 1000
def annotation_Size_spec:Ab.Spec ty:=ziY zxc
theorem zy2:Sound Tryz.prog base 137 annotation_Size_spec:=(zEC 1000)
def zpx (r:Int):ARes ty:=⟨[.pure (.lit (.int .i64 r))],[]⟩
def zr8:AL base (List Term×Unit):=zg (zh (vSl 152)) aNil
def zhj (F:List Term→Bool×Int):Ab.Spec ty:=zl zr8 fun x=>((F x.1).1,zpx (F x.1).2)
abbrev ttTannotationnesting0:=Int×Unit×Int×List Term×Int×Int×List Factor×Int×Int×List (List Term)×Int×Int×Unit
abbrev ttTannotationnesting1:=Int×Int×List Term×Int×Int×List Factor×Int×Int×Factor
abbrev ttTannotationnesting2:=Int×Int×List Term×Int×Int×List Factor×Int×Int×List Weighted×Int×Int×Unit
abbrev ttTannotationnesting3:=Int×Int×List Term×Int×Int×List Factor×Int×Int
abbrev ttTannotationnesting4:=Int×List Term×Int×Int×List Factor×Int×Int×Unit
abbrev ttTannotationnesting5:=Int×List Term×Int×Int
abbrev ttTannotationnesting6:=Int×List Term×Int×Int×Unit
def zvv (zj:List Term→Bool×Int) (n_:Int) (inner:Int) (t13:List Term) (t14:Int) (t15:Int) (t20:List Factor) (t21:Int) (t22:Int) (t32:List (List Term)) (t33:Int) (t34:Int) (f:Factor):Wy ttTannotationnesting0 (Factor×Unit) ttTannotationnesting1:=.i (decide (t34<t33)) (.i (decide (0≤t34)&&decide (t34<Int.ofNat t32.length)) (.bn (zj (t32.getD t34.toNat default)) fun r0=>.h (n_,(),(if r0>inner then r0 else inner),t13,t14,t15,t20,t21,t22,t32,t33,(IntKind.i64.wrap (t34+1)),()) (f,())) .d) (.k (n_,inner,t13,t14,t15,t20,t21,t22,f))
def zjR (zj:List Term→Bool×Int) (x:ttTannotationnesting0) (y:Factor×Unit):Wy ttTannotationnesting0 (Factor×Unit) ttTannotationnesting1:=zvv zj x.1 x.2.2.1 x.2.2.2.1 x.2.2.2.2.1 x.2.2.2.2.2.1 x.2.2.2.2.2.2.1 x.2.2.2.2.2.2.2.1 x.2.2.2.2.2.2.2.2.1 x.2.2.2.2.2.2.2.2.2.1 x.2.2.2.2.2.2.2.2.2.2.1 x.2.2.2.2.2.2.2.2.2.2.2.1 y.1
def zv8 (zj:List Term→Bool×Int) (n:Nat) (n_:Int) (inner:Int) (t13:List Term) (t14:Int) (t15:Int) (t20:List Factor) (t21:Int) (t22:Int) (t32:List (List Term)) (t33:Int) (t34:Int) (f:Factor):Bool×ttTannotationnesting1:=zN (zjR zj) default n (n_,(),inner,t13,t14,t15,t20,t21,t22,t32,t33,t34,()) (f,())
def znq (r:ttTannotationnesting1):LTree ty:=.done (.exit 4) [.lit (.int .i64 r.1),.ptr 256 0,.lit (.int .i64 r.2.1),.sl 152 r.2.2.1,.lit (.int .i64 r.2.2.2.1),.lit (.int .i64 r.2.2.2.2.1),.sl 160 r.2.2.2.2.2.1,.lit (.int .i64 r.2.2.2.2.2.2.1),.lit (.int .i64 r.2.2.2.2.2.2.2.1)] [.box (base.enc 160 r.2.2.2.2.2.2.2.2) false]
def znU:LL ty ttTannotationnesting0:=za (lInt .i64) (za (z6 256 0) (za (lInt .i64) (za (lSl 152) (za (lInt .i64) (za (lInt .i64) (za (lSl 160) (za (lInt .i64) (za (lInt .i64) (za (lSl 36) (za (lInt .i64) (za (lInt .i64) zy)))))))))))
def znW:BL ty (Factor×Unit):=bBox (zbj (fun x=>(⟨⟨x.1,⟨x.2.1,x.2.2.1⟩,x.2.2.2.1,x.2.2.2.2.1,x.2.2.2.2.2.1,x.2.2.2.2.2.2.1,⟨x.2.2.2.2.2.2.2.1,x.2.2.2.2.2.2.2.2.1,x.2.2.2.2.2.2.2.2.2.1⟩⟩,x.2.2.2.2.2.2.2.2.2.2.1⟩:Factor)) (fun x=>(x.Atom.Kind,x.Atom.Row.Table,x.Atom.Row.Seq,x.Atom.Args,x.Atom.Func,x.Atom.Items,x.Atom.Op,x.Atom.Bound.Kind,x.Atom.Bound.Int,x.Atom.Bound.Text,x.Exp,())) (fun _=>rfl) (za (lInt .i64) (za (lInt .i64) (za (lInt .i64) (za (lSl 36) (za (lInt .i64) (za (lSl 182) (za (lInt .i64) (za (lInt .i64) (za (lInt .i64) (za lStr (za (lInt .i64) zy)))))))))))) false (bNil)
def zvH (zj:List Term→Bool×Int) (n_:Int) (inner:Int) (t13:List Term) (t14:Int) (t15:Int) (t20:List Factor) (t21:Int) (t22:Int) (t45:List Weighted) (t46:Int) (t47:Int):Wy ttTannotationnesting2 (Unit) ttTannotationnesting3:=.i (decide (t47<t46)) (.i (decide (0≤t47)&&decide (t47<Int.ofNat t45.length)) (.bn (zj (t45.getD t47.toNat default).Ann) fun r2=>.h (n_,(if r2>inner then r2 else inner),t13,t14,t15,t20,t21,t22,t45,t46,(IntKind.i64.wrap (t47+1)),()) ()) .d) (.k (n_,inner,t13,t14,t15,t20,t21,t22))
def zjJ (zj:List Term→Bool×Int) (x:ttTannotationnesting2) (y:Unit):Wy ttTannotationnesting2 (Unit) ttTannotationnesting3:=zvH zj x.1 x.2.1 x.2.2.1 x.2.2.2.1 x.2.2.2.2.1 x.2.2.2.2.2.1 x.2.2.2.2.2.2.1 x.2.2.2.2.2.2.2.1 x.2.2.2.2.2.2.2.2.1 x.2.2.2.2.2.2.2.2.2.1 x.2.2.2.2.2.2.2.2.2.2.1
def zvW (zj:List Term→Bool×Int) (n:Nat) (n_:Int) (inner:Int) (t13:List Term) (t14:Int) (t15:Int) (t20:List Factor) (t21:Int) (t22:Int) (t45:List Weighted) (t46:Int) (t47:Int):Bool×ttTannotationnesting3:=zN (zjJ zj) default n (n_,inner,t13,t14,t15,t20,t21,t22,t45,t46,t47,()) ()
def zni (r:ttTannotationnesting3):LTree ty:=.done (.exit 6) [.lit (.int .i64 r.1),.lit (.int .i64 r.2.1),.sl 152 r.2.2.1,.lit (.int .i64 r.2.2.2.1),.lit (.int .i64 r.2.2.2.2.1),.sl 160 r.2.2.2.2.2.1,.lit (.int .i64 r.2.2.2.2.2.2.1),.lit (.int .i64 r.2.2.2.2.2.2.2)] []
def znL:LL ty ttTannotationnesting2:=za (lInt .i64) (za (lInt .i64) (za (lSl 152) (za (lInt .i64) (za (lInt .i64) (za (lSl 160) (za (lInt .i64) (za (lInt .i64) (za (lSl 182) (za (lInt .i64) (za (lInt .i64) zy))))))))))
def zn4:BL ty (Unit):=bNil
def zwz (zj:List Term→Bool×Int) (n_:Int) (t13:List Term) (t14:Int) (t15:Int) (t20:List Factor) (t21:Int) (t22:Int):Wy ttTannotationnesting4 (Unit) ttTannotationnesting5:=.i (decide (t22<t21)) (.i (decide (0≤t22)&&decide (t22<Int.ofNat t20.length)) (.i ((t20.getD t22.toNat default).Atom.Kind==0) (.h (n_,t13,t14,t15,t20,t21,(IntKind.i64.wrap (t22+1)),()) ()) (.bn (zv8 zj (n_.toNat +Int.toNat 0+t13.length+t14.toNat +t15.toNat +t20.length+t21.toNat +t22.toNat +(t20.getD t22.toNat default).Atom.Args.length+(Int.ofNat (t20.getD t22.toNat default).Atom.Args.length).toNat +Int.toNat 0+(t20.getD t22.toNat default).Atom.Args.length+(t20.getD t22.toNat default).Atom.Items.length+1000) n_ 0 t13 t14 t15 t20 t21 t22 (t20.getD t22.toNat default).Atom.Args (Int.ofNat (t20.getD t22.toNat default).Atom.Args.length) 0 (FactorOf.mk (Atom.mk (t20.getD t22.toNat default).Atom.Kind (t20.getD t22.toNat default).Atom.Row (t20.getD t22.toNat default).Atom.Args (t20.getD t22.toNat default).Atom.Func (t20.getD t22.toNat default).Atom.Items (t20.getD t22.toNat default).Atom.Op (t20.getD t22.toNat default).Atom.Bound) (t20.getD t22.toNat default).Exp)) fun r5=>.bn (zvW zj (r5.1.toNat +r5.2.1.toNat +r5.2.2.1.length+r5.2.2.2.1.toNat +r5.2.2.2.2.1.toNat +r5.2.2.2.2.2.1.length+r5.2.2.2.2.2.2.1.toNat +r5.2.2.2.2.2.2.2.1.toNat +r5.2.2.2.2.2.2.2.2.Atom.Items.length+(Int.ofNat r5.2.2.2.2.2.2.2.2.Atom.Items.length).toNat +Int.toNat 0+1000) r5.1 r5.2.1 r5.2.2.1 r5.2.2.2.1 r5.2.2.2.2.1 r5.2.2.2.2.2.1 r5.2.2.2.2.2.2.1 r5.2.2.2.2.2.2.2.1 r5.2.2.2.2.2.2.2.2.Atom.Items (Int.ofNat r5.2.2.2.2.2.2.2.2.Atom.Items.length) 0) fun r4=>.h ((if IntKind.i64.wrap (1+r4.2.1)>r4.1 then IntKind.i64.wrap (1+r4.2.1) else r4.1),(r4.2.2.1),(r4.2.2.2.1),(r4.2.2.2.2.1),(r4.2.2.2.2.2.1),(r4.2.2.2.2.2.2.1),(IntKind.i64.wrap (r4.2.2.2.2.2.2.2+1)),()) ())) .d) (.k (n_,t13,t14,t15))
def zkh (zj:List Term→Bool×Int) (x:ttTannotationnesting4) (y:Unit):Wy ttTannotationnesting4 (Unit) ttTannotationnesting5:=zwz zj x.1 x.2.1 x.2.2.1 x.2.2.2.1 x.2.2.2.2.1 x.2.2.2.2.2.1 x.2.2.2.2.2.2.1
def zwJ (zj:List Term→Bool×Int) (n:Nat) (n_:Int) (t13:List Term) (t14:Int) (t15:Int) (t20:List Factor) (t21:Int) (t22:Int):Bool×ttTannotationnesting5:=zN (zkh zj) default n (n_,t13,t14,t15,t20,t21,t22,()) ()
def znZ (r:ttTannotationnesting5):LTree ty:=.done (.exit 2) [.lit (.int .i64 r.1),.sl 152 r.2.1,.lit (.int .i64 r.2.2.1),.lit (.int .i64 r.2.2.2)] []
def zoC:LL ty ttTannotationnesting4:=za (lInt .i64) (za (lSl 152) (za (lInt .i64) (za (lInt .i64) (za (lSl 160) (za (lInt .i64) (za (lInt .i64) zy))))))
def zow:BL ty (Unit):=bNil
def zwN (zj:List Term→Bool×Int) (n_:Int) (t13:List Term) (t14:Int) (t15:Int):Wy ttTannotationnesting6 (Unit) (Int):=.i (decide (t15<t14)) (.i (decide (0≤t15)&&decide (t15<Int.ofNat t13.length)) (.bn (zwJ zj (n_.toNat +t13.length+t14.toNat +t15.toNat +(t13.getD t15.toNat default).Factors.length+(Int.ofNat (t13.getD t15.toNat default).Factors.length).toNat +Int.toNat 0+1000) n_ t13 t14 t15 (t13.getD t15.toNat default).Factors (Int.ofNat (t13.getD t15.toNat default).Factors.length) 0) fun r8=>.h ((r8.1),(r8.2.1),(r8.2.2.1),(IntKind.i64.wrap (r8.2.2.2+1)),()) ()) .d) (.k n_)
def zj9 (zj:List Term→Bool×Int) (x:ttTannotationnesting6) (y:Unit):Wy ttTannotationnesting6 (Unit) (Int):=zwN zj x.1 x.2.1 x.2.2.1 x.2.2.2.1
def zwG (zj:List Term→Bool×Int) (n:Nat) (n_:Int) (t13:List Term) (t14:Int) (t15:Int):Bool×Int:=zN (zj9 zj) default n (n_,t13,t14,t15,()) ()
def zn7 (r:Int):LTree ty:=.done (.exit 0) [.lit (.int .i64 r)] []
def zoD:LL ty ttTannotationnesting6:=za (lInt .i64) (za (lSl 152) (za (lInt .i64) (za (lInt .i64) zy)))
def zov:BL ty (Unit):=bNil
def zm9 (x:ttTannotationnesting0) (y:Factor×Unit):Nat:=(Int.toNat x.1+Int.toNat x.2.2.1+x.2.2.2.1.length+Int.toNat x.2.2.2.2.1+Int.toNat x.2.2.2.2.2.1+x.2.2.2.2.2.2.1.length+Int.toNat x.2.2.2.2.2.2.2.1+Int.toNat x.2.2.2.2.2.2.2.2.1+x.2.2.2.2.2.2.2.2.2.1.length+Int.toNat x.2.2.2.2.2.2.2.2.2.2.1+Int.toNat x.2.2.2.2.2.2.2.2.2.2.2.1+y.1.Atom.Args.length+y.1.Atom.Items.length+1000)
def znx (x:ttTannotationnesting2) (y:Unit):Nat:=(Int.toNat x.1+Int.toNat x.2.1+x.2.2.1.length+Int.toNat x.2.2.2.1+Int.toNat x.2.2.2.2.1+x.2.2.2.2.2.1.length+Int.toNat x.2.2.2.2.2.2.1+Int.toNat x.2.2.2.2.2.2.2.1+x.2.2.2.2.2.2.2.2.1.length+Int.toNat x.2.2.2.2.2.2.2.2.2.1+Int.toNat x.2.2.2.2.2.2.2.2.2.2.1+1000)
def znS (x:ttTannotationnesting4) (y:Unit):Nat:=(Int.toNat x.1+x.2.1.length+Int.toNat x.2.2.1+Int.toNat x.2.2.2.1+x.2.2.2.2.1.length+Int.toNat x.2.2.2.2.2.1+Int.toNat x.2.2.2.2.2.2.1+1000)
def znJ (x:ttTannotationnesting6) (y:Unit):Nat:=(Int.toNat x.1+x.2.1.length+Int.toNat x.2.2.1+Int.toNat x.2.2.2.1+1000)
def zf5 (zj:List Term→Bool×Int):Cx ty:=mkCx base 64 [(136,(zhj zj))] [] [(3,[(3,.keep),(13,.keep),(14,.keep),(15,.keep)]),(6,[(3,.keep),(13,.keep),(14,.keep),(15,.keep),(20,.keep),(21,.keep),(22,.keep)]),(11,[(3,.keep),(7,.keep),(8,.keep),(13,.keep),(14,.keep),(15,.keep),(20,.keep),(21,.keep),(22,.keep),(32,.keep),(33,.keep),(34,.keep)]),(16,[(3,.keep),(8,.keep),(13,.keep),(14,.keep),(15,.keep),(20,.keep),(21,.keep),(22,.keep),(45,.keep),(46,.keep),(47,.keep)])] [(3,1,[(3,.keep)]),(6,3,[(3,.keep),(13,.keep),(14,.keep),(15,.keep)]),(11,5,[(3,.keep),(7,.keep),(8,.keep),(13,.keep),(14,.keep),(15,.keep),(20,.keep),(21,.keep),(22,.keep)]),(16,7,[(3,.keep),(8,.keep),(13,.keep),(14,.keep),(15,.keep),(20,.keep),(21,.keep),(22,.keep)])] [(11,spW znU znW (zjR zj) default znq zm9),(16,spW znL zn4 (zjJ zj) default zni znx),(6,spW zoC zow (zkh zj) default znZ znS),(3,spW zoD zov (zj9 zj) default zn7 znJ)] []
theorem zu9 (zj:List Term→Bool×Int):zZ (zf5 zj) (lp (body Tryz.f136) 2):=zP (id:=11) (V:=znU) (B:=znW) (W:=zjR zj) (z:=default) (tr:=znq) (m:=zm9)
theorem zvi (zj:List Term→Bool×Int):zZ (zf5 zj) (lp (body Tryz.f136) 3):=zP (id:=16) (V:=znL) (B:=zn4) (W:=zjJ zj) (z:=default) (tr:=zni) (m:=znx)
theorem zwu (zj:List Term→Bool×Int):zZ (zf5 zj) (lp (body Tryz.f136) 1):=zP (id:=6) (V:=zoC) (B:=zow) (W:=zkh zj) (z:=default) (tr:=znZ) (m:=znS)
theorem zvI (zj:List Term→Bool×Int):zZ (zf5 zj) (lp (body Tryz.f136) 0):=zP (id:=3) (V:=zoD) (B:=zov) (W:=zj9 zj) (z:=default) (tr:=zn7) (m:=znJ)
def zpr (zj:List Term→Bool×Int) (a:List Term):Wy0 (Int):=.bn (zwG zj (Int.toNat 0+a.length+(Int.ofNat a.length).toNat +Int.toNat 0+1000) 0 a (Int.ofNat a.length) 0) fun r10=>.k r10
def zrI (zj:List Term→Bool×Int) (a:List Term):Bool×Int:=(zpr zj a).fin default
theorem zuu (zj:List Term→Bool×Int) (zxX:Sound Tryz.prog base 136 (zhj zj)):Sound Tryz.prog base 136 (zhj (zrI zj)):=
 zt (cx':=(zf5 zj)) zG zn zD (zw ⟨zxX,trivial⟩) Tryz.call136 Tryz.func136 (c:=body Tryz.f136) (by kernel_rfl) (zi (l:=[lp (body Tryz.f136) 0,lp (body Tryz.f136) 1,lp (body Tryz.f136) 2,lp (body Tryz.f136) 3]) (by kernel_rfl) ⟨zvI zj,zwu zj,zu9 zj,zvi zj,trivial⟩) (sg:=⟨[.pure],[]⟩) (A:=zr8) (res:=zpx) (W:=fun x=>zpr zj x.1) (z:=default)
def zCV:Nat→(List Term→Bool×Int)
 | 0=>fun _=>(false,default)
 | n+1=>zrI (zCV n)
def zrB (n:Nat):List Term→Bool×Int:=zCV n
theorem zAD:∀ n,Sound Tryz.prog base 136 (zhj (zrB n))
 | 0=>zbe Tryz.call136 (fun _=>rfl)
 | n+1=>by
  have ih:=zAD n
  exact zuu _ (ih)
def zt1:List Term→Bool×Int:=zrB 1000
def annotation_nesting_spec:Ab.Spec ty:=zhj zt1
theorem zwc:Sound Tryz.prog base 136 annotation_nesting_spec:=(zAD 1000)
def zuF:Cx ty:=mkCx base 13 [] [] [] [] [] []
def znp (f:Factor):Wy0 (Bool):=.i (decide (f.Exp>64)) (.k true) (.k (decide (Int.ofNat f.Atom.Items.length>1024)))
def zka (f:Factor):Bool×Bool:=(znp f).fin default
def zlJ (r:Bool):ARes ty:=⟨[.pure (.lit (.bool r))],[]⟩
def znj:AL base (Factor×Unit):=zg (zh (vAgg 160)) aNil
def zfQ:Ab.Spec ty:=zl znj fun x=>((zka x.1).1,zlJ (zka x.1).2)
theorem zhD:Sound Tryz.prog base 141 zfQ:=
 zt (cx':=zuF) zG zn zD (zw trivial) Tryz.call141 Tryz.func141 (c:=body Tryz.f141) (by kernel_rfl) (zi (l:=[]) (by kernel_rfl) trivial) (sg:=⟨[.pure],[]⟩) (A:=znj) (res:=zlJ) (W:=fun x=>znp x.1) (z:=default)
abbrev ttTslicesIndexFuncLapiFactorapiFactorwi0:=List Factor×Unit×Int×Int×Unit
def zkH (s:List Factor) (t7:Int) (t8:Int):Wy ttTslicesIndexFuncLapiFactorapiFactorwi0 (Unit) (Int⊕Unit):=.i (decide (t8<t7)) (.i (decide (0≤t8)&&decide (t8<Int.ofNat s.length)) (.bn (zka (FactorOf.mk (Atom.mk (s.getD t8.toNat default).Atom.Kind (s.getD t8.toNat default).Atom.Row (s.getD t8.toNat default).Atom.Args (s.getD t8.toNat default).Atom.Func (s.getD t8.toNat default).Atom.Items (s.getD t8.toNat default).Atom.Op (s.getD t8.toNat default).Atom.Bound) (s.getD t8.toNat default).Exp)) fun r0=>.i (r0) (.k (.inl t8)) (.h (s,(),t7,(IntKind.i64.wrap (t8+1)),()) ())) .d) (.k (.inr ()))
def zc6 (x:ttTslicesIndexFuncLapiFactorapiFactorwi0) (y:Unit):Wy ttTslicesIndexFuncLapiFactorapiFactorwi0 (Unit) (Int⊕Unit):=zkH x.1 x.2.2.1 x.2.2.2.1
def zkv (n:Nat) (s:List Factor) (t7:Int) (t8:Int):Bool×(Int⊕Unit):=zN (zc6) (.inl default) n (s,(),t7,t8,()) ()
def zfW (r:Int⊕Unit):LTree ty:=.ite (isL r) (.done .ret [.lit (.int .i64 (getL r))] []) (.done (.exit 0) [] [])
def zgk:LL ty ttTslicesIndexFuncLapiFactorapiFactorwi0:=za (lSl 160) (za (lFn 141 (zy)) (za (lInt .i64) (za (lInt .i64) zy)))
def zgl:BL ty (Unit):=bNil
def zfT (x:ttTslicesIndexFuncLapiFactorapiFactorwi0) (y:Unit):Nat:=(x.1.length+Int.toNat x.2.2.1+Int.toNat x.2.2.2.1+1000)
def zgd:Cx ty:=mkCx base 19 [(141,zfQ)] [] [(2,[(0,.keep),(1,.keep),(7,.keep),(8,.keep)])] [(2,1,[]),(2,0,[(4,.keep)])] [(2,spW zgk zgl (zc6) (.inl default) zfW zfT)] []
theorem zj8:zZ zgd (lp (body Tryz.f196) 0):=zP (id:=2) (V:=zgk) (B:=zgl) (W:=zc6) (z:=.inl default) (tr:=zfW) (m:=zfT)
def zgr (s:List Factor):Wy0 (Int):=.bn (zkv (s.length+(Int.ofNat s.length).toNat +Int.toNat 0+1000) s (Int.ofNat s.length) 0) fun r2=>.i (isL r2) (.k (getL r2)) (.k (-1:Int))
def zdD (s:List Factor):Bool×Int:=(zgr s).fin default
def zfY (r:Int):ARes ty:=⟨[.pure (.lit (.int .i64 r))],[]⟩
def zgG:AL base (List Factor×Unit×Unit):=zg (zh (vSl 160)) (zg (zh (vFn 141 vNil)) aNil)
def zfD:Ab.Spec ty:=zl zgG fun x=>((zdD x.1).1,zfY (zdD x.1).2)
theorem zjT:Sound Tryz.prog base 196 zfD:=
 zt (cx':=zgd) zG zn zD (zw ⟨zhD,trivial⟩) Tryz.call196 Tryz.func196 (c:=body Tryz.f196) (by kernel_rfl) (zi (l:=[lp (body Tryz.f196) 0]) (by kernel_rfl) ⟨zj8,trivial⟩) (sg:=⟨[.pure],[]⟩) (A:=zgG) (res:=zfY) (W:=fun x=>zgr x.1) (z:=default)
def zjO:Cx ty:=mkCx base 9 [(141,zfQ),(196,zfD)] [] [] [] [] []
def zfy (s:List Factor):Wy0 (Bool):=.bn (zdD s) fun r0=>.k (decide (r0≥0))
def zc5 (s:List Factor):Bool×Bool:=(zfy s).fin default
def ze5 (r:Bool):ARes ty:=⟨[.pure (.lit (.bool r))],[]⟩
def zfI:AL base (List Factor×Unit×Unit):=zg (zh (vSl 160)) (zg (zh (vFn 141 vNil)) aNil)
def zeI:Ab.Spec ty:=zl zfI fun x=>((zc5 x.1).1,ze5 (zc5 x.1).2)
theorem ziX:Sound Tryz.prog base 140 zeI:=
 zt (cx':=zjO) zG zn zD (zw ⟨zhD,zjT,trivial⟩) Tryz.call140 Tryz.func140 (c:=body Tryz.f140) (by kernel_rfl) (zi (l:=[]) (by kernel_rfl) trivial) (sg:=⟨[.pure],[]⟩) (A:=zfI) (res:=ze5) (W:=fun x=>zfy x.1) (z:=default)
def zwO:Cx ty:=mkCx base 12 [(140,zeI),(141,zfQ)] [] [] [] [] []
def zo3 (t:Term):Wy0 (Bool):=.i (decide (Int.ofNat t.Factors.length>64)) (.k true) (.bn (zc5 t.Factors) fun r0=>.k r0)
def zma (t:Term):Bool×Bool:=(zo3 t).fin default
def znY (r:Bool):ARes ty:=⟨[.pure (.lit (.bool r))],[]⟩
def zpw:AL base (Term×Unit):=zg (zh (vAgg 152)) aNil
def zg5:Ab.Spec ty:=zl zpw fun x=>((zma x.1).1,znY (zma x.1).2)
theorem ziR:Sound Tryz.prog base 139 zg5:=
 zt (cx':=zwO) zG zn zD (zw ⟨ziX,zhD,trivial⟩) Tryz.call139 Tryz.func139 (c:=body Tryz.f139) (by kernel_rfl) (zi (l:=[]) (by kernel_rfl) trivial) (sg:=⟨[.pure],[]⟩) (A:=zpw) (res:=znY) (W:=fun x=>zo3 x.1) (z:=default)
abbrev ttTslicesIndexFuncapiAnnotationapiTermwi0:=List Term×Unit×Int×Int×Unit
def zkd (s:List Term) (t7:Int) (t8:Int):Wy ttTslicesIndexFuncapiAnnotationapiTermwi0 (Unit) (Int⊕Unit):=.i (decide (t8<t7)) (.i (decide (0≤t8)&&decide (t8<Int.ofNat s.length)) (.bn (zma (s.getD t8.toNat default)) fun r0=>.i (r0) (.k (.inl t8)) (.h (s,(),t7,(IntKind.i64.wrap (t8+1)),()) ())) .d) (.k (.inr ()))
def zc1 (x:ttTslicesIndexFuncapiAnnotationapiTermwi0) (y:Unit):Wy ttTslicesIndexFuncapiAnnotationapiTermwi0 (Unit) (Int⊕Unit):=zkd x.1 x.2.2.1 x.2.2.2.1
def zki (n:Nat) (s:List Term) (t7:Int) (t8:Int):Bool×(Int⊕Unit):=zN (zc1) (.inl default) n (s,(),t7,t8,()) ()
def zfB (r:Int⊕Unit):LTree ty:=.ite (isL r) (.done .ret [.lit (.int .i64 (getL r))] []) (.done (.exit 0) [] [])
def zf4:LL ty ttTslicesIndexFuncapiAnnotationapiTermwi0:=za (lSl 152) (za (lFn 139 (zy)) (za (lInt .i64) (za (lInt .i64) zy)))
def zf0:BL ty (Unit):=bNil
def zfG (x:ttTslicesIndexFuncapiAnnotationapiTermwi0) (y:Unit):Nat:=(x.1.length+Int.toNat x.2.2.1+Int.toNat x.2.2.2.1+1000)
def zfX:Cx ty:=mkCx base 19 [(139,zg5)] [] [(2,[(0,.keep),(1,.keep),(7,.keep),(8,.keep)])] [(2,1,[]),(2,0,[(4,.keep)])] [(2,spW zf4 zf0 (zc1) (.inl default) zfB zfG)] []
theorem zj3:zZ zfX (lp (body Tryz.f195) 0):=zP (id:=2) (V:=zf4) (B:=zf0) (W:=zc1) (z:=.inl default) (tr:=zfB) (m:=zfG)
def zgj (s:List Term):Wy0 (Int):=.bn (zki (s.length+(Int.ofNat s.length).toNat +Int.toNat 0+1000) s (Int.ofNat s.length) 0) fun r2=>.i (isL r2) (.k (getL r2)) (.k (-1:Int))
def zdf (s:List Term):Bool×Int:=(zgj s).fin default
def zfA (r:Int):ARes ty:=⟨[.pure (.lit (.int .i64 r))],[]⟩
def zgh:AL base (List Term×Unit×Unit):=zg (zh (vSl 152)) (zg (zh (vFn 139 vNil)) aNil)
def zfn:Ab.Spec ty:=zl zgh fun x=>((zdf x.1).1,zfA (zdf x.1).2)
theorem zjB:Sound Tryz.prog base 195 zfn:=
 zt (cx':=zfX) zG zn zD (zw ⟨ziR,trivial⟩) Tryz.call195 Tryz.func195 (c:=body Tryz.f195) (by kernel_rfl) (zi (l:=[lp (body Tryz.f195) 0]) (by kernel_rfl) ⟨zj3,trivial⟩) (sg:=⟨[.pure],[]⟩) (A:=zgh) (res:=zfA) (W:=fun x=>zgj x.1) (z:=default)
def zjC:Cx ty:=mkCx base 9 [(139,zg5),(195,zfn)] [] [] [] [] []
def zfi (s:List Term):Wy0 (Bool):=.bn (zdf s) fun r0=>.k (decide (r0≥0))
def zcV (s:List Term):Bool×Bool:=(zfi s).fin default
def zeP (r:Bool):ARes ty:=⟨[.pure (.lit (.bool r))],[]⟩
def zfk:AL base (List Term×Unit×Unit):=zg (zh (vSl 152)) (zg (zh (vFn 139 vNil)) aNil)
def zep:Ab.Spec ty:=zl zfk fun x=>((zcV x.1).1,zeP (zcV x.1).2)
theorem ziK:Sound Tryz.prog base 138 zep:=
 zt (cx':=zjC) zG zn zD (zw ⟨ziR,zjB,trivial⟩) Tryz.call138 Tryz.func138 (c:=body Tryz.f138) (by kernel_rfl) (zi (l:=[]) (by kernel_rfl) trivial) (sg:=⟨[.pure],[]⟩) (A:=zfk) (res:=zeP) (W:=fun x=>zfi x.1) (z:=default)
def zzH:Cx ty:=mkCx base 19 [(136,annotation_nesting_spec),(137,annotation_Size_spec),(138,zep),(139,zg5)] [] [] [] [] []
def zsE (a:List Term):Wy0 (Bool):=.i (decide (Int.ofNat a.length>512)) (.k false) (.bn (zt1 a) fun r2=>.i (decide (r2>8)) (.k false) (.bn (zxc a) fun r1=>.i (decide (r1>4096)) (.k false) (.bn (zcV a) fun r0=>.k (!r0))))
def zoN (a:List Term):Bool×Bool:=(zsE a).fin default
def zql (r:Bool):ARes ty:=⟨[.pure (.lit (.bool r))],[]⟩
def zsH:AL base (List Term×Unit):=zg (zh (vSl 152)) aNil
def zo5:Ab.Spec ty:=zl zsH fun x=>((zoN x.1).1,zql (zoN x.1).2)
theorem zwE:Sound Tryz.prog base 107 zo5:=
 zt (cx':=zzH) zG zn zD (zw ⟨zwc,zy2,ziK,ziR,trivial⟩) Tryz.call107 Tryz.func107 (c:=body Tryz.f107) (by kernel_rfl) (zi (l:=[]) (by kernel_rfl) trivial) (sg:=⟨[.pure],[]⟩) (A:=zsH) (res:=zql) (W:=fun x=>zsE x.1) (z:=default)
end Go.Proofs.YtddkaehkimnklaaGreatDoor
end
