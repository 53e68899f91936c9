/- Texts of this claim, joined (the program, its functions in plain words, and what they compute). -/
import Derived.Test.YtddkaehkimnklaaGreatDoorGC1
import Derived.Test.YtddkaehkimnklaaGreatDoorGA3
set_option autoImplicit false
set_option linter.unusedVariables false
set_option linter.unusedSectionVars false
set_option linter.unusedSimpArgs false
set_option maxRecDepth 1000000
set_option maxHeartbeats 0
noncomputable section
namespace Go.Proofs.YtddkaehkimnklaaGreatDoor
open Go Go.Ab
abbrev ttTstatisticsFormat0:=Unit×Unit×Unit×ByteArray×Unit×List ColumnStats×Int×Int×List Value×Int×Int×Unit
abbrev ttTstatisticsFormat1:=Stats×List ByteArray×ColumnStats×List ByteArray×Unit
abbrev ttTstatisticsFormat2:=ByteArray×List ColumnStats×Int×Int×Stats×List ByteArray×ColumnStats×List ByteArray
abbrev ttTstatisticsFormat3:=Unit×Unit×List ColumnStats×Int×Int×Unit
abbrev ttTstatisticsFormat4:=Stats×List ByteArray×Unit
def zyx (line:ByteArray) (t25:List ColumnStats) (t26:Int) (t27:Int) (t45:List Value) (t46:Int) (t47:Int) (s:Stats) (out_:List ByteArray) (c:ColumnStats) (l:List ByteArray):Wy ttTstatisticsFormat0 ttTstatisticsFormat1 ttTstatisticsFormat2:=.i (decide (t47<t46)) (.i (decide (0≤t47)&&decide (t47<Int.ofNat t45.length)) (.bn (znY (t45.getD t47.toNat default)) fun r0=>.i (decide ((l.length+[r0].length)*16≤reach)) (.h ((),(),(),line,(),t25,t26,t27,t45,t46,(IntKind.i64.wrap (t47+1)),()) (s,out_,c,(l++[r0]),())) .d) .d) (.k (line,t25,t26,t27,s,out_,c,l))
def zkQ (x:ttTstatisticsFormat0) (y:ttTstatisticsFormat1):Wy ttTstatisticsFormat0 ttTstatisticsFormat1 ttTstatisticsFormat2:=zyx x.2.2.2.1 x.2.2.2.2.2.1 x.2.2.2.2.2.2.1 x.2.2.2.2.2.2.2.1 x.2.2.2.2.2.2.2.2.1 x.2.2.2.2.2.2.2.2.2.1 x.2.2.2.2.2.2.2.2.2.2.1 y.1 y.2.1 y.2.2.1 y.2.2.2.1
def zzf (n:Nat) (line:ByteArray) (t25:List ColumnStats) (t26:Int) (t27:Int) (t45:List Value) (t46:Int) (t47:Int) (s:Stats) (out_:List ByteArray) (c:ColumnStats) (l:List ByteArray):Bool×ttTstatisticsFormat2:=zN (zkQ) default n ((),(),(),line,(),t25,t26,t27,t45,t46,t47,()) (s,out_,c,l,())
def zpj (r:ttTstatisticsFormat2):LTree ty:=.done (.exit 2) [.ptr 312 0,.own 313,.ptr 314 0,.lit (.string r.1),.own 315,.sl 43 r.2.1,.lit (.int .i64 r.2.2.1),.lit (.int .i64 r.2.2.2.1)] [.box (base.enc 30 r.2.2.2.2.1) false,.arr 9 r.2.2.2.2.2.1 false,.box (base.enc 43 r.2.2.2.2.2.2.1) false,.arr 9 r.2.2.2.2.2.2.2 false]
def zq8:LL ty ttTstatisticsFormat0:=za (zct 312 0) (za (lOwn 313) (za (zct 314 0) (za lStr (za (lOwn 315) (za (lSl 43) (za (lInt .i64) (za (lInt .i64) (za (lSl 40) (za (lInt .i64) (za (lInt .i64) zG))))))))))
def zqM:BL ty ttTstatisticsFormat1:=bBox (zhc (fun x=>(⟨x.1,x.2.1,x.2.2.1⟩:Stats)) (fun x=>(x.Table,x.Rows,x.Columns,())) (fun _=>rfl) (za (lInt .i64) (za (lInt .i64) (za (lSl 43) zG)))) false (bArr 9 false (bBox (zhc (fun x=>(⟨x.1,⟨x.2.1,x.2.2.1,x.2.2.2.1⟩,⟨x.2.2.2.2.1,x.2.2.2.2.2.1,x.2.2.2.2.2.2.1⟩,x.2.2.2.2.2.2.2.1⟩:ColumnStats)) (fun x=>(x.Distinct,x.Min.Kind,x.Min.Int,x.Min.Text,x.Max.Kind,x.Max.Int,x.Max.Text,x.Bounds,())) (fun _=>rfl) (za (lInt .i64) (za (lInt .i64) (za (lInt .i64) (za lStr (za (lInt .i64) (za (lInt .i64) (za lStr (za (lSl 40) zG))))))))) false (bArr 9 false (bNil))))
def zzL (t25:List ColumnStats) (t26:Int) (t27:Int) (s:Stats) (out_:List ByteArray):Wy ttTstatisticsFormat3 ttTstatisticsFormat4 (List ByteArray):=.i (decide (t27<t26)) (.i (decide (0≤t27)&&decide (t27<Int.ofNat t25.length)) (.bn (strconv_Itoa t27) fun r7=>.i (decide ((ByteArray.mk #[(99:UInt8),(111:UInt8),(108:UInt8),(117:UInt8),(109:UInt8),(110:UInt8),(32:UInt8)]).size+r7.size≤9223372036854775807)) (.i (decide ((ByteArray.mk #[(99:UInt8),(111:UInt8),(108:UInt8),(117:UInt8),(109:UInt8),(110:UInt8),(32:UInt8)]++r7).size+(ByteArray.mk #[(58:UInt8),(32:UInt8)]).size≤9223372036854775807)) (.bn (strconv_Itoa (t25.getD t27.toNat default).Distinct) fun r6=>.i (decide ((ByteArray.mk #[(99:UInt8),(111:UInt8),(108:UInt8),(117:UInt8),(109:UInt8),(110:UInt8),(32:UInt8)]++r7++ByteArray.mk #[(58:UInt8),(32:UInt8)]).size+r6.size≤9223372036854775807)) (.i (decide ((ByteArray.mk #[(99:UInt8),(111:UInt8),(108:UInt8),(117:UInt8),(109:UInt8),(110:UInt8),(32:UInt8)]++r7++ByteArray.mk #[(58:UInt8),(32:UInt8)]++r6).size+(ByteArray.mk #[(32:UInt8),(100:UInt8),(105:UInt8),(115:UInt8),(116:UInt8),(105:UInt8),(110:UInt8),(99:UInt8),(116:UInt8)]).size≤9223372036854775807)) (.i (decide (s.Rows>0)) (.bn (zzf ((ByteArray.mk #[(99:UInt8),(111:UInt8),(108:UInt8),(117:UInt8),(109:UInt8),(110:UInt8),(32:UInt8)]++r7++ByteArray.mk #[(58:UInt8),(32:UInt8)]++r6++ByteArray.mk #[(32:UInt8),(100:UInt8),(105:UInt8),(115:UInt8),(116:UInt8),(105:UInt8),(110:UInt8),(99:UInt8),(116:UInt8)]).size+t25.length+t26.toNat +t27.toNat +(t25.getD t27.toNat default).Bounds.length+(Int.ofNat (t25.getD t27.toNat default).Bounds.length).toNat +Int.toNat 0+s.Columns.length+out_.length+(t25.getD t27.toNat default).Bounds.length+0+1000) (ByteArray.mk #[(99:UInt8),(111:UInt8),(108:UInt8),(117:UInt8),(109:UInt8),(110:UInt8),(32:UInt8)]++r7++ByteArray.mk #[(58:UInt8),(32:UInt8)]++r6++ByteArray.mk #[(32:UInt8),(100:UInt8),(105:UInt8),(115:UInt8),(116:UInt8),(105:UInt8),(110:UInt8),(99:UInt8),(116:UInt8)]) t25 t26 t27 (t25.getD t27.toNat default).Bounds (Int.ofNat (t25.getD t27.toNat default).Bounds.length) 0 s out_ (t25.getD t27.toNat default) []) fun r5=>.bn (znY r5.2.2.2.2.2.2.1.Min) fun r4=>.i (decide ((ByteArray.mk #[(44:UInt8),(32:UInt8)]).size+r4.size≤9223372036854775807)) (.i (decide ((ByteArray.mk #[(44:UInt8),(32:UInt8)]++r4).size+(ByteArray.mk #[(32:UInt8),(116:UInt8),(111:UInt8),(32:UInt8)]).size≤9223372036854775807)) (.bn (znY r5.2.2.2.2.2.2.1.Max) fun r3=>.i (decide ((ByteArray.mk #[(44:UInt8),(32:UInt8)]++r4++ByteArray.mk #[(32:UInt8),(116:UInt8),(111:UInt8),(32:UInt8)]).size+r3.size≤9223372036854775807)) (.i (decide ((ByteArray.mk #[(44:UInt8),(32:UInt8)]++r4++ByteArray.mk #[(32:UInt8),(116:UInt8),(111:UInt8),(32:UInt8)]++r3).size+(ByteArray.mk #[(44:UInt8),(32:UInt8),(98:UInt8),(111:UInt8),(117:UInt8),(110:UInt8),(100:UInt8),(97:UInt8),(114:UInt8),(105:UInt8),(101:UInt8),(115:UInt8),(32:UInt8)]).size≤9223372036854775807)) (.bn (strings_Join r5.2.2.2.2.2.2.2 (ByteArray.mk #[(44:UInt8),(32:UInt8)])) fun r2=>.i (decide ((ByteArray.mk #[(44:UInt8),(32:UInt8)]++r4++ByteArray.mk #[(32:UInt8),(116:UInt8),(111:UInt8),(32:UInt8)]++r3++ByteArray.mk #[(44:UInt8),(32:UInt8),(98:UInt8),(111:UInt8),(117:UInt8),(110:UInt8),(100:UInt8),(97:UInt8),(114:UInt8),(105:UInt8),(101:UInt8),(115:UInt8),(32:UInt8)]).size+r2.size≤9223372036854775807)) (.i (decide (r5.1.size+(ByteArray.mk #[(44:UInt8),(32:UInt8)]++r4++ByteArray.mk #[(32:UInt8),(116:UInt8),(111:UInt8),(32:UInt8)]++r3++ByteArray.mk #[(44:UInt8),(32:UInt8),(98:UInt8),(111:UInt8),(117:UInt8),(110:UInt8),(100:UInt8),(97:UInt8),(114:UInt8),(105:UInt8),(101:UInt8),(115:UInt8),(32:UInt8)]++r2).size≤9223372036854775807)) (.i (decide ((r5.2.2.2.2.2.1.length+[r5.1++(ByteArray.mk #[(44:UInt8),(32:UInt8)]++r4++ByteArray.mk #[(32:UInt8),(116:UInt8),(111:UInt8),(32:UInt8)]++r3++ByteArray.mk #[(44:UInt8),(32:UInt8),(98:UInt8),(111:UInt8),(117:UInt8),(110:UInt8),(100:UInt8),(97:UInt8),(114:UInt8),(105:UInt8),(101:UInt8),(115:UInt8),(32:UInt8)]++r2)].length)*16≤reach)) (.h ((),(),(r5.2.1),(r5.2.2.1),(IntKind.i64.wrap (r5.2.2.2.1+1)),()) ((r5.2.2.2.2.1),(r5.2.2.2.2.2.1++[r5.1++(ByteArray.mk #[(44:UInt8),(32:UInt8)]++r4++ByteArray.mk #[(32:UInt8),(116:UInt8),(111:UInt8),(32:UInt8)]++r3++ByteArray.mk #[(44:UInt8),(32:UInt8),(98:UInt8),(111:UInt8),(117:UInt8),(110:UInt8),(100:UInt8),(97:UInt8),(114:UInt8),(105:UInt8),(101:UInt8),(115:UInt8),(32:UInt8)]++r2)]),())) .d) .d) .d) .d) .d) .d) .d) (.i (decide ((out_.length+[ByteArray.mk #[(99:UInt8),(111:UInt8),(108:UInt8),(117:UInt8),(109:UInt8),(110:UInt8),(32:UInt8)]++r7++ByteArray.mk #[(58:UInt8),(32:UInt8)]++r6++ByteArray.mk #[(32:UInt8),(100:UInt8),(105:UInt8),(115:UInt8),(116:UInt8),(105:UInt8),(110:UInt8),(99:UInt8),(116:UInt8)]].length)*16≤reach)) (.h ((),(),t25,t26,(IntKind.i64.wrap (t27+1)),()) (s,(out_++[ByteArray.mk #[(99:UInt8),(111:UInt8),(108:UInt8),(117:UInt8),(109:UInt8),(110:UInt8),(32:UInt8)]++r7++ByteArray.mk #[(58:UInt8),(32:UInt8)]++r6++ByteArray.mk #[(32:UInt8),(100:UInt8),(105:UInt8),(115:UInt8),(116:UInt8),(105:UInt8),(110:UInt8),(99:UInt8),(116:UInt8)]]),())) .d)) .d) .d) .d) .d) .d) (.k out_)
def zl3 (x:ttTstatisticsFormat3) (y:ttTstatisticsFormat4):Wy ttTstatisticsFormat3 ttTstatisticsFormat4 (List ByteArray):=zzL x.2.2.1 x.2.2.2.1 x.2.2.2.2.1 y.1 y.2.1
def zzK (n:Nat) (t25:List ColumnStats) (t26:Int) (t27:Int) (s:Stats) (out_:List ByteArray):Bool×List ByteArray:=zN (zl3) default n ((),(),t25,t26,t27,()) (s,out_,())
def zql (r:List ByteArray):LTree ty:=.done (.exit 0) [.own 312] [.arr 9 r false]
def zrD:LL ty ttTstatisticsFormat3:=za (zct 312 0) (za (lOwn 313) (za (lSl 43) (za (lInt .i64) (za (lInt .i64) zG))))
def zrI:BL ty ttTstatisticsFormat4:=bBox (zhc (fun x=>(⟨x.1,x.2.1,x.2.2.1⟩:Stats)) (fun x=>(x.Table,x.Rows,x.Columns,())) (fun _=>rfl) (za (lInt .i64) (za (lInt .i64) (za (lSl 43) zG)))) false (bArr 9 false (bNil))
def zpZ (x:ttTstatisticsFormat0) (y:ttTstatisticsFormat1):Nat:=(x.2.2.2.1.size+x.2.2.2.2.2.1.length+Int.toNat x.2.2.2.2.2.2.1+Int.toNat x.2.2.2.2.2.2.2.1+x.2.2.2.2.2.2.2.2.1.length+Int.toNat x.2.2.2.2.2.2.2.2.2.1+Int.toNat x.2.2.2.2.2.2.2.2.2.2.1+y.1.Columns.length+y.2.1.length+y.2.2.1.Bounds.length+y.2.2.2.1.length+1000)
def zqZ (x:ttTstatisticsFormat3) (y:ttTstatisticsFormat4):Nat:=(x.2.2.1.length+Int.toNat x.2.2.2.1+Int.toNat x.2.2.2.2.1+y.1.Columns.length+y.2.1.length+1000)
def zmh:Cx ty:=mkCx base0 78 [(15,zgU),(52,strconv_Itoa_spec),(53,zuM),(54,strings_Join_spec)] [] [(5,[(1,.keep),(3,.keep),(25,.keep),(26,.keep),(27,.keep)]),(11,[(1,.keep),(3,.keep),(5,.keep),(6,.keep),(7,.own 9),(25,.keep),(26,.keep),(27,.keep),(45,.keep),(46,.keep),(47,.keep)])] [(5,1,[(3,.keep)]),(11,3,[(1,.keep),(3,.keep),(5,.keep),(6,.keep),(7,.keep),(25,.keep),(26,.keep),(27,.keep)])] [(11,spW zq8 zqM (zkQ) default zpj zpZ),(5,spW zrD zrI (zl3) default zql zqZ)] []
theorem zyr:zS zmh (lp (body Tryz.f24) 1):=zL (id:=11) (V:=zq8) (B:=zqM) (W:=zkQ) (z:=default) (tr:=zpj) (m:=zpZ)
theorem zzc:zS zmh (lp (body Tryz.f24) 0):=zL (id:=5) (V:=zrD) (B:=zrI) (W:=zl3) (z:=default) (tr:=zql) (m:=zqZ)
def zsL (s:Stats):Wy0 (List ByteArray):=.bn (zgN s) fun r17=>.i (!r17) (.k []) (.bn (strconv_Itoa s.Table) fun r16=>.i (decide ((ByteArray.mk #[(116:UInt8),(97:UInt8),(98:UInt8),(108:UInt8),(101:UInt8),(32:UInt8),(116:UInt8)]).size+r16.size≤9223372036854775807)) (.i (decide ((ByteArray.mk #[(116:UInt8),(97:UInt8),(98:UInt8),(108:UInt8),(101:UInt8),(32:UInt8),(116:UInt8)]++r16).size+(ByteArray.mk #[(58:UInt8),(32:UInt8)]).size≤9223372036854775807)) (.bn (strconv_Itoa s.Rows) fun r15=>.i (decide ((ByteArray.mk #[(116:UInt8),(97:UInt8),(98:UInt8),(108:UInt8),(101:UInt8),(32:UInt8),(116:UInt8)]++r16++ByteArray.mk #[(58:UInt8),(32:UInt8)]).size+r15.size≤9223372036854775807)) (.i (decide ((ByteArray.mk #[(116:UInt8),(97:UInt8),(98:UInt8),(108:UInt8),(101:UInt8),(32:UInt8),(116:UInt8)]++r16++ByteArray.mk #[(58:UInt8),(32:UInt8)]++r15).size+(ByteArray.mk #[(32:UInt8),(114:UInt8),(111:UInt8),(119:UInt8),(115:UInt8)]).size≤9223372036854775807)) (.bn (zzK (s.Columns.length+(Int.ofNat s.Columns.length).toNat +Int.toNat 0+s.Columns.length+[ByteArray.mk #[(116:UInt8),(97:UInt8),(98:UInt8),(108:UInt8),(101:UInt8),(32:UInt8),(116:UInt8)]++r16++ByteArray.mk #[(58:UInt8),(32:UInt8)]++r15++ByteArray.mk #[(32:UInt8),(114:UInt8),(111:UInt8),(119:UInt8),(115:UInt8)]].length+1000) s.Columns (Int.ofNat s.Columns.length) 0 s [ByteArray.mk #[(116:UInt8),(97:UInt8),(98:UInt8),(108:UInt8),(101:UInt8),(32:UInt8),(116:UInt8)]++r16++ByteArray.mk #[(58:UInt8),(32:UInt8)]++r15++ByteArray.mk #[(32:UInt8),(114:UInt8),(111:UInt8),(119:UInt8),(115:UInt8)]]) fun r14=>.k r14) .d) .d) .d) .d)
def zu9 (s:Stats):Bool×List ByteArray:=(zsL s).fin default
def zq7 (r:List ByteArray):ARes ty:=⟨[.own 9 r],[]⟩
def zsu:AL base0 (Stats×Unit):=zf (zg (vAgg 30)) aNil
def zpQ:Ab.Spec ty:=zm zsu fun x=>((zu9 x.1).1,zq7 (zu9 x.1).2)
theorem zwY:Sound Tryz.prog base0 24 zpQ:=
 zu (cx':=zmh) zH zs3 zD (zx ⟨zhZ.nodr,zB7.nodr,zBT,zB3,trivial⟩) Tryz.call24 Tryz.func24 (c:=body Tryz.f24) (by kernel_rfl) (zh (l:=[lp (body Tryz.f24) 0,lp (body Tryz.f24) 1]) (by kernel_rfl) ⟨zzc,zyr,trivial⟩) (sg:=⟨[.own 9],[]⟩) (A:=zsu) (res:=zq7) (W:=fun x=>zsL x.1) (z:=default)
def zpq (r:Int):ARes ty:=⟨[.pure (.lit (.int .i64 r))],[]⟩
def zrh:AL base (List Term×List Term×Unit):=zf (zg (vSl 152)) (zf (zg (vSl 152)) aNil)
def zcD (F:List Term→List Term→Bool×Int):Ab.Spec ty:=zm zrh fun x=>((F x.1 x.2.1).1,zpq (F x.1 x.2.1).2)
def znf (r:Int):ARes ty:=⟨[.pure (.lit (.int .i64 r))],[]⟩
def zoD:AL base (Term×Term×Unit):=zf (zg (vAgg 152)) (zf (zg (vAgg 152)) aNil)
def zd5 (F:Term→Term→Bool×Int):Ab.Spec ty:=zm zoD fun x=>((F x.1 x.2.1).1,znf (F x.1 x.2.1).2)
def zlB (r:Int):ARes ty:=⟨[.pure (.lit (.int .i64 r))],[]⟩
def zm1:AL base (Term×Term×Unit):=zf (zg (vAgg 152)) (zf (zg (vAgg 152)) aNil)
def zeP (F:Term→Term→Bool×Int):Ab.Spec ty:=zm zm1 fun x=>((F x.1 x.2.1).1,zlB (F x.1 x.2.1).2)
def zkD (r:Int):ARes ty:=⟨[.pure (.lit (.int .i64 r))],[]⟩
def zly:AL base (Factor×Factor×Unit):=zf (zg (vAgg 160)) (zf (zg (vAgg 160)) aNil)
def zcR (F:Factor→Factor→Bool×Int):Ab.Spec ty:=zm zly fun x=>((F x.1 x.2.1).1,zkD (F x.1 x.2.1).2)
def zlG (r:Int):ARes ty:=⟨[.pure (.lit (.int .i64 r))],[]⟩
def zng:AL base (Atom×Atom×Unit):=zf (zg (vAgg 158)) (zf (zg (vAgg 158)) aNil)
def zeX (F:Atom→Atom→Bool×Int):Ab.Spec ty:=zm zng fun x=>((F x.1 x.2.1).1,zlG (F x.1 x.2.1).2)
def zlv (r:Int):ARes ty:=⟨[.pure (.lit (.int .i64 r))],[]⟩
def znp:AL base (Weighted×Weighted×Unit):=zf (zg (vAgg 182)) (zf (zg (vAgg 182)) aNil)
def zcC (F:Weighted→Weighted→Bool×Int):Ab.Spec ty:=zm znp fun x=>((F x.1 x.2.1).1,zlv (F x.1 x.2.1).2)
def zck (r:Int):ARes ty:=⟨[.pure (.lit (.int .i64 r))],[]⟩
def zcy:AL base (List Term×List Term×Unit×Unit):=zf (zg (vSl 152)) (zf (zg (vSl 152)) (zf (zg (vFn 198 vNil)) aNil))
def z6 (F:List Term→List Term→Bool×Int):Ab.Spec ty:=zm zcy fun x=>((F x.1 x.2.1).1,zck (F x.1 x.2.1).2)
def zcA (r:Int):ARes ty:=⟨[.pure (.lit (.int .i64 r))],[]⟩
def zcG:AL base (List Factor×List Factor×Unit×Unit):=zf (zg (vSl 160)) (zf (zg (vSl 160)) (zf (zg (vFn 143 vNil)) aNil))
def zbb (F:List Factor→List Factor→Bool×Int):Ab.Spec ty:=zm zcG fun x=>((F x.1 x.2.1).1,zcA (F x.1 x.2.1).2)
def zbI (r:Int):ARes ty:=⟨[.pure (.lit (.int .i64 r))],[]⟩
def zbM:AL base (List (List Term)×List (List Term)×Unit×Unit):=zf (zg (vSl 36)) (zf (zg (vSl 36)) (zf (zg (vFn 145 vNil)) aNil))
def zQ (F:List (List Term)→List (List Term)→Bool×Int):Ab.Spec ty:=zm zbM fun x=>((F x.1 x.2.1).1,zbI (F x.1 x.2.1).2)
def zbX (r:Int):ARes ty:=⟨[.pure (.lit (.int .i64 r))],[]⟩
def zb5:AL base (List Weighted×List Weighted×Unit×Unit):=zf (zg (vSl 182)) (zf (zg (vSl 182)) (zf (zg (vFn 147 vNil)) aNil))
def zY (F:List Weighted→List Weighted→Bool×Int):Ab.Spec ty:=zm zb5 fun x=>((F x.1 x.2.1).1,zbX (F x.1 x.2.1).2)
def zw6 (zA:List Term→List Term→Bool×Int) (zB:Term→Term→Bool×Int):Cx ty:=mkCx base 8 [(197,(z6 zA)),(198,(zd5 zB))] [] [] [] [] []
def zpJ (zA:List Term→List Term→Bool×Int) (zB:Term→Term→Bool×Int) (a:List Term) (b:List Term):Wy0 (Int):=.bn (zA a b) fun r0=>.k r0
def zrW (zA:List Term→List Term→Bool×Int) (zB:Term→Term→Bool×Int) (a:List Term) (b:List Term):Bool×Int:=(zpJ zA zB a b).fin default
theorem zue (zA:List Term→List Term→Bool×Int) (zB:Term→Term→Bool×Int) (zfI:Sound Tryz.prog base 197 (z6 zA)) (zje:Sound Tryz.prog base 198 (zd5 zB)):Sound Tryz.prog base 145 (zcD (zrW zA zB)):=
 zu (cx':=(zw6 zA zB)) zH zn zD (zx ⟨zfI,zje,trivial⟩) Tryz.call145 Tryz.func145 (c:=body Tryz.f145) (by kernel_rfl) (zh (l:=[]) (by kernel_rfl) trivial) (sg:=⟨[.pure],[]⟩) (A:=zrh) (res:=zpq) (W:=fun x=>zpJ zA zB x.1 x.2.1) (z:=default)
def zuk (zbp:Term→Term→Bool×Int):Cx ty:=mkCx base 15 [(108,(zeP zbp)),(121,ziw),(123,zkp)] [] [] [] [] []
def zmZ (zbp:Term→Term→Bool×Int) (x_:Term) (y_:Term):Wy0 (Int):=.bn (zbp x_ y_) fun r2=>.bn (zhn x_.Coeff y_.Coeff) fun r1=>.bn (zjh [r2,r1]) fun r0=>.k r0
def zoX (zbp:Term→Term→Bool×Int) (x_:Term) (y_:Term):Bool×Int:=(zmZ zbp x_ y_).fin default
theorem zso (zbp:Term→Term→Bool×Int) (ztx:Sound Tryz.prog base 108 (zeP zbp)):Sound Tryz.prog base 198 (zd5 (zoX zbp)):=
 zu (cx':=(zuk zbp)) zH zn zD (zx ⟨ztx,zjC,zoV,trivial⟩) Tryz.call198 Tryz.func198 (c:=body Tryz.f198) (by kernel_rfl) (zh (l:=[]) (by kernel_rfl) trivial) (sg:=⟨[.pure],[]⟩) (A:=zoD) (res:=znf) (W:=fun x=>zmZ zbp x.1 x.2.1) (z:=default)
def ztg (zk:List (List Term)→List (List Term)→Bool×Int) (zp:List Term→List Term→Bool×Int) (zr:List Weighted→List Weighted→Bool×Int) (zt:Weighted→Weighted→Bool×Int):Cx ty:=mkCx base 51 [(79,zcb),(121,ziw),(122,zi9),(144,(zQ zk)),(145,(zcD zp)),(146,(zY zr)),(147,(zcC zt))] [] [] [] [] []
def zlO (zk:List (List Term)→List (List Term)→Bool×Int) (zp:List Term→List Term→Bool×Int) (zr:List Weighted→List Weighted→Bool×Int) (zt:Weighted→Weighted→Bool×Int) (a:Atom) (b:Atom):Wy0 (Int):=.bn (zc8 a.Kind b.Kind) fun r8=>.bn (zc8 a.Row.Table b.Row.Table) fun r7=>.bn (zc8 a.Row.Seq b.Row.Seq) fun r6=>.bn (zk a.Args b.Args) fun r5=>.bn (zc8 a.Func b.Func) fun r4=>.bn (zr a.Items b.Items) fun r3=>.bn (zc8 a.Op b.Op) fun r2=>.bn (zbd a.Bound b.Bound) fun r1=>.bn (zjh [r8,r7,r6,r5,r4,r3,r2,r1]) fun r0=>.k r0
def znC (zk:List (List Term)→List (List Term)→Bool×Int) (zp:List Term→List Term→Bool×Int) (zr:List Weighted→List Weighted→Bool×Int) (zt:Weighted→Weighted→Bool×Int) (a:Atom) (b:Atom):Bool×Int:=(zlO zk zp zr zt a b).fin default
theorem zq9 (zk:List (List Term)→List (List Term)→Bool×Int) (zp:List Term→List Term→Bool×Int) (zr:List Weighted→List Weighted→Bool×Int) (zt:Weighted→Weighted→Bool×Int) (zdI:Sound Tryz.prog base 144 (zQ zk)) (zgw:Sound Tryz.prog base 145 (zcD zp)) (zeF:Sound Tryz.prog base 146 (zY zr)) (zic:Sound Tryz.prog base 147 (zcC zt)):Sound Tryz.prog base 110 (zeX (znC zk zp zr zt)):=
 zu (cx':=(ztg zk zp zr zt)) zH zn zD (zx ⟨zcp,zjC,zlh,zdI,zgw,zeF,zic,trivial⟩) Tryz.call110 Tryz.func110 (c:=body Tryz.f110) (by kernel_rfl) (zh (l:=[]) (by kernel_rfl) trivial) (sg:=⟨[.pure],[]⟩) (A:=zng) (res:=zlG) (W:=fun x=>zlO zk zp zr zt x.1 x.2.1) (z:=default)
def zrF (zbq:Atom→Atom→Bool×Int):Cx ty:=mkCx base 17 [(110,(zeX zbq)),(121,ziw),(122,zi9)] [] [] [] [] []
def zkF (zbq:Atom→Atom→Bool×Int) (a:Factor) (b:Factor):Wy0 (Int):=.bn (zbq (Atom.mk a.Atom.Kind a.Atom.Row a.Atom.Args a.Atom.Func a.Atom.Items a.Atom.Op a.Atom.Bound) (Atom.mk b.Atom.Kind b.Atom.Row b.Atom.Args b.Atom.Func b.Atom.Items b.Atom.Op b.Atom.Bound)) fun r2=>.bn (zc8 a.Exp b.Exp) fun r1=>.bn (zjh [r2,r1]) fun r0=>.k r0
def zlz (zbq:Atom→Atom→Bool×Int) (a:Factor) (b:Factor):Bool×Int:=(zkF zbq a b).fin default
theorem zpu (zbq:Atom→Atom→Bool×Int) (ztG:Sound Tryz.prog base 110 (zeX zbq)):Sound Tryz.prog base 143 (zcR (zlz zbq)):=
 zu (cx':=(zrF zbq)) zH zn zD (zx ⟨ztG,zjC,zlh,trivial⟩) Tryz.call143 Tryz.func143 (c:=body Tryz.f143) (by kernel_rfl) (zh (l:=[]) (by kernel_rfl) trivial) (sg:=⟨[.pure],[]⟩) (A:=zly) (res:=zkD) (W:=fun x=>zkF zbq x.1 x.2.1) (z:=default)
def zs8 (zp:List Term→List Term→Bool×Int):Cx ty:=mkCx base 17 [(79,zcb),(121,ziw),(145,(zcD zp))] [] [] [] [] []
def zlE (zp:List Term→List Term→Bool×Int) (a:Weighted) (b:Weighted):Wy0 (Int):=.bn (zbd a.Value b.Value) fun r2=>.bn (zp a.Ann b.Ann) fun r1=>.bn (zjh [r2,r1]) fun r0=>.k r0
def znm (zp:List Term→List Term→Bool×Int) (a:Weighted) (b:Weighted):Bool×Int:=(zlE zp a b).fin default
theorem zrg (zp:List Term→List Term→Bool×Int) (zgw:Sound Tryz.prog base 145 (zcD zp)):Sound Tryz.prog base 147 (zcC (znm zp)):=
 zu (cx':=(zs8 zp)) zH zn zD (zx ⟨zcp,zjC,zgw,trivial⟩) Tryz.call147 Tryz.func147 (c:=body Tryz.f147) (by kernel_rfl) (zh (l:=[]) (by kernel_rfl) trivial) (sg:=⟨[.pure],[]⟩) (A:=znp) (res:=zlv) (W:=fun x=>zlE zp x.1 x.2.1) (z:=default)
def zs5 (zC:List Factor→List Factor→Bool×Int) (zo:Factor→Factor→Bool×Int):Cx ty:=mkCx base 10 [(142,(zbb zC)),(143,(zcR zo))] [] [] [] [] []
def zlH (zC:List Factor→List Factor→Bool×Int) (zo:Factor→Factor→Bool×Int) (a:Term) (b:Term):Wy0 (Int):=.bn (zC a.Factors b.Factors) fun r0=>.k r0
def znG (zC:List Factor→List Factor→Bool×Int) (zo:Factor→Factor→Bool×Int) (a:Term) (b:Term):Bool×Int:=(zlH zC zo a b).fin default
theorem zrd (zC:List Factor→List Factor→Bool×Int) (zo:Factor→Factor→Bool×Int) (zf4:Sound Tryz.prog base 142 (zbb zC)) (zhv:Sound Tryz.prog base 143 (zcR zo)):Sound Tryz.prog base 108 (zeP (znG zC zo)):=
 zu (cx':=(zs5 zC zo)) zH zn zD (zx ⟨zf4,zhv,trivial⟩) Tryz.call108 Tryz.func108 (c:=body Tryz.f108) (by kernel_rfl) (zh (l:=[]) (by kernel_rfl) trivial) (sg:=⟨[.pure],[]⟩) (A:=zm1) (res:=zlB) (W:=fun x=>zlH zC zo x.1 x.2.1) (z:=default)
abbrev ttTslicesCompareFuncLapiAnnotationLapiAnnotationapiAnnotationapiAnnotation0:=List (List Term)×List (List Term)×Unit×List (List Term)×Int×Int×Unit
abbrev ttTslicesCompareFuncLapiAnnotationLapiAnnotationapiAnnotationapiAnnotation1:=Int⊕(List (List Term)×List (List Term))
def zdw (zp:List Term→List Term→Bool×Int) (s1:List (List Term)) (s2:List (List Term)) (t11:List (List Term)) (t12:Int) (t13:Int):Wy ttTslicesCompareFuncLapiAnnotationLapiAnnotationapiAnnotationapiAnnotation0 (Unit) ttTslicesCompareFuncLapiAnnotationLapiAnnotationapiAnnotationapiAnnotation1:=.i (decide (t13<t12)) (.i (decide (0≤t13)&&decide (t13<Int.ofNat t11.length)) (.i (decide (t13≥Int.ofNat s2.length)) (.k (.inl 1)) (.i (decide (0≤t13)&&decide (t13<Int.ofNat s2.length)) (.bn (zp (t11.getD t13.toNat default) (s2.getD t13.toNat default)) fun r0=>.i (r0 != 0) (.k (.inl (r0))) (.h (s1,s2,(),t11,t12,(IntKind.i64.wrap (t13+1)),()) ())) .d)) .d) (.k (.inr (s1,s2)))
def z8 (zp:List Term→List Term→Bool×Int) (x:ttTslicesCompareFuncLapiAnnotationLapiAnnotationapiAnnotationapiAnnotation0) (y:Unit):Wy ttTslicesCompareFuncLapiAnnotationLapiAnnotationapiAnnotationapiAnnotation0 (Unit) ttTslicesCompareFuncLapiAnnotationLapiAnnotationapiAnnotationapiAnnotation1:=zdw zp x.1 x.2.1 x.2.2.2.1 x.2.2.2.2.1 x.2.2.2.2.2.1
def zdv (zp:List Term→List Term→Bool×Int) (n:Nat) (s1:List (List Term)) (s2:List (List Term)) (t11:List (List Term)) (t12:Int) (t13:Int):Bool×ttTslicesCompareFuncLapiAnnotationLapiAnnotationapiAnnotationapiAnnotation1:=zN (z8 zp) (.inl default) n (s1,s2,(),t11,t12,t13,()) ()
def zbA (r:ttTslicesCompareFuncLapiAnnotationLapiAnnotationapiAnnotationapiAnnotation1):LTree ty:=.ite (isL r) (.done .ret [.lit (.int .i64 (getL r))] []) (.done (.exit 0) [.sl 36 (getR r).1,.sl 36 (getR r).2] [])
def zbG:LL ty ttTslicesCompareFuncLapiAnnotationLapiAnnotationapiAnnotationapiAnnotation0:=za (lSl 36) (za (lSl 36) (za (lFn 145 (zG)) (za (lSl 36) (za (lInt .i64) (za (lInt .i64) zG)))))
def zbE:BL ty (Unit):=bNil
def zbz (x:ttTslicesCompareFuncLapiAnnotationLapiAnnotationapiAnnotationapiAnnotation0) (y:Unit):Nat:=(x.1.length+x.2.1.length+x.2.2.2.1.length+Int.toNat x.2.2.2.2.1+Int.toNat x.2.2.2.2.2.1+1000)
def zbD (zp:List Term→List Term→Bool×Int):Cx ty:=mkCx base 39 [(145,(zcD zp))] [] [(2,[(0,.keep),(1,.keep),(2,.keep),(11,.keep),(12,.keep),(13,.keep)])] [(2,1,[(0,.keep),(1,.keep)]),(2,0,[(6,.keep)])] [(2,spW zbG zbE (z8 zp) (.inl default) zbA zbz)] []
theorem zdl (zp:List Term→List Term→Bool×Int):zS (zbD zp) (lp (body Tryz.f144) 0):=zL (id:=2) (V:=zbG) (B:=zbE) (W:=z8 zp) (z:=.inl default) (tr:=zbA) (m:=zbz)
def zbH (zp:List Term→List Term→Bool×Int) (s1:List (List Term)) (s2:List (List Term)):Wy0 (Int):=.bn (zdv zp (s1.length+s2.length+s1.length+(Int.ofNat s1.length).toNat +Int.toNat 0+1000) s1 s2 s1 (Int.ofNat s1.length) 0) fun r2=>.i (isL r2) (.k (getL r2)) (.i (decide (Int.ofNat (getR r2).1.length<Int.ofNat (getR r2).2.length)) (.k (-1:Int)) (.k 0))
def zbL (zp:List Term→List Term→Bool×Int) (s1:List (List Term)) (s2:List (List Term)):Bool×Int:=(zbH zp s1 s2).fin default
theorem zdg (zp:List Term→List Term→Bool×Int) (zgw:Sound Tryz.prog base 145 (zcD zp)):Sound Tryz.prog base 144 (zQ (zbL zp)):=
 zu (cx':=(zbD zp)) zH zn zD (zx ⟨zgw,trivial⟩) Tryz.call144 Tryz.func144 (c:=body Tryz.f144) (by kernel_rfl) (zh (l:=[lp (body Tryz.f144) 0]) (by kernel_rfl) ⟨zdl zp,trivial⟩) (sg:=⟨[.pure],[]⟩) (A:=zbM) (res:=zbI) (W:=fun x=>zbH zp x.1 x.2.1) (z:=default)
abbrev ttTslicesCompareFuncLapiFactorLapiFactorapiFactorapiFactor0:=List Factor×List Factor×Unit×List Factor×Int×Int×Unit
abbrev ttTslicesCompareFuncLapiFactorLapiFactorapiFactorapiFactor1:=Int⊕(List Factor×List Factor)
def zfP (zo:Factor→Factor→Bool×Int) (s1:List Factor) (s2:List Factor) (t11:List Factor) (t12:Int) (t13:Int):Wy ttTslicesCompareFuncLapiFactorLapiFactorapiFactorapiFactor0 (Unit) ttTslicesCompareFuncLapiFactorLapiFactorapiFactorapiFactor1:=.i (decide (t13<t12)) (.i (decide (0≤t13)&&decide (t13<Int.ofNat t11.length)) (.i (decide (t13≥Int.ofNat s2.length)) (.k (.inl 1)) (.i (decide (0≤t13)&&decide (t13<Int.ofNat s2.length)) (.bn (zo (FactorOf.mk (Atom.mk (t11.getD t13.toNat default).Atom.Kind (t11.getD t13.toNat default).Atom.Row (t11.getD t13.toNat default).Atom.Args (t11.getD t13.toNat default).Atom.Func (t11.getD t13.toNat default).Atom.Items (t11.getD t13.toNat default).Atom.Op (t11.getD t13.toNat default).Atom.Bound) (t11.getD t13.toNat default).Exp) (FactorOf.mk (Atom.mk (s2.getD t13.toNat default).Atom.Kind (s2.getD t13.toNat default).Atom.Row (s2.getD t13.toNat default).Atom.Args (s2.getD t13.toNat default).Atom.Func (s2.getD t13.toNat default).Atom.Items (s2.getD t13.toNat default).Atom.Op (s2.getD t13.toNat default).Atom.Bound) (s2.getD t13.toNat default).Exp)) fun r0=>.i (r0 != 0) (.k (.inl (r0))) (.h (s1,s2,(),t11,t12,(IntKind.i64.wrap (t13+1)),()) ())) .d)) .d) (.k (.inr (s1,s2)))
def zbo (zo:Factor→Factor→Bool×Int) (x:ttTslicesCompareFuncLapiFactorLapiFactorapiFactorapiFactor0) (y:Unit):Wy ttTslicesCompareFuncLapiFactorLapiFactorapiFactorapiFactor0 (Unit) ttTslicesCompareFuncLapiFactorLapiFactorapiFactorapiFactor1:=zfP zo x.1 x.2.1 x.2.2.2.1 x.2.2.2.2.1 x.2.2.2.2.2.1
def zf0 (zo:Factor→Factor→Bool×Int) (n:Nat) (s1:List Factor) (s2:List Factor) (t11:List Factor) (t12:Int) (t13:Int):Bool×ttTslicesCompareFuncLapiFactorLapiFactorapiFactorapiFactor1:=zN (zbo zo) (.inl default) n (s1,s2,(),t11,t12,t13,()) ()
def zcl (r:ttTslicesCompareFuncLapiFactorLapiFactorapiFactorapiFactor1):LTree ty:=.ite (isL r) (.done .ret [.lit (.int .i64 (getL r))] []) (.done (.exit 0) [.sl 160 (getR r).1,.sl 160 (getR r).2] [])
def zcs:LL ty ttTslicesCompareFuncLapiFactorLapiFactorapiFactorapiFactor0:=za (lSl 160) (za (lSl 160) (za (lFn 143 (zG)) (za (lSl 160) (za (lInt .i64) (za (lInt .i64) zG)))))
def zcr:BL ty (Unit):=bNil
def zcj (x:ttTslicesCompareFuncLapiFactorLapiFactorapiFactorapiFactor0) (y:Unit):Nat:=(x.1.length+x.2.1.length+x.2.2.2.1.length+Int.toNat x.2.2.2.2.1+Int.toNat x.2.2.2.2.2.1+1000)
def zcq (zo:Factor→Factor→Bool×Int):Cx ty:=mkCx base 39 [(143,(zcR zo))] [] [(2,[(0,.keep),(1,.keep),(2,.keep),(11,.keep),(12,.keep),(13,.keep)])] [(2,1,[(0,.keep),(1,.keep)]),(2,0,[(6,.keep)])] [(2,spW zcs zcr (zbo zo) (.inl default) zcl zcj)] []
theorem zfK (zo:Factor→Factor→Bool×Int):zS (zcq zo) (lp (body Tryz.f142) 0):=zL (id:=2) (V:=zcs) (B:=zcr) (W:=zbo zo) (z:=.inl default) (tr:=zcl) (m:=zcj)
def zcu (zo:Factor→Factor→Bool×Int) (s1:List Factor) (s2:List Factor):Wy0 (Int):=.bn (zf0 zo (s1.length+s2.length+s1.length+(Int.ofNat s1.length).toNat +Int.toNat 0+1000) s1 s2 s1 (Int.ofNat s1.length) 0) fun r2=>.i (isL r2) (.k (getL r2)) (.i (decide (Int.ofNat (getR r2).1.length<Int.ofNat (getR r2).2.length)) (.k (-1:Int)) (.k 0))
def zcF (zo:Factor→Factor→Bool×Int) (s1:List Factor) (s2:List Factor):Bool×Int:=(zcu zo s1 s2).fin default
theorem zfn (zo:Factor→Factor→Bool×Int) (zhv:Sound Tryz.prog base 143 (zcR zo)):Sound Tryz.prog base 142 (zbb (zcF zo)):=
 zu (cx':=(zcq zo)) zH zn zD (zx ⟨zhv,trivial⟩) Tryz.call142 Tryz.func142 (c:=body Tryz.f142) (by kernel_rfl) (zh (l:=[lp (body Tryz.f142) 0]) (by kernel_rfl) ⟨zfK zo,trivial⟩) (sg:=⟨[.pure],[]⟩) (A:=zcG) (res:=zcA) (W:=fun x=>zcu zo x.1 x.2.1) (z:=default)
abbrev ttTslicesCompareFuncLapiWeightedLapiWeightedapiWeightedapiWeighted0:=List Weighted×List Weighted×Unit×List Weighted×Int×Int×Unit
abbrev ttTslicesCompareFuncLapiWeightedLapiWeightedapiWeightedapiWeighted1:=Int⊕(List Weighted×List Weighted)
def zep (zt:Weighted→Weighted→Bool×Int) (s1:List Weighted) (s2:List Weighted) (t11:List Weighted) (t12:Int) (t13:Int):Wy ttTslicesCompareFuncLapiWeightedLapiWeightedapiWeightedapiWeighted0 (Unit) ttTslicesCompareFuncLapiWeightedLapiWeightedapiWeightedapiWeighted1:=.i (decide (t13<t12)) (.i (decide (0≤t13)&&decide (t13<Int.ofNat t11.length)) (.i (decide (t13≥Int.ofNat s2.length)) (.k (.inl 1)) (.i (decide (0≤t13)&&decide (t13<Int.ofNat s2.length)) (.bn (zt (t11.getD t13.toNat default) (s2.getD t13.toNat default)) fun r0=>.i (r0 != 0) (.k (.inl (r0))) (.h (s1,s2,(),t11,t12,(IntKind.i64.wrap (t13+1)),()) ())) .d)) .d) (.k (.inr (s1,s2)))
def zbf (zt:Weighted→Weighted→Bool×Int) (x:ttTslicesCompareFuncLapiWeightedLapiWeightedapiWeightedapiWeighted0) (y:Unit):Wy ttTslicesCompareFuncLapiWeightedLapiWeightedapiWeightedapiWeighted0 (Unit) ttTslicesCompareFuncLapiWeightedLapiWeightedapiWeightedapiWeighted1:=zep zt x.1 x.2.1 x.2.2.2.1 x.2.2.2.2.1 x.2.2.2.2.2.1
def zeo (zt:Weighted→Weighted→Bool×Int) (n:Nat) (s1:List Weighted) (s2:List Weighted) (t11:List Weighted) (t12:Int) (t13:Int):Bool×ttTslicesCompareFuncLapiWeightedLapiWeightedapiWeightedapiWeighted1:=zN (zbf zt) (.inl default) n (s1,s2,(),t11,t12,t13,()) ()
def zbS (r:ttTslicesCompareFuncLapiWeightedLapiWeightedapiWeightedapiWeighted1):LTree ty:=.ite (isL r) (.done .ret [.lit (.int .i64 (getL r))] []) (.done (.exit 0) [.sl 182 (getR r).1,.sl 182 (getR r).2] [])
def zbU:LL ty ttTslicesCompareFuncLapiWeightedLapiWeightedapiWeightedapiWeighted0:=za (lSl 182) (za (lSl 182) (za (lFn 147 (zG)) (za (lSl 182) (za (lInt .i64) (za (lInt .i64) zG)))))
def zbV:BL ty (Unit):=bNil
def zbR (x:ttTslicesCompareFuncLapiWeightedLapiWeightedapiWeightedapiWeighted0) (y:Unit):Nat:=(x.1.length+x.2.1.length+x.2.2.2.1.length+Int.toNat x.2.2.2.2.1+Int.toNat x.2.2.2.2.2.1+1000)
def zbW (zt:Weighted→Weighted→Bool×Int):Cx ty:=mkCx base 39 [(147,(zcC zt))] [] [(2,[(0,.keep),(1,.keep),(2,.keep),(11,.keep),(12,.keep),(13,.keep)])] [(2,1,[(0,.keep),(1,.keep)]),(2,0,[(6,.keep)])] [(2,spW zbU zbV (zbf zt) (.inl default) zbS zbR)] []
theorem zef (zt:Weighted→Weighted→Bool×Int):zS (zbW zt) (lp (body Tryz.f146) 0):=zL (id:=2) (V:=zbU) (B:=zbV) (W:=zbf zt) (z:=.inl default) (tr:=zbS) (m:=zbR)
def zbY (zt:Weighted→Weighted→Bool×Int) (s1:List Weighted) (s2:List Weighted):Wy0 (Int):=.bn (zeo zt (s1.length+s2.length+s1.length+(Int.ofNat s1.length).toNat +Int.toNat 0+1000) s1 s2 s1 (Int.ofNat s1.length) 0) fun r2=>.i (isL r2) (.k (getL r2)) (.i (decide (Int.ofNat (getR r2).1.length<Int.ofNat (getR r2).2.length)) (.k (-1:Int)) (.k 0))
def zb6 (zt:Weighted→Weighted→Bool×Int) (s1:List Weighted) (s2:List Weighted):Bool×Int:=(zbY zt s1 s2).fin default
theorem zd7 (zt:Weighted→Weighted→Bool×Int) (zic:Sound Tryz.prog base 147 (zcC zt)):Sound Tryz.prog base 146 (zY (zb6 zt)):=
 zu (cx':=(zbW zt)) zH zn zD (zx ⟨zic,trivial⟩) Tryz.call146 Tryz.func146 (c:=body Tryz.f146) (by kernel_rfl) (zh (l:=[lp (body Tryz.f146) 0]) (by kernel_rfl) ⟨zef zt,trivial⟩) (sg:=⟨[.pure],[]⟩) (A:=zb5) (res:=zbX) (W:=fun x=>zbY zt x.1 x.2.1) (z:=default)
abbrev ttTslicesCompareFuncapiAnnotationapiAnnotationapiTermapiTerm0:=List Term×List Term×Unit×List Term×Int×Int×Unit
abbrev ttTslicesCompareFuncapiAnnotationapiAnnotationapiTermapiTerm1:=Int⊕(List Term×List Term)
def zft (zB:Term→Term→Bool×Int) (s1:List Term) (s2:List Term) (t11:List Term) (t12:Int) (t13:Int):Wy ttTslicesCompareFuncapiAnnotationapiAnnotationapiTermapiTerm0 (Unit) ttTslicesCompareFuncapiAnnotationapiAnnotationapiTermapiTerm1:=.i (decide (t13<t12)) (.i (decide (0≤t13)&&decide (t13<Int.ofNat t11.length)) (.i (decide (t13≥Int.ofNat s2.length)) (.k (.inl 1)) (.i (decide (0≤t13)&&decide (t13<Int.ofNat s2.length)) (.bn (zB (t11.getD t13.toNat default) (s2.getD t13.toNat default)) fun r0=>.i (r0 != 0) (.k (.inl (r0))) (.h (s1,s2,(),t11,t12,(IntKind.i64.wrap (t13+1)),()) ())) .d)) .d) (.k (.inr (s1,s2)))
def zbk (zB:Term→Term→Bool×Int) (x:ttTslicesCompareFuncapiAnnotationapiAnnotationapiTermapiTerm0) (y:Unit):Wy ttTslicesCompareFuncapiAnnotationapiAnnotationapiTermapiTerm0 (Unit) ttTslicesCompareFuncapiAnnotationapiAnnotationapiTermapiTerm1:=zft zB x.1 x.2.1 x.2.2.2.1 x.2.2.2.2.1 x.2.2.2.2.2.1
def zfu (zB:Term→Term→Bool×Int) (n:Nat) (s1:List Term) (s2:List Term) (t11:List Term) (t12:Int) (t13:Int):Bool×ttTslicesCompareFuncapiAnnotationapiAnnotationapiTermapiTerm1:=zN (zbk zB) (.inl default) n (s1,s2,(),t11,t12,t13,()) ()
def zcc (r:ttTslicesCompareFuncapiAnnotationapiAnnotationapiTermapiTerm1):LTree ty:=.ite (isL r) (.done .ret [.lit (.int .i64 (getL r))] []) (.done (.exit 0) [.sl 152 (getR r).1,.sl 152 (getR r).2] [])
def zcg:LL ty ttTslicesCompareFuncapiAnnotationapiAnnotationapiTermapiTerm0:=za (lSl 152) (za (lSl 152) (za (lFn 198 (zG)) (za (lSl 152) (za (lInt .i64) (za (lInt .i64) zG)))))
def zce:BL ty (Unit):=bNil
def zcd (x:ttTslicesCompareFuncapiAnnotationapiAnnotationapiTermapiTerm0) (y:Unit):Nat:=(x.1.length+x.2.1.length+x.2.2.2.1.length+Int.toNat x.2.2.2.2.1+Int.toNat x.2.2.2.2.2.1+1000)
def zcf (zB:Term→Term→Bool×Int):Cx ty:=mkCx base 39 [(198,(zd5 zB))] [] [(2,[(0,.keep),(1,.keep),(2,.keep),(11,.keep),(12,.keep),(13,.keep)])] [(2,1,[(0,.keep),(1,.keep)]),(2,0,[(6,.keep)])] [(2,spW zcg zce (zbk zB) (.inl default) zcc zcd)] []
theorem zfj (zB:Term→Term→Bool×Int):zS (zcf zB) (lp (body Tryz.f197) 0):=zL (id:=2) (V:=zcg) (B:=zce) (W:=zbk zB) (z:=.inl default) (tr:=zcc) (m:=zcd)
def zci (zB:Term→Term→Bool×Int) (s1:List Term) (s2:List Term):Wy0 (Int):=.bn (zfu zB (s1.length+s2.length+s1.length+(Int.ofNat s1.length).toNat +Int.toNat 0+1000) s1 s2 s1 (Int.ofNat s1.length) 0) fun r2=>.i (isL r2) (.k (getL r2)) (.i (decide (Int.ofNat (getR r2).1.length<Int.ofNat (getR r2).2.length)) (.k (-1:Int)) (.k 0))
def zcz (zB:Term→Term→Bool×Int) (s1:List Term) (s2:List Term):Bool×Int:=(zci zB s1 s2).fin default
theorem ze1 (zB:Term→Term→Bool×Int) (zje:Sound Tryz.prog base 198 (zd5 zB)):Sound Tryz.prog base 197 (z6 (zcz zB)):=
 zu (cx':=(zcf zB)) zH zn zD (zx ⟨zje,trivial⟩) Tryz.call197 Tryz.func197 (c:=body Tryz.f197) (by kernel_rfl) (zh (l:=[lp (body Tryz.f197) 0]) (by kernel_rfl) ⟨zfj zB,trivial⟩) (sg:=⟨[.pure],[]⟩) (A:=zcy) (res:=zck) (W:=fun x=>zci zB x.1 x.2.1) (z:=default)
def zbj:Nat→(List Term→List Term→Bool×Int)×(Term→Term→Bool×Int)×(Term→Term→Bool×Int)×(Factor→Factor→Bool×Int)×(Atom→Atom→Bool×Int)×(Weighted→Weighted→Bool×Int)×(List Term→List Term→Bool×Int)×(List Factor→List Factor→Bool×Int)×(List (List Term)→List (List Term)→Bool×Int)×(List Weighted→List Weighted→Bool×Int)
 | 0=>(fun _ _=>(false,default),fun _ _=>(false,default),fun _ _=>(false,default),fun _ _=>(false,default),fun _ _=>(false,default),fun _ _=>(false,default),fun _ _=>(false,default),fun _ _=>(false,default),fun _ _=>(false,default),fun _ _=>(false,default))
 | n+1=>(zrW ((zbj n).2.2.2.2.2.2.1) ((zbj n).2.1),zoX ((zbj n).2.2.1),znG ((zbj n).2.2.2.2.2.2.2.1) ((zbj n).2.2.2.1),zlz ((zbj n).2.2.2.2.1),znC ((zbj n).2.2.2.2.2.2.2.2.1) ((zbj n).1) ((zbj n).2.2.2.2.2.2.2.2.2) ((zbj n).2.2.2.2.2.1),znm ((zbj n).1),zcz ((zbj n).2.1),zcF ((zbj n).2.2.2.1),zbL ((zbj n).1),zb6 ((zbj n).2.2.2.2.2.1))
def zrN (n:Nat):List Term→List Term→Bool×Int:=(zbj n).1
def zw5 (n:Nat):Term→Term→Bool×Int:=(zbj n).2.1
def zna (n:Nat):Term→Term→Bool×Int:=(zbj n).2.2.1
def zt5 (n:Nat):Factor→Factor→Bool×Int:=(zbj n).2.2.2.1
def znh (n:Nat):Atom→Atom→Bool×Int:=(zbj n).2.2.2.2.1
def zni (n:Nat):Weighted→Weighted→Bool×Int:=(zbj n).2.2.2.2.2.1
def zf5 (n:Nat):List Term→List Term→Bool×Int:=(zbj n).2.2.2.2.2.2.1
def zgA (n:Nat):List Factor→List Factor→Bool×Int:=(zbj n).2.2.2.2.2.2.2.1
def zdU (n:Nat):List (List Term)→List (List Term)→Bool×Int:=(zbj n).2.2.2.2.2.2.2.2.1
def zeZ (n:Nat):List Weighted→List Weighted→Bool×Int:=(zbj n).2.2.2.2.2.2.2.2.2
theorem zmA:∀ n,Sound Tryz.prog base 145 (zcD (zrN n))∧Sound Tryz.prog base 198 (zd5 (zw5 n))∧Sound Tryz.prog base 108 (zeP (zna n))∧Sound Tryz.prog base 143 (zcR (zt5 n))∧Sound Tryz.prog base 110 (zeX (znh n))∧Sound Tryz.prog base 147 (zcC (zni n))∧Sound Tryz.prog base 197 (z6 (zf5 n))∧Sound Tryz.prog base 142 (zbb (zgA n))∧Sound Tryz.prog base 144 (zQ (zdU n))∧Sound Tryz.prog base 146 (zY (zeZ n))
 | 0=>⟨zbs Tryz.call145 (fun _=>rfl),zbs Tryz.call198 (fun _=>rfl),zbs Tryz.call108 (fun _=>rfl),zbs Tryz.call143 (fun _=>rfl),zbs Tryz.call110 (fun _=>rfl),zbs Tryz.call147 (fun _=>rfl),zbs Tryz.call197 (fun _=>rfl),zbs Tryz.call142 (fun _=>rfl),zbs Tryz.call144 (fun _=>rfl),zbs Tryz.call146 (fun _=>rfl)⟩
 | n+1=>by
  have ih:=zmA n
  exact ⟨zue _ _ (ih.2.2.2.2.2.2.1) (ih.2.1),zso _ (ih.2.2.1),zrd _ _ (ih.2.2.2.2.2.2.2.1) (ih.2.2.2.1),zpu _ (ih.2.2.2.2.1),zq9 _ _ _ _ (ih.2.2.2.2.2.2.2.2.1) (ih.1) (ih.2.2.2.2.2.2.2.2.2) (ih.2.2.2.2.2.1),zrg _ (ih.1),ze1 _ (ih.2.1),zfn _ (ih.2.2.2.1),zdg _ (ih.1),zd7 _ (ih.2.2.2.2.2.1)⟩
def zt8:List Term→List Term→Bool×Int:=zrN 1000
def annotation_Compare_spec:Ab.Spec ty:=zcD zt8
theorem zvT:Sound Tryz.prog base 145 annotation_Compare_spec:=(zmA 1000).1
def zoR:Term→Term→Bool×Int:=zna 1000
def annotation_compareLists_spec:Ab.Spec ty:=zeP zoR
theorem zsp:Sound Tryz.prog base 108 annotation_compareLists_spec:=(zmA 1000).2.2.1
def zj2:Atom→Atom→Bool×Int:=znh 1000
def annotation_compareAtoms_spec:Ab.Spec ty:=zeX zj2
theorem zsn:Sound Tryz.prog base 110 annotation_compareAtoms_spec:=(zmA 1000).2.2.2.2.1
def zoK:Weighted→Weighted→Bool×Int:=zni 1000
def annotation_compareItems_spec:Ab.Spec ty:=zcC zoK
theorem zkC:Sound Tryz.prog base 147 annotation_compareItems_spec:=(zmA 1000).2.2.2.2.2.1
def zr5 (r:Bool):ARes ty:=⟨[.pure (.lit (.bool r))],[]⟩
def zt0:AL base (List Term×Unit):=zf (zg (vSl 152)) aNil
def zfm (F:List Term→Bool×Bool):Ab.Spec ty:=zm zt0 fun x=>((F x.1).1,zr5 (F x.1).2)
def zbw (r:Bool):ARes ty:=⟨[.pure (.lit (.bool r))],[]⟩
def zpL:AL base (Atom×Unit):=zf (zg (vAgg 158)) aNil
def zh4 (F:Atom→Bool×Bool):Ab.Spec ty:=zm zpL fun x=>((F x.1).1,zbw (F x.1).2)
def zlU (r:Bool):ARes ty:=⟨[.pure (.lit (.bool r))],[]⟩
def zny:AL base (List Term×Unit):=zf (zg (vSl 152)) aNil
def zb1 (F:List Term→Bool×Bool):Ab.Spec ty:=zm zny fun x=>((F x.1).1,zlU (F x.1).2)
def zlx (r:Bool):ARes ty:=⟨[.pure (.lit (.bool r))],[]⟩
def znz:AL base (Weighted×Unit):=zf (zg (vAgg 182)) aNil
def zb0 (F:Weighted→Bool×Bool):Ab.Spec ty:=zm znz fun x=>((F x.1).1,zlx (F x.1).2)
def zdW (r:Int):ARes ty:=⟨[.pure (.lit (.int .i64 r))],[]⟩
def zej:AL base (List (List Term)×Unit×Unit):=zf (zg (vSl 36)) (zf (zg (vFn 149 vNil)) aNil)
def zby (F:List (List Term)→Bool×Int):Ab.Spec ty:=zm zej fun x=>((F x.1).1,zdW (F x.1).2)
def zdq (r:Bool):ARes ty:=⟨[.pure (.lit (.bool r))],[]⟩
def zdO:AL base (List (List Term)×Unit×Unit):=zf (zg (vSl 36)) (zf (zg (vFn 149 vNil)) aNil)
def zbr (F:List (List Term)→Bool×Bool):Ab.Spec ty:=zm zdO fun x=>((F x.1).1,zdq (F x.1).2)
def zeH (r:Int):ARes ty:=⟨[.pure (.lit (.int .i64 r))],[]⟩
def zfi:AL base (List Weighted×Unit×Unit):=zf (zg (vSl 182)) (zf (zg (vFn 156 vNil)) aNil)
def zbP (F:List Weighted→Bool×Int):Ab.Spec ty:=zm zfi fun x=>((F x.1).1,zeH (F x.1).2)
def zeb (r:Bool):ARes ty:=⟨[.pure (.lit (.bool r))],[]⟩
def zex:AL base (List Weighted×Unit×Unit):=zf (zg (vSl 182)) (zf (zg (vFn 156 vNil)) aNil)
def zbF (F:List Weighted→Bool×Bool):Ab.Spec ty:=zm zex fun x=>((F x.1).1,zeb (F x.1).2)
def zwu:Cx ty:=mkCx base 11 [] [] [] [] [] []
def zoO (x_:Atom):Wy0 (Bool):=.i (x_.Kind==3) (.k true) (.k (x_.Kind==4))
def zix (x_:Atom):Bool×Bool:=(zoO x_).fin default
def znt (r:Bool):ARes ty:=⟨[.pure (.lit (.bool r))],[]⟩
def zoT:AL base (Atom×Unit):=zf (zg (vAgg 158)) aNil
def ziP:Ab.Spec ty:=zm zoT fun x=>((zix x.1).1,znt (zix x.1).2)
theorem zlJ:Sound Tryz.prog base 109 ziP:=
 zu (cx':=zwu) zH zn zD (zx trivial) Tryz.call109 Tryz.func109 (c:=body Tryz.f109) (by kernel_rfl) (zh (l:=[]) (by kernel_rfl) trivial) (sg:=⟨[.pure],[]⟩) (A:=zoT) (res:=znt) (W:=fun x=>zoO x.1) (z:=default)
def zsC (r:Int):ARes ty:=⟨[.pure (.lit (.int .i64 r))],[]⟩
def zu3:AL base (List Term×Unit):=zf (zg (vSl 152)) aNil
def ziR (F:List Term→Bool×Int):Ab.Spec ty:=zm zu3 fun x=>((F x.1).1,zsC (F x.1).2)
abbrev ttTannotationSize0:=Int×Unit×List Term×Int×Int×List Factor×Int×Int×List (List Term)×Int×Int×Unit
abbrev ttTannotationSize1:=Int×List Term×Int×Int×List Factor×Int×Int×Factor
abbrev ttTannotationSize2:=Int×List Term×Int×Int×List Factor×Int×Int×List Weighted×Int×Int×Unit
abbrev ttTannotationSize3:=Int×List Term×Int×Int×List Factor×Int×Int
abbrev ttTannotationSize4:=Int×List Term×Int×Int×List Factor×Int×Int×Unit
abbrev ttTannotationSize5:=Int×List Term×Int×Int
abbrev ttTannotationSize6:=Int×List Term×Int×Int×Unit
def zzr (zj:List Term→Bool×Int) (n_:Int) (t12:List Term) (t13:Int) (t14:Int) (t25:List Factor) (t26:Int) (t27:Int) (t33:List (List Term)) (t34:Int) (t35:Int) (f:Factor):Wy ttTannotationSize0 (Factor×Unit) ttTannotationSize1:=.i (decide (t35<t34)) (.i (decide (0≤t35)&&decide (t35<Int.ofNat t33.length)) (.bn (zj (t33.getD t35.toNat default)) fun r0=>.h ((IntKind.i64.wrap (n_+r0)),(),t12,t13,t14,t25,t26,t27,t33,t34,(IntKind.i64.wrap (t35+1)),()) (f,())) .d) (.k (n_,t12,t13,t14,t25,t26,t27,f))
def zk4 (zj:List Term→Bool×Int) (x:ttTannotationSize0) (y:Factor×Unit):Wy ttTannotationSize0 (Factor×Unit) ttTannotationSize1:=zzr zj x.1 x.2.2.1 x.2.2.2.1 x.2.2.2.2.1 x.2.2.2.2.2.1 x.2.2.2.2.2.2.1 x.2.2.2.2.2.2.2.1 x.2.2.2.2.2.2.2.2.1 x.2.2.2.2.2.2.2.2.2.1 x.2.2.2.2.2.2.2.2.2.2.1 y.1
def zyH (zj:List Term→Bool×Int) (n:Nat) (n_:Int) (t12:List Term) (t13:Int) (t14:Int) (t25:List Factor) (t26:Int) (t27:Int) (t33:List (List Term)) (t34:Int) (t35:Int) (f:Factor):Bool×ttTannotationSize1:=zN (zk4 zj) default n (n_,(),t12,t13,t14,t25,t26,t27,t33,t34,t35,()) (f,())
def zpM (r:ttTannotationSize1):LTree ty:=.done (.exit 4) [.lit (.int .i64 r.1),.ptr 248 0,.sl 152 r.2.1,.lit (.int .i64 r.2.2.1),.lit (.int .i64 r.2.2.2.1),.sl 160 r.2.2.2.2.1,.lit (.int .i64 r.2.2.2.2.2.1),.lit (.int .i64 r.2.2.2.2.2.2.1)] [.box (base.enc 160 r.2.2.2.2.2.2.2) false]
def zqW:LL ty ttTannotationSize0:=za (lInt .i64) (za (zct 248 0) (za (lSl 152) (za (lInt .i64) (za (lInt .i64) (za (lSl 160) (za (lInt .i64) (za (lInt .i64) (za (lSl 36) (za (lInt .i64) (za (lInt .i64) zG))))))))))
def zqt:BL ty (Factor×Unit):=bBox (zhc (fun x=>(⟨⟨x.1,⟨x.2.1,x.2.2.1⟩,x.2.2.2.1,x.2.2.2.2.1,x.2.2.2.2.2.1,x.2.2.2.2.2.2.1,⟨x.2.2.2.2.2.2.2.1,x.2.2.2.2.2.2.2.2.1,x.2.2.2.2.2.2.2.2.2.1⟩⟩,x.2.2.2.2.2.2.2.2.2.2.1⟩:Factor)) (fun x=>(x.Atom.Kind,x.Atom.Row.Table,x.Atom.Row.Seq,x.Atom.Args,x.Atom.Func,x.Atom.Items,x.Atom.Op,x.Atom.Bound.Kind,x.Atom.Bound.Int,x.Atom.Bound.Text,x.Exp,())) (fun _=>rfl) (za (lInt .i64) (za (lInt .i64) (za (lInt .i64) (za (lSl 36) (za (lInt .i64) (za (lSl 182) (za (lInt .i64) (za (lInt .i64) (za (lInt .i64) (za lStr (za (lInt .i64) zG)))))))))))) false (bNil)
def zyN (zj:List Term→Bool×Int) (n_:Int) (t12:List Term) (t13:Int) (t14:Int) (t25:List Factor) (t26:Int) (t27:Int) (t46:List Weighted) (t47:Int) (t48:Int):Wy ttTannotationSize2 (Unit) ttTannotationSize3:=.i (decide (t48<t47)) (.i (decide (0≤t48)&&decide (t48<Int.ofNat t46.length)) (.bn (zj (t46.getD t48.toNat default).Ann) fun r2=>.h ((IntKind.i64.wrap (n_+IntKind.i64.wrap (1+r2))),t12,t13,t14,t25,t26,t27,t46,t47,(IntKind.i64.wrap (t48+1)),()) ()) .d) (.k (n_,t12,t13,t14,t25,t26,t27))
def zk0 (zj:List Term→Bool×Int) (x:ttTannotationSize2) (y:Unit):Wy ttTannotationSize2 (Unit) ttTannotationSize3:=zyN zj x.1 x.2.1 x.2.2.1 x.2.2.2.1 x.2.2.2.2.1 x.2.2.2.2.2.1 x.2.2.2.2.2.2.1 x.2.2.2.2.2.2.2.1 x.2.2.2.2.2.2.2.2.1 x.2.2.2.2.2.2.2.2.2.1
def zy9 (zj:List Term→Bool×Int) (n:Nat) (n_:Int) (t12:List Term) (t13:Int) (t14:Int) (t25:List Factor) (t26:Int) (t27:Int) (t46:List Weighted) (t47:Int) (t48:Int):Bool×ttTannotationSize3:=zN (zk0 zj) default n (n_,t12,t13,t14,t25,t26,t27,t46,t47,t48,()) ()
def zpB (r:ttTannotationSize3):LTree ty:=.done (.exit 6) [.lit (.int .i64 r.1),.sl 152 r.2.1,.lit (.int .i64 r.2.2.1),.lit (.int .i64 r.2.2.2.1),.sl 160 r.2.2.2.2.1,.lit (.int .i64 r.2.2.2.2.2.1),.lit (.int .i64 r.2.2.2.2.2.2)] []
def zqV:LL ty ttTannotationSize2:=za (lInt .i64) (za (lSl 152) (za (lInt .i64) (za (lInt .i64) (za (lSl 160) (za (lInt .i64) (za (lInt .i64) (za (lSl 182) (za (lInt .i64) (za (lInt .i64) zG)))))))))
def zqp:BL ty (Unit):=bNil
def zzE (zj:List Term→Bool×Int) (n_:Int) (t12:List Term) (t13:Int) (t14:Int) (t25:List Factor) (t26:Int) (t27:Int):Wy ttTannotationSize4 (Unit) ttTannotationSize5:=.i (decide (t27<t26)) (.i (decide (0≤t27)&&decide (t27<Int.ofNat t25.length)) (.bn (zyH zj (n_.toNat +t12.length+t13.toNat +t14.toNat +t25.length+t26.toNat +t27.toNat +(t25.getD t27.toNat default).Atom.Args.length+(Int.ofNat (t25.getD t27.toNat default).Atom.Args.length).toNat +Int.toNat 0+(t25.getD t27.toNat default).Atom.Args.length+(t25.getD t27.toNat default).Atom.Items.length+1000) n_ t12 t13 t14 t25 t26 t27 (t25.getD t27.toNat default).Atom.Args (Int.ofNat (t25.getD t27.toNat default).Atom.Args.length) 0 (FactorOf.mk (Atom.mk (t25.getD t27.toNat default).Atom.Kind (t25.getD t27.toNat default).Atom.Row (t25.getD t27.toNat default).Atom.Args (t25.getD t27.toNat default).Atom.Func (t25.getD t27.toNat default).Atom.Items (t25.getD t27.toNat default).Atom.Op (t25.getD t27.toNat default).Atom.Bound) (t25.getD t27.toNat default).Exp)) fun r5=>.bn (zy9 zj (r5.1.toNat +r5.2.1.length+r5.2.2.1.toNat +r5.2.2.2.1.toNat +r5.2.2.2.2.1.length+r5.2.2.2.2.2.1.toNat +r5.2.2.2.2.2.2.1.toNat +r5.2.2.2.2.2.2.2.Atom.Items.length+(Int.ofNat r5.2.2.2.2.2.2.2.Atom.Items.length).toNat +Int.toNat 0+1000) r5.1 r5.2.1 r5.2.2.1 r5.2.2.2.1 r5.2.2.2.2.1 r5.2.2.2.2.2.1 r5.2.2.2.2.2.2.1 r5.2.2.2.2.2.2.2.Atom.Items (Int.ofNat r5.2.2.2.2.2.2.2.Atom.Items.length) 0) fun r4=>.h ((r4.1),(r4.2.1),(r4.2.2.1),(r4.2.2.2.1),(r4.2.2.2.2.1),(r4.2.2.2.2.2.1),(IntKind.i64.wrap (r4.2.2.2.2.2.2+1)),()) ()) .d) (.k (n_,t12,t13,t14))
def zmd (zj:List Term→Bool×Int) (x:ttTannotationSize4) (y:Unit):Wy ttTannotationSize4 (Unit) ttTannotationSize5:=zzE zj x.1 x.2.1 x.2.2.1 x.2.2.2.1 x.2.2.2.2.1 x.2.2.2.2.2.1 x.2.2.2.2.2.2.1
def zzF (zj:List Term→Bool×Int) (n:Nat) (n_:Int) (t12:List Term) (t13:Int) (t14:Int) (t25:List Factor) (t26:Int) (t27:Int):Bool×ttTannotationSize5:=zN (zmd zj) default n (n_,t12,t13,t14,t25,t26,t27,()) ()
def zqr (r:ttTannotationSize5):LTree ty:=.done (.exit 2) [.lit (.int .i64 r.1),.sl 152 r.2.1,.lit (.int .i64 r.2.2.1),.lit (.int .i64 r.2.2.2)] []
def zrT:LL ty ttTannotationSize4:=za (lInt .i64) (za (lSl 152) (za (lInt .i64) (za (lInt .i64) (za (lSl 160) (za (lInt .i64) (za (lInt .i64) zG))))))
def zrl:BL ty (Unit):=bNil
def zz0 (zj:List Term→Bool×Int) (n_:Int) (t12:List Term) (t13:Int) (t14:Int):Wy ttTannotationSize6 (Unit) (Int):=.i (decide (t14<t13)) (.i (decide (0≤t14)&&decide (t14<Int.ofNat t12.length)) (.bn (zzF zj ((IntKind.i64.wrap (n_+IntKind.i64.wrap (1+Int.ofNat (t12.getD t14.toNat default).Factors.length))).toNat +t12.length+t13.toNat +t14.toNat +(t12.getD t14.toNat default).Factors.length+(Int.ofNat (t12.getD t14.toNat default).Factors.length).toNat +Int.toNat 0+1000) (IntKind.i64.wrap (n_+IntKind.i64.wrap (1+Int.ofNat (t12.getD t14.toNat default).Factors.length))) t12 t13 t14 (t12.getD t14.toNat default).Factors (Int.ofNat (t12.getD t14.toNat default).Factors.length) 0) fun r8=>.h ((r8.1),(r8.2.1),(r8.2.2.1),(IntKind.i64.wrap (r8.2.2.2+1)),()) ()) .d) (.k n_)
def zl7 (zj:List Term→Bool×Int) (x:ttTannotationSize6) (y:Unit):Wy ttTannotationSize6 (Unit) (Int):=zz0 zj x.1 x.2.1 x.2.2.1 x.2.2.2.1
def zzS (zj:List Term→Bool×Int) (n:Nat) (n_:Int) (t12:List Term) (t13:Int) (t14:Int):Bool×Int:=zN (zl7 zj) default n (n_,t12,t13,t14,()) ()
def zqo (r:Int):LTree ty:=.done (.exit 0) [.lit (.int .i64 r)] []
def zse:LL ty ttTannotationSize6:=za (lInt .i64) (za (lSl 152) (za (lInt .i64) (za (lInt .i64) zG)))
def zr4:BL ty (Unit):=bNil
def zpk (x:ttTannotationSize0) (y:Factor×Unit):Nat:=(Int.toNat x.1+x.2.2.1.length+Int.toNat x.2.2.2.1+Int.toNat x.2.2.2.2.1+x.2.2.2.2.2.1.length+Int.toNat x.2.2.2.2.2.2.1+Int.toNat x.2.2.2.2.2.2.2.1+x.2.2.2.2.2.2.2.2.1.length+Int.toNat x.2.2.2.2.2.2.2.2.2.1+Int.toNat x.2.2.2.2.2.2.2.2.2.2.1+y.1.Atom.Args.length+y.1.Atom.Items.length+1000)
def zpT (x:ttTannotationSize2) (y:Unit):Nat:=(Int.toNat x.1+x.2.1.length+Int.toNat x.2.2.1+Int.toNat x.2.2.2.1+x.2.2.2.2.1.length+Int.toNat x.2.2.2.2.2.1+Int.toNat x.2.2.2.2.2.2.1+x.2.2.2.2.2.2.2.1.length+Int.toNat x.2.2.2.2.2.2.2.2.1+Int.toNat x.2.2.2.2.2.2.2.2.2.1+1000)
def zqx (x:ttTannotationSize4) (y:Unit):Nat:=(Int.toNat x.1+x.2.1.length+Int.toNat x.2.2.1+Int.toNat x.2.2.2.1+x.2.2.2.2.1.length+Int.toNat x.2.2.2.2.2.1+Int.toNat x.2.2.2.2.2.2.1+1000)
def zqA (x:ttTannotationSize6) (y:Unit):Nat:=(Int.toNat x.1+x.2.1.length+Int.toNat x.2.2.1+Int.toNat x.2.2.2.1+1000)
def zhk (zj:List Term→Bool×Int):Cx ty:=mkCx base 62 [(137,(ziR zj))] [] [(3,[(3,.keep),(12,.keep),(13,.keep),(14,.keep)]),(7,[(3,.keep),(12,.keep),(13,.keep),(14,.keep),(25,.keep),(26,.keep),(27,.keep)]),(10,[(3,.keep),(7,.keep),(12,.keep),(13,.keep),(14,.keep),(25,.keep),(26,.keep),(27,.keep),(33,.keep),(34,.keep),(35,.keep)]),(15,[(3,.keep),(12,.keep),(13,.keep),(14,.keep),(25,.keep),(26,.keep),(27,.keep),(46,.keep),(47,.keep),(48,.keep)])] [(3,1,[(3,.keep)]),(7,3,[(3,.keep),(12,.keep),(13,.keep),(14,.keep)]),(10,5,[(3,.keep),(7,.keep),(12,.keep),(13,.keep),(14,.keep),(25,.keep),(26,.keep),(27,.keep)]),(15,7,[(3,.keep),(12,.keep),(13,.keep),(14,.keep),(25,.keep),(26,.keep),(27,.keep)])] [(10,spW zqW zqt (zk4 zj) default zpM zpk),(15,spW zqV zqp (zk0 zj) default zpB zpT),(7,spW zrT zrl (zmd zj) default zqr zqx),(3,spW zse zr4 (zl7 zj) default zqo zqA)] []
theorem zyo (zj:List Term→Bool×Int):zS (zhk zj) (lp (body Tryz.f137) 2):=zL (id:=10) (V:=zqW) (B:=zqt) (W:=zk4 zj) (z:=default) (tr:=zpM) (m:=zpk)
theorem zx4 (zj:List Term→Bool×Int):zS (zhk zj) (lp (body Tryz.f137) 3):=zL (id:=15) (V:=zqV) (B:=zqp) (W:=zk0 zj) (z:=default) (tr:=zpB) (m:=zpT)
theorem zyL (zj:List Term→Bool×Int):zS (zhk zj) (lp (body Tryz.f137) 1):=zL (id:=7) (V:=zrT) (B:=zrl) (W:=zmd zj) (z:=default) (tr:=zqr) (m:=zqx)
theorem zyX (zj:List Term→Bool×Int):zS (zhk zj) (lp (body Tryz.f137) 0):=zL (id:=3) (V:=zse) (B:=zr4) (W:=zl7 zj) (z:=default) (tr:=zqo) (m:=zqA)
def zsw (zj:List Term→Bool×Int) (a:List Term):Wy0 (Int):=.bn (zzS zj (Int.toNat 0+a.length+(Int.ofNat a.length).toNat +Int.toNat 0+1000) 0 a (Int.ofNat a.length) 0) fun r10=>.k r10
def zuG (zj:List Term→Bool×Int) (a:List Term):Bool×Int:=(zsw zj a).fin default
theorem zxa (zj:List Term→Bool×Int) (zA0:Sound Tryz.prog base 137 (ziR zj)):Sound Tryz.prog base 137 (ziR (zuG zj)):=
 zu (cx':=(zhk zj)) zH zn zD (zx ⟨zA0,trivial⟩) Tryz.call137 Tryz.func137 (c:=body Tryz.f137) (by kernel_rfl) (zh (l:=[lp (body Tryz.f137) 0,lp (body Tryz.f137) 1,lp (body Tryz.f137) 2,lp (body Tryz.f137) 3]) (by kernel_rfl) ⟨zyX zj,zyL zj,zyo zj,zx4 zj,trivial⟩) (sg:=⟨[.pure],[]⟩) (A:=zu3) (res:=zsC) (W:=fun x=>zsw zj x.1) (z:=default)
def zGQ:Nat→(List Term→Bool×Int)
 | 0=>fun _=>(false,default)
 | n+1=>zuG (zGQ n)
def zuS (n:Nat):List Term→Bool×Int:=zGQ n
theorem zEd:∀ n,Sound Tryz.prog base 137 (ziR (zuS n))
 | 0=>zbs Tryz.call137 (fun _=>rfl)
 | n+1=>by
  have ih:=zEd n
  exact zxa _ (ih)
def zxq:List Term→Bool×Int:=zuS 1000
def annotation_Size_spec:Ab.Spec ty:=ziR zxq
theorem zyu:Sound Tryz.prog base 137 annotation_Size_spec:=(zEd 1000)
def zpr (r:Int):ARes ty:=⟨[.pure (.lit (.int .i64 r))],[]⟩
def zrw:AL base (List Term×Unit):=zf (zg (vSl 152)) aNil
def zhg (F:List Term→Bool×Int):Ab.Spec ty:=zm zrw fun x=>((F x.1).1,zpr (F x.1).2)
abbrev ttTannotationnesting0:=Int×Unit×Int×List Term×Int×Int×List Factor×Int×Int×List (List Term)×Int×Int×Unit
abbrev ttTannotationnesting1:=Int×Int×List Term×Int×Int×List Factor×Int×Int×Factor
abbrev ttTannotationnesting2:=Int×Int×List Term×Int×Int×List Factor×Int×Int×List Weighted×Int×Int×Unit
abbrev ttTannotationnesting3:=Int×Int×List Term×Int×Int×List Factor×Int×Int
abbrev ttTannotationnesting4:=Int×List Term×Int×Int×List Factor×Int×Int×Unit
abbrev ttTannotationnesting5:=Int×List Term×Int×Int
abbrev ttTannotationnesting6:=Int×List Term×Int×Int×Unit
def zvS (zi:List Term→Bool×Int) (n_:Int) (inner:Int) (t13:List Term) (t14:Int) (t15:Int) (t20:List Factor) (t21:Int) (t22:Int) (t32:List (List Term)) (t33:Int) (t34:Int) (f:Factor):Wy ttTannotationnesting0 (Factor×Unit) ttTannotationnesting1:=.i (decide (t34<t33)) (.i (decide (0≤t34)&&decide (t34<Int.ofNat t32.length)) (.bn (zi (t32.getD t34.toNat default)) fun r0=>.h (n_,(),(if r0>inner then r0 else inner),t13,t14,t15,t20,t21,t22,t32,t33,(IntKind.i64.wrap (t34+1)),()) (f,())) .d) (.k (n_,inner,t13,t14,t15,t20,t21,t22,f))
def zjM (zi:List Term→Bool×Int) (x:ttTannotationnesting0) (y:Factor×Unit):Wy ttTannotationnesting0 (Factor×Unit) ttTannotationnesting1:=zvS zi x.1 x.2.2.1 x.2.2.2.1 x.2.2.2.2.1 x.2.2.2.2.2.1 x.2.2.2.2.2.2.1 x.2.2.2.2.2.2.2.1 x.2.2.2.2.2.2.2.2.1 x.2.2.2.2.2.2.2.2.2.1 x.2.2.2.2.2.2.2.2.2.2.1 x.2.2.2.2.2.2.2.2.2.2.2.1 y.1
def zv1 (zi:List Term→Bool×Int) (n:Nat) (n_:Int) (inner:Int) (t13:List Term) (t14:Int) (t15:Int) (t20:List Factor) (t21:Int) (t22:Int) (t32:List (List Term)) (t33:Int) (t34:Int) (f:Factor):Bool×ttTannotationnesting1:=zN (zjM zi) default n (n_,(),inner,t13,t14,t15,t20,t21,t22,t32,t33,t34,()) (f,())
def znD (r:ttTannotationnesting1):LTree ty:=.done (.exit 4) [.lit (.int .i64 r.1),.ptr 256 0,.lit (.int .i64 r.2.1),.sl 152 r.2.2.1,.lit (.int .i64 r.2.2.2.1),.lit (.int .i64 r.2.2.2.2.1),.sl 160 r.2.2.2.2.2.1,.lit (.int .i64 r.2.2.2.2.2.2.1),.lit (.int .i64 r.2.2.2.2.2.2.2.1)] [.box (base.enc 160 r.2.2.2.2.2.2.2.2) false]
def znV:LL ty ttTannotationnesting0:=za (lInt .i64) (za (zct 256 0) (za (lInt .i64) (za (lSl 152) (za (lInt .i64) (za (lInt .i64) (za (lSl 160) (za (lInt .i64) (za (lInt .i64) (za (lSl 36) (za (lInt .i64) (za (lInt .i64) zG)))))))))))
def znR:BL ty (Factor×Unit):=bBox (zhc (fun x=>(⟨⟨x.1,⟨x.2.1,x.2.2.1⟩,x.2.2.2.1,x.2.2.2.2.1,x.2.2.2.2.2.1,x.2.2.2.2.2.2.1,⟨x.2.2.2.2.2.2.2.1,x.2.2.2.2.2.2.2.2.1,x.2.2.2.2.2.2.2.2.2.1⟩⟩,x.2.2.2.2.2.2.2.2.2.2.1⟩:Factor)) (fun x=>(x.Atom.Kind,x.Atom.Row.Table,x.Atom.Row.Seq,x.Atom.Args,x.Atom.Func,x.Atom.Items,x.Atom.Op,x.Atom.Bound.Kind,x.Atom.Bound.Int,x.Atom.Bound.Text,x.Exp,())) (fun _=>rfl) (za (lInt .i64) (za (lInt .i64) (za (lInt .i64) (za (lSl 36) (za (lInt .i64) (za (lSl 182) (za (lInt .i64) (za (lInt .i64) (za (lInt .i64) (za lStr (za (lInt .i64) zG)))))))))))) false (bNil)
def zwk (zi:List Term→Bool×Int) (n_:Int) (inner:Int) (t13:List Term) (t14:Int) (t15:Int) (t20:List Factor) (t21:Int) (t22:Int) (t45:List Weighted) (t46:Int) (t47:Int):Wy ttTannotationnesting2 (Unit) ttTannotationnesting3:=.i (decide (t47<t46)) (.i (decide (0≤t47)&&decide (t47<Int.ofNat t45.length)) (.bn (zi (t45.getD t47.toNat default).Ann) fun r2=>.h (n_,(if r2>inner then r2 else inner),t13,t14,t15,t20,t21,t22,t45,t46,(IntKind.i64.wrap (t47+1)),()) ()) .d) (.k (n_,inner,t13,t14,t15,t20,t21,t22))
def zjG (zi:List Term→Bool×Int) (x:ttTannotationnesting2) (y:Unit):Wy ttTannotationnesting2 (Unit) ttTannotationnesting3:=zwk zi x.1 x.2.1 x.2.2.1 x.2.2.2.1 x.2.2.2.2.1 x.2.2.2.2.2.1 x.2.2.2.2.2.2.1 x.2.2.2.2.2.2.2.1 x.2.2.2.2.2.2.2.2.1 x.2.2.2.2.2.2.2.2.2.1 x.2.2.2.2.2.2.2.2.2.2.1
def zwE (zi:List Term→Bool×Int) (n:Nat) (n_:Int) (inner:Int) (t13:List Term) (t14:Int) (t15:Int) (t20:List Factor) (t21:Int) (t22:Int) (t45:List Weighted) (t46:Int) (t47:Int):Bool×ttTannotationnesting3:=zN (zjG zi) default n (n_,inner,t13,t14,t15,t20,t21,t22,t45,t46,t47,()) ()
def znE (r:ttTannotationnesting3):LTree ty:=.done (.exit 6) [.lit (.int .i64 r.1),.lit (.int .i64 r.2.1),.sl 152 r.2.2.1,.lit (.int .i64 r.2.2.2.1),.lit (.int .i64 r.2.2.2.2.1),.sl 160 r.2.2.2.2.2.1,.lit (.int .i64 r.2.2.2.2.2.2.1),.lit (.int .i64 r.2.2.2.2.2.2.2)] []
def znM:LL ty ttTannotationnesting2:=za (lInt .i64) (za (lInt .i64) (za (lSl 152) (za (lInt .i64) (za (lInt .i64) (za (lSl 160) (za (lInt .i64) (za (lInt .i64) (za (lSl 182) (za (lInt .i64) (za (lInt .i64) zG))))))))))
def zop:BL ty (Unit):=bNil
def zw0 (zi:List Term→Bool×Int) (n_:Int) (t13:List Term) (t14:Int) (t15:Int) (t20:List Factor) (t21:Int) (t22:Int):Wy ttTannotationnesting4 (Unit) ttTannotationnesting5:=.i (decide (t22<t21)) (.i (decide (0≤t22)&&decide (t22<Int.ofNat t20.length)) (.i ((t20.getD t22.toNat default).Atom.Kind==0) (.h (n_,t13,t14,t15,t20,t21,(IntKind.i64.wrap (t22+1)),()) ()) (.bn (zv1 zi (n_.toNat +Int.toNat 0+t13.length+t14.toNat +t15.toNat +t20.length+t21.toNat +t22.toNat +(t20.getD t22.toNat default).Atom.Args.length+(Int.ofNat (t20.getD t22.toNat default).Atom.Args.length).toNat +Int.toNat 0+(t20.getD t22.toNat default).Atom.Args.length+(t20.getD t22.toNat default).Atom.Items.length+1000) n_ 0 t13 t14 t15 t20 t21 t22 (t20.getD t22.toNat default).Atom.Args (Int.ofNat (t20.getD t22.toNat default).Atom.Args.length) 0 (FactorOf.mk (Atom.mk (t20.getD t22.toNat default).Atom.Kind (t20.getD t22.toNat default).Atom.Row (t20.getD t22.toNat default).Atom.Args (t20.getD t22.toNat default).Atom.Func (t20.getD t22.toNat default).Atom.Items (t20.getD t22.toNat default).Atom.Op (t20.getD t22.toNat default).Atom.Bound) (t20.getD t22.toNat default).Exp)) fun r5=>.bn (zwE zi (r5.1.toNat +r5.2.1.toNat +r5.2.2.1.length+r5.2.2.2.1.toNat +r5.2.2.2.2.1.toNat +r5.2.2.2.2.2.1.length+r5.2.2.2.2.2.2.1.toNat +r5.2.2.2.2.2.2.2.1.toNat +r5.2.2.2.2.2.2.2.2.Atom.Items.length+(Int.ofNat r5.2.2.2.2.2.2.2.2.Atom.Items.length).toNat +Int.toNat 0+1000) r5.1 r5.2.1 r5.2.2.1 r5.2.2.2.1 r5.2.2.2.2.1 r5.2.2.2.2.2.1 r5.2.2.2.2.2.2.1 r5.2.2.2.2.2.2.2.1 r5.2.2.2.2.2.2.2.2.Atom.Items (Int.ofNat r5.2.2.2.2.2.2.2.2.Atom.Items.length) 0) fun r4=>.h ((if IntKind.i64.wrap (1+r4.2.1)>r4.1 then IntKind.i64.wrap (1+r4.2.1) else r4.1),(r4.2.2.1),(r4.2.2.2.1),(r4.2.2.2.2.1),(r4.2.2.2.2.2.1),(r4.2.2.2.2.2.2.1),(IntKind.i64.wrap (r4.2.2.2.2.2.2.2+1)),()) ())) .d) (.k (n_,t13,t14,t15))
def zjR (zi:List Term→Bool×Int) (x:ttTannotationnesting4) (y:Unit):Wy ttTannotationnesting4 (Unit) ttTannotationnesting5:=zw0 zi x.1 x.2.1 x.2.2.1 x.2.2.2.1 x.2.2.2.2.1 x.2.2.2.2.2.1 x.2.2.2.2.2.2.1
def zwV (zi:List Term→Bool×Int) (n:Nat) (n_:Int) (t13:List Term) (t14:Int) (t15:Int) (t20:List Factor) (t21:Int) (t22:Int):Bool×ttTannotationnesting5:=zN (zjR zi) default n (n_,t13,t14,t15,t20,t21,t22,()) ()
def zol (r:ttTannotationnesting5):LTree ty:=.done (.exit 2) [.lit (.int .i64 r.1),.sl 152 r.2.1,.lit (.int .i64 r.2.2.1),.lit (.int .i64 r.2.2.2)] []
def zoW:LL ty ttTannotationnesting4:=za (lInt .i64) (za (lSl 152) (za (lInt .i64) (za (lInt .i64) (za (lSl 160) (za (lInt .i64) (za (lInt .i64) zG))))))
def zoM:BL ty (Unit):=bNil
def zw8 (zi:List Term→Bool×Int) (n_:Int) (t13:List Term) (t14:Int) (t15:Int):Wy ttTannotationnesting6 (Unit) (Int):=.i (decide (t15<t14)) (.i (decide (0≤t15)&&decide (t15<Int.ofNat t13.length)) (.bn (zwV zi (n_.toNat +t13.length+t14.toNat +t15.toNat +(t13.getD t15.toNat default).Factors.length+(Int.ofNat (t13.getD t15.toNat default).Factors.length).toNat +Int.toNat 0+1000) n_ t13 t14 t15 (t13.getD t15.toNat default).Factors (Int.ofNat (t13.getD t15.toNat default).Factors.length) 0) fun r8=>.h ((r8.1),(r8.2.1),(r8.2.2.1),(IntKind.i64.wrap (r8.2.2.2+1)),()) ()) .d) (.k n_)
def zjT (zi:List Term→Bool×Int) (x:ttTannotationnesting6) (y:Unit):Wy ttTannotationnesting6 (Unit) (Int):=zw8 zi x.1 x.2.1 x.2.2.1 x.2.2.2.1
def zwT (zi:List Term→Bool×Int) (n:Nat) (n_:Int) (t13:List Term) (t14:Int) (t15:Int):Bool×Int:=zN (zjT zi) default n (n_,t13,t14,t15,()) ()
def znS (r:Int):LTree ty:=.done (.exit 0) [.lit (.int .i64 r)] []
def zoZ:LL ty ttTannotationnesting6:=za (lInt .i64) (za (lSl 152) (za (lInt .i64) (za (lInt .i64) zG)))
def zoH:BL ty (Unit):=bNil
def znF (x:ttTannotationnesting0) (y:Factor×Unit):Nat:=(Int.toNat x.1+Int.toNat x.2.2.1+x.2.2.2.1.length+Int.toNat x.2.2.2.2.1+Int.toNat x.2.2.2.2.2.1+x.2.2.2.2.2.2.1.length+Int.toNat x.2.2.2.2.2.2.2.1+Int.toNat x.2.2.2.2.2.2.2.2.1+x.2.2.2.2.2.2.2.2.2.1.length+Int.toNat x.2.2.2.2.2.2.2.2.2.2.1+Int.toNat x.2.2.2.2.2.2.2.2.2.2.2.1+y.1.Atom.Args.length+y.1.Atom.Items.length+1000)
def znw (x:ttTannotationnesting2) (y:Unit):Nat:=(Int.toNat x.1+Int.toNat x.2.1+x.2.2.1.length+Int.toNat x.2.2.2.1+Int.toNat x.2.2.2.2.1+x.2.2.2.2.2.1.length+Int.toNat x.2.2.2.2.2.2.1+Int.toNat x.2.2.2.2.2.2.2.1+x.2.2.2.2.2.2.2.2.1.length+Int.toNat x.2.2.2.2.2.2.2.2.2.1+Int.toNat x.2.2.2.2.2.2.2.2.2.2.1+1000)
def znZ (x:ttTannotationnesting4) (y:Unit):Nat:=(Int.toNat x.1+x.2.1.length+Int.toNat x.2.2.1+Int.toNat x.2.2.2.1+x.2.2.2.2.1.length+Int.toNat x.2.2.2.2.2.1+Int.toNat x.2.2.2.2.2.2.1+1000)
def zog (x:ttTannotationnesting6) (y:Unit):Nat:=(Int.toNat x.1+x.2.1.length+Int.toNat x.2.2.1+Int.toNat x.2.2.2.1+1000)
def zfW (zi:List Term→Bool×Int):Cx ty:=mkCx base 64 [(136,(zhg zi))] [] [(3,[(3,.keep),(13,.keep),(14,.keep),(15,.keep)]),(6,[(3,.keep),(13,.keep),(14,.keep),(15,.keep),(20,.keep),(21,.keep),(22,.keep)]),(11,[(3,.keep),(7,.keep),(8,.keep),(13,.keep),(14,.keep),(15,.keep),(20,.keep),(21,.keep),(22,.keep),(32,.keep),(33,.keep),(34,.keep)]),(16,[(3,.keep),(8,.keep),(13,.keep),(14,.keep),(15,.keep),(20,.keep),(21,.keep),(22,.keep),(45,.keep),(46,.keep),(47,.keep)])] [(3,1,[(3,.keep)]),(6,3,[(3,.keep),(13,.keep),(14,.keep),(15,.keep)]),(11,5,[(3,.keep),(7,.keep),(8,.keep),(13,.keep),(14,.keep),(15,.keep),(20,.keep),(21,.keep),(22,.keep)]),(16,7,[(3,.keep),(8,.keep),(13,.keep),(14,.keep),(15,.keep),(20,.keep),(21,.keep),(22,.keep)])] [(11,spW znV znR (zjM zi) default znD znF),(16,spW znM zop (zjG zi) default znE znw),(6,spW zoW zoM (zjR zi) default zol znZ),(3,spW zoZ zoH (zjT zi) default znS zog)] []
theorem zvq (zi:List Term→Bool×Int):zS (zfW zi) (lp (body Tryz.f136) 2):=zL (id:=11) (V:=znV) (B:=znR) (W:=zjM zi) (z:=default) (tr:=znD) (m:=znF)
theorem zvt (zi:List Term→Bool×Int):zS (zfW zi) (lp (body Tryz.f136) 3):=zL (id:=16) (V:=znM) (B:=zop) (W:=zjG zi) (z:=default) (tr:=znE) (m:=znw)
theorem zvN (zi:List Term→Bool×Int):zS (zfW zi) (lp (body Tryz.f136) 1):=zL (id:=6) (V:=zoW) (B:=zoM) (W:=zjR zi) (z:=default) (tr:=zol) (m:=znZ)
theorem zvF (zi:List Term→Bool×Int):zS (zfW zi) (lp (body Tryz.f136) 0):=zL (id:=3) (V:=zoZ) (B:=zoH) (W:=zjT zi) (z:=default) (tr:=znS) (m:=zog)
def zpS (zi:List Term→Bool×Int) (a:List Term):Wy0 (Int):=.bn (zwT zi (Int.toNat 0+a.length+(Int.ofNat a.length).toNat +Int.toNat 0+1000) 0 a (Int.ofNat a.length) 0) fun r10=>.k r10
def zrS (zi:List Term→Bool×Int) (a:List Term):Bool×Int:=(zpS zi a).fin default
theorem zuF (zi:List Term→Bool×Int) (zyl:Sound Tryz.prog base 136 (zhg zi)):Sound Tryz.prog base 136 (zhg (zrS zi)):=
 zu (cx':=(zfW zi)) zH zn zD (zx ⟨zyl,trivial⟩) Tryz.call136 Tryz.func136 (c:=body Tryz.f136) (by kernel_rfl) (zh (l:=[lp (body Tryz.f136) 0,lp (body Tryz.f136) 1,lp (body Tryz.f136) 2,lp (body Tryz.f136) 3]) (by kernel_rfl) ⟨zvF zi,zvN zi,zvq zi,zvt zi,trivial⟩) (sg:=⟨[.pure],[]⟩) (A:=zrw) (res:=zpr) (W:=fun x=>zpS zi x.1) (z:=default)
def zC2:Nat→(List Term→Bool×Int)
 | 0=>fun _=>(false,default)
 | n+1=>zrS (zC2 n)
def zrL (n:Nat):List Term→Bool×Int:=zC2 n
theorem zAg:∀ n,Sound Tryz.prog base 136 (zhg (zrL n))
 | 0=>zbs Tryz.call136 (fun _=>rfl)
 | n+1=>by
  have ih:=zAg n
  exact zuF _ (ih)
def zt9:List Term→Bool×Int:=zrL 1000
def annotation_nesting_spec:Ab.Spec ty:=zhg zt9
theorem zv7:Sound Tryz.prog base 136 annotation_nesting_spec:=(zAg 1000)
def zuo:Cx ty:=mkCx base 13 [] [] [] [] [] []
def zne (f:Factor):Wy0 (Bool):=.i (decide (f.Exp>64)) (.k true) (.k (decide (Int.ofNat f.Atom.Items.length>1024)))
def zj0 (f:Factor):Bool×Bool:=(zne f).fin default
def zlT (r:Bool):ARes ty:=⟨[.pure (.lit (.bool r))],[]⟩
def znd:AL base (Factor×Unit):=zf (zg (vAgg 160)) aNil
def zfM:Ab.Spec ty:=zm znd fun x=>((zj0 x.1).1,zlT (zj0 x.1).2)
theorem zhz:Sound Tryz.prog base 141 zfM:=
 zu (cx':=zuo) zH zn zD (zx trivial) Tryz.call141 Tryz.func141 (c:=body Tryz.f141) (by kernel_rfl) (zh (l:=[]) (by kernel_rfl) trivial) (sg:=⟨[.pure],[]⟩) (A:=znd) (res:=zlT) (W:=fun x=>zne x.1) (z:=default)
abbrev ttTslicesIndexFuncLapiFactorapiFactorwi0:=List Factor×Unit×Int×Int×Unit
def zkd (s:List Factor) (t7:Int) (t8:Int):Wy ttTslicesIndexFuncLapiFactorapiFactorwi0 (Unit) (Int⊕Unit):=.i (decide (t8<t7)) (.i (decide (0≤t8)&&decide (t8<Int.ofNat s.length)) (.bn (zj0 (FactorOf.mk (Atom.mk (s.getD t8.toNat default).Atom.Kind (s.getD t8.toNat default).Atom.Row (s.getD t8.toNat default).Atom.Args (s.getD t8.toNat default).Atom.Func (s.getD t8.toNat default).Atom.Items (s.getD t8.toNat default).Atom.Op (s.getD t8.toNat default).Atom.Bound) (s.getD t8.toNat default).Exp)) fun r0=>.i (r0) (.k (.inl t8)) (.h (s,(),t7,(IntKind.i64.wrap (t8+1)),()) ())) .d) (.k (.inr ()))
def zdc (x:ttTslicesIndexFuncLapiFactorapiFactorwi0) (y:Unit):Wy ttTslicesIndexFuncLapiFactorapiFactorwi0 (Unit) (Int⊕Unit):=zkd x.1 x.2.2.1 x.2.2.2.1
def zkf (n:Nat) (s:List Factor) (t7:Int) (t8:Int):Bool×(Int⊕Unit):=zN (zdc) (.inl default) n (s,(),t7,t8,()) ()
def zfT (r:Int⊕Unit):LTree ty:=.ite (isL r) (.done .ret [.lit (.int .i64 (getL r))] []) (.done (.exit 0) [] [])
def zf8:LL ty ttTslicesIndexFuncLapiFactorapiFactorwi0:=za (lSl 160) (za (lFn 141 (zG)) (za (lInt .i64) (za (lInt .i64) zG)))
def zgg:BL ty (Unit):=bNil
def zf2 (x:ttTslicesIndexFuncLapiFactorapiFactorwi0) (y:Unit):Nat:=(x.1.length+Int.toNat x.2.2.1+Int.toNat x.2.2.2.1+1000)
def zf6:Cx ty:=mkCx base 19 [(141,zfM)] [] [(2,[(0,.keep),(1,.keep),(7,.keep),(8,.keep)])] [(2,1,[]),(2,0,[(4,.keep)])] [(2,spW zf8 zgg (zdc) (.inl default) zfT zf2)] []
theorem zjU:zS zf6 (lp (body Tryz.f196) 0):=zL (id:=2) (V:=zf8) (B:=zgg) (W:=zdc) (z:=.inl default) (tr:=zfT) (m:=zf2)
def zgs (s:List Factor):Wy0 (Int):=.bn (zkf (s.length+(Int.ofNat s.length).toNat +Int.toNat 0+1000) s (Int.ofNat s.length) 0) fun r2=>.i (isL r2) (.k (getL r2)) (.k (-1:Int))
def zdx (s:List Factor):Bool×Int:=(zgs s).fin default
def zfX (r:Int):ARes ty:=⟨[.pure (.lit (.int .i64 r))],[]⟩
def zgx:AL base (List Factor×Unit×Unit):=zf (zg (vSl 160)) (zf (zg (vFn 141 vNil)) aNil)
def zfz:Ab.Spec ty:=zm zgx fun x=>((zdx x.1).1,zfX (zdx x.1).2)
theorem zjK:Sound Tryz.prog base 196 zfz:=
 zu (cx':=zf6) zH zn zD (zx ⟨zhz,trivial⟩) Tryz.call196 Tryz.func196 (c:=body Tryz.f196) (by kernel_rfl) (zh (l:=[lp (body Tryz.f196) 0]) (by kernel_rfl) ⟨zjU,trivial⟩) (sg:=⟨[.pure],[]⟩) (A:=zgx) (res:=zfX) (W:=fun x=>zgs x.1) (z:=default)
def zjF:Cx ty:=mkCx base 9 [(141,zfM),(196,zfz)] [] [] [] [] []
def zfC (s:List Factor):Wy0 (Bool):=.bn (zdx s) fun r0=>.k (decide (r0≥0))
def zde (s:List Factor):Bool×Bool:=(zfC s).fin default
def ze2 (r:Bool):ARes ty:=⟨[.pure (.lit (.bool r))],[]⟩
def zfE:AL base (List Factor×Unit×Unit):=zf (zg (vSl 160)) (zf (zg (vFn 141 vNil)) aNil)
def zeJ:Ab.Spec ty:=zm zfE fun x=>((zde x.1).1,ze2 (zde x.1).2)
theorem ziS:Sound Tryz.prog base 140 zeJ:=
 zu (cx':=zjF) zH zn zD (zx ⟨zhz,zjK,trivial⟩) Tryz.call140 Tryz.func140 (c:=body Tryz.f140) (by kernel_rfl) (zh (l:=[]) (by kernel_rfl) trivial) (sg:=⟨[.pure],[]⟩) (A:=zfE) (res:=ze2) (W:=fun x=>zfC x.1) (z:=default)
def zwS:Cx ty:=mkCx base 12 [(140,zeJ),(141,zfM)] [] [] [] [] []
def zpD (t:Term):Wy0 (Bool):=.i (decide (Int.ofNat t.Factors.length>64)) (.k true) (.bn (zde t.Factors) fun r0=>.k r0)
def zlX (t:Term):Bool×Bool:=(zpD t).fin default
def zoj (r:Bool):ARes ty:=⟨[.pure (.lit (.bool r))],[]⟩
def zpP:AL base (Term×Unit):=zf (zg (vAgg 152)) aNil
def zg3:Ab.Spec ty:=zm zpP fun x=>((zlX x.1).1,zoj (zlX x.1).2)
theorem ziG:Sound Tryz.prog base 139 zg3:=
 zu (cx':=zwS) zH zn zD (zx ⟨ziS,zhz,trivial⟩) Tryz.call139 Tryz.func139 (c:=body Tryz.f139) (by kernel_rfl) (zh (l:=[]) (by kernel_rfl) trivial) (sg:=⟨[.pure],[]⟩) (A:=zpP) (res:=zoj) (W:=fun x=>zpD x.1) (z:=default)
abbrev ttTslicesIndexFuncapiAnnotationapiTermwi0:=List Term×Unit×Int×Int×Unit
def zjS (s:List Term) (t7:Int) (t8:Int):Wy ttTslicesIndexFuncapiAnnotationapiTermwi0 (Unit) (Int⊕Unit):=.i (decide (t8<t7)) (.i (decide (0≤t8)&&decide (t8<Int.ofNat s.length)) (.bn (zlX (s.getD t8.toNat default)) fun r0=>.i (r0) (.k (.inl t8)) (.h (s,(),t7,(IntKind.i64.wrap (t8+1)),()) ())) .d) (.k (.inr ()))
def zc1 (x:ttTslicesIndexFuncapiAnnotationapiTermwi0) (y:Unit):Wy ttTslicesIndexFuncapiAnnotationapiTermwi0 (Unit) (Int⊕Unit):=zjS x.1 x.2.2.1 x.2.2.2.1
def zjV (n:Nat) (s:List Term) (t7:Int) (t8:Int):Bool×(Int⊕Unit):=zN (zc1) (.inl default) n (s,(),t7,t8,()) ()
def zfD (r:Int⊕Unit):LTree ty:=.ite (isL r) (.done .ret [.lit (.int .i64 (getL r))] []) (.done (.exit 0) [] [])
def zfS:LL ty ttTslicesIndexFuncapiAnnotationapiTermwi0:=za (lSl 152) (za (lFn 139 (zG)) (za (lInt .i64) (za (lInt .i64) zG)))
def zf3:BL ty (Unit):=bNil
def zfA (x:ttTslicesIndexFuncapiAnnotationapiTermwi0) (y:Unit):Nat:=(x.1.length+Int.toNat x.2.2.1+Int.toNat x.2.2.2.1+1000)
def zfR:Cx ty:=mkCx base 19 [(139,zg3)] [] [(2,[(0,.keep),(1,.keep),(7,.keep),(8,.keep)])] [(2,1,[]),(2,0,[(4,.keep)])] [(2,spW zfS zf3 (zc1) (.inl default) zfD zfA)] []
theorem zjQ:zS zfR (lp (body Tryz.f195) 0):=zL (id:=2) (V:=zfS) (B:=zf3) (W:=zc1) (z:=.inl default) (tr:=zfD) (m:=zfA)
def zgh (s:List Term):Wy0 (Int):=.bn (zjV (s.length+(Int.ofNat s.length).toNat +Int.toNat 0+1000) s (Int.ofNat s.length) 0) fun r2=>.i (isL r2) (.k (getL r2)) (.k (-1:Int))
def zdm (s:List Term):Bool×Int:=(zgh s).fin default
def zfF (r:Int):ARes ty:=⟨[.pure (.lit (.int .i64 r))],[]⟩
def zgc:AL base (List Term×Unit×Unit):=zf (zg (vSl 152)) (zf (zg (vFn 139 vNil)) aNil)
def zfp:Ab.Spec ty:=zm zgc fun x=>((zdm x.1).1,zfF (zdm x.1).2)
theorem zju:Sound Tryz.prog base 195 zfp:=
 zu (cx':=zfR) zH zn zD (zx ⟨ziG,trivial⟩) Tryz.call195 Tryz.func195 (c:=body Tryz.f195) (by kernel_rfl) (zh (l:=[lp (body Tryz.f195) 0]) (by kernel_rfl) ⟨zjQ,trivial⟩) (sg:=⟨[.pure],[]⟩) (A:=zgc) (res:=zfF) (W:=fun x=>zgh x.1) (z:=default)
def zjy:Cx ty:=mkCx base 9 [(139,zg3),(195,zfp)] [] [] [] [] []
def zfe (s:List Term):Wy0 (Bool):=.bn (zdm s) fun r0=>.k (decide (r0≥0))
def zc3 (s:List Term):Bool×Bool:=(zfe s).fin default
def zeR (r:Bool):ARes ty:=⟨[.pure (.lit (.bool r))],[]⟩
def zfr:AL base (List Term×Unit×Unit):=zf (zg (vSl 152)) (zf (zg (vFn 139 vNil)) aNil)
def zet:Ab.Spec ty:=zm zfr fun x=>((zc3 x.1).1,zeR (zc3 x.1).2)
theorem ziN:Sound Tryz.prog base 138 zet:=
 zu (cx':=zjy) zH zn zD (zx ⟨ziG,zju,trivial⟩) Tryz.call138 Tryz.func138 (c:=body Tryz.f138) (by kernel_rfl) (zh (l:=[]) (by kernel_rfl) trivial) (sg:=⟨[.pure],[]⟩) (A:=zfr) (res:=zeR) (W:=fun x=>zfe x.1) (z:=default)
def zzU:Cx ty:=mkCx base 19 [(136,annotation_nesting_spec),(137,annotation_Size_spec),(138,zet),(139,zg3)] [] [] [] [] []
def zst (a:List Term):Wy0 (Bool):=.i (decide (Int.ofNat a.length>512)) (.k false) (.bn (zt9 a) fun r2=>.i (decide (r2>8)) (.k false) (.bn (zxq a) fun r1=>.i (decide (r1>4096)) (.k false) (.bn (zc3 a) fun r0=>.k (!r0))))
def zo1 (a:List Term):Bool×Bool:=(zst a).fin default
def zqu (r:Bool):ARes ty:=⟨[.pure (.lit (.bool r))],[]⟩
def zsv:AL base (List Term×Unit):=zf (zg (vSl 152)) aNil
def zpG:Ab.Spec ty:=zm zsv fun x=>((zo1 x.1).1,zqu (zo1 x.1).2)
theorem zwW:Sound Tryz.prog base 107 zpG:=
 zu (cx':=zzU) zH zn zD (zx ⟨zv7,zyu,ziN,ziG,trivial⟩) Tryz.call107 Tryz.func107 (c:=body Tryz.f107) (by kernel_rfl) (zh (l:=[]) (by kernel_rfl) trivial) (sg:=⟨[.pure],[]⟩) (A:=zsv) (res:=zqu) (W:=fun x=>zst x.1) (z:=default)
end Go.Proofs.YtddkaehkimnklaaGreatDoor
end
