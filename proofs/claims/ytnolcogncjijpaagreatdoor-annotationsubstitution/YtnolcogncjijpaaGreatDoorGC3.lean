/- Texts of this claim, joined (the program, its functions in plain words, and what they compute). -/
import Derived.WalkKit
import Derived.WalkSpells
import Derived.Test.YtnolcogncjijpaaGreatDoorGC1
import Derived.Test.YtnolcogncjijpaaGreatDoorGC2
import Derived.Test.YtnolcogncjijpaaGreatDoorGA2
import Derived.Test.YtnolcogncjijpaaGreatDoorGB1
set_option autoImplicit false
set_option linter.unusedVariables false
set_option linter.unusedSectionVars false
set_option linter.unusedSimpArgs false
set_option maxRecDepth 1000000
set_option maxHeartbeats 0
noncomputable section
namespace Go.Proofs.YtnolcogncjijpaaGreatDoor
open Go Go.Ab
def zdK:Nat→(List Term→Bool×Bool)×(Atom→Bool×Bool)×(List Term→Bool×Bool)×(Weighted→Bool×Bool)×(List (List Term)→Bool×Int)×(List (List Term)→Bool×Bool)×(List Weighted→Bool×Int)×(List Weighted→Bool×Bool)
 | 0=>(fun _=>(false,default),fun _=>(false,default),fun _=>(false,default),fun _=>(false,default),fun _=>(false,default),fun _=>(false,default),fun _=>(false,default),fun _=>(false,default))
 | n+1=>(zk9 ((zdK n).2.1),zii ((zdK n).2.2.2.2.2.2.2) ((zdK n).2.2.2.2.2.1) ((zdK n).2.2.1) ((zdK n).2.2.2.1),ziW ((zdK n).1),ziT ((zdK n).1),zce ((zdK n).2.2.1),zbZ ((zdK n).2.2.1) ((zdK n).2.2.2.2.1),zcD ((zdK n).2.2.2.1),zcj ((zdK n).2.2.2.1) ((zdK n).2.2.2.2.2.2.1))
def ziE (n:Nat):List Term→Bool×Bool:=(zdK n).1
def zkH (n:Nat):Atom→Bool×Bool:=(zdK n).2.1
def zen (n:Nat):List Term→Bool×Bool:=(zdK n).2.2.1
def zeq (n:Nat):Weighted→Bool×Bool:=(zdK n).2.2.2.1
def zcf (n:Nat):List (List Term)→Bool×Int:=(zdK n).2.2.2.2.1
def zb0 (n:Nat):List (List Term)→Bool×Bool:=(zdK n).2.2.2.2.2.1
def zcC (n:Nat):List Weighted→Bool×Int:=(zdK n).2.2.2.2.2.2.1
def zcn (n:Nat):List Weighted→Bool×Bool:=(zdK n).2.2.2.2.2.2.2
theorem zHt (n:Nat):ziE (n+1)=zk9 (zkH n):=rfl
theorem zDm (n:Nat):zkH (n+1)=zii (zcn n) (zb0 n) (zen n) (zeq n):=rfl
theorem zzi (n:Nat):zen (n+1)=ziW (ziE n):=rfl
theorem zzm (n:Nat):zeq (n+1)=ziT (ziE n):=rfl
theorem zkN (n:Nat):zcf (n+1)=zce (zen n):=rfl
theorem zj2 (n:Nat):zb0 (n+1)=zbZ (zen n) (zcf n):=rfl
theorem zl2 (n:Nat):zcC (n+1)=zcD (zeq n):=rfl
theorem zkS (n:Nat):zcn (n+1)=zcj (zeq n) (zcC n):=rfl
theorem zNG:∀ n,Sound Tryz.prog base 31 (zg0 (ziE n))∧Sound Tryz.prog base 74 (zkK (zkH n))∧Sound Tryz.prog base 130 (zcX (zen n))∧Sound Tryz.prog base 131 (zcY (zeq n))∧Sound Tryz.prog base 163 (zcd (zcf n))∧Sound Tryz.prog base 129 (zb1 (zb0 n))∧Sound Tryz.prog base 135 (zcz (zcC n))∧Sound Tryz.prog base 76 (zcm (zcn n))
 | 0=>⟨zbj Tryz.call31 (fun _=>rfl),zbj Tryz.call74 (fun _=>rfl),zbj Tryz.call130 (fun _=>rfl),zbj Tryz.call131 (fun _=>rfl),zbj Tryz.call163 (fun _=>rfl),zbj Tryz.call129 (fun _=>rfl),zbj Tryz.call135 (fun _=>rfl),zbj Tryz.call76 (fun _=>rfl)⟩
 | n+1=>by
  have ih:=zNG n
  exact ⟨zEd _ (ih.2.1),zzJ _ _ _ _ (ih.2.2.2.2.2.2.2) (ih.2.2.2.2.2.1) (ih.2.2.1) (ih.2.2.2.1),zwN _ (ih.1),zwQ _ (ih.1),zj0 _ (ih.2.2.1),zi8 _ _ (ih.2.2.1) (ih.2.2.2.2.1),zk2 _ (ih.2.2.2.1),zkp _ _ (ih.2.2.2.1) (ih.2.2.2.2.2.2.1)⟩
def zci:List Term→Bool×Bool:=ziE 1000
def annotation_Valid_spec:Ab.Spec ty:=zg0 zci
theorem zc4:Sound Tryz.prog base 31 annotation_Valid_spec:=(zNG 1000).1
def zuQ (r:List Term×Int):ARes ty:=⟨[.own 42 r.1,.pure (.lit (.int .i64 r.2))],[]⟩
def zxV:AL base0 (List Term×((List Binding×Unit)×Unit)×Unit):=zf (zg (vSl 42)) (zf (zg (vFn 93 (ztH (vBox (ztH (vSl 69) vNil)) vNil))) aNil)
def zjt (F:List Term→List Binding→Bool×(List Term×Int)):Ab.Spec ty:=zk zxV fun x=>((F x.1 x.2.1.1.1).1,zuQ (F x.1 x.2.1.1.1).2)
def zq3 (r:List Term×Int):ARes ty:=⟨[.own 42 r.1,.pure (.lit (.int .i64 r.2))],[]⟩
def zs7:AL base0 (Atom×((List Binding×Unit)×Unit)×Unit):=zf (zg (vAgg 48)) (zf (zg (vFn 93 (ztH (vBox (ztH (vSl 69) vNil)) vNil))) aNil)
def zjg (F:Atom→List Binding→Bool×(List Term×Int)):Ab.Spec ty:=zk zs7 fun x=>((F x.1 x.2.1.1.1).1,zq3 (F x.1 x.2.1.1.1).2)
def zxA (k:Go.Value) (l:List (Go.Value×Int)):Option Int:=mget (ty:=ty) (V:=3) k l
def zUS (k:Go.Value) (l:List (Go.Value×Int)):Bool:=mhas (ty:=ty) (V:=3) k l
def zUM (k:Go.Value) (x:Int) (l:List (Go.Value×Int)):List (Go.Value×Int):=mset (ty:=ty) (V:=3) k x l
def zyN (r:ByteArray):ARes ty:=⟨[.pure (.lit (.string r))],[]⟩
def zCp:AL base0 (List Term×Unit):=zf (zg (vSl 42)) aNil
def zlV (F:List Term→Bool×ByteArray):Ab.Spec ty:=zk zCp fun x=>((F x.1).1,zyN (F x.1).2)
def zr3 (r:ByteArray):ARes ty:=⟨[.pure (.lit (.string r))],[]⟩
def zuj:AL base0 (Atom×Unit):=zf (zg (vAgg 48)) aNil
def zka (F:Atom→Bool×ByteArray):Ab.Spec ty:=zk zuj fun x=>((F x.1).1,zr3 (F x.1).2)
def zpL (r:ByteArray):ARes ty:=⟨[.pure (.lit (.string r))],[]⟩
def zrf:AL base0 (List Factor×Unit):=zf (zg (vSl 50)) aNil
def zff (F:List Factor→Bool×ByteArray):Ab.Spec ty:=zk zrf fun x=>((F x.1).1,zpL (F x.1).2)
def zFv:Cx ty:=mkCx base 2 [] [] [] [] [] []
def zu9:Wy0 (List ByteArray):=.k [ByteArray.mk #[(67:UInt8),(79:UInt8),(85:UInt8),(78:UInt8),(84:UInt8)],ByteArray.mk #[(83:UInt8),(85:UInt8),(77:UInt8)],ByteArray.mk #[(77:UInt8),(73:UInt8),(78:UInt8)],ByteArray.mk #[(77:UInt8),(65:UInt8),(88:UInt8)]]
def zbP:Bool×List ByteArray:=(zu9).fin default
def ztj (r:List ByteArray):ARes ty:=⟨[.own 9 r],[]⟩
def zvc:AL base (Unit):=aNil
def zsa:Ab.Spec ty:=zk zvc fun x=>((zbP ).1,ztj (zbP ).2)
theorem zB3:Sound Tryz.prog base 174 zsa:=
 zn (cx':=zFv) zJ zl zw (zm trivial) Tryz.call174 Tryz.func174 (c:=body Tryz.f174) (by kernel_rfl) (zh (l:=[]) (by kernel_rfl) trivial) (sg:=⟨[.own 9],[]⟩) (A:=zvc) (res:=ztj) (W:=fun x=>zu9 ) (z:=default)
def zFr:Cx ty:=mkCx base 2 [] [] [] [] [] []
def zvn:Wy0 (List ByteArray):=.k [ByteArray.mk #[(61:UInt8)],ByteArray.mk #[(60:UInt8),(62:UInt8)],ByteArray.mk #[(60:UInt8)],ByteArray.mk #[(60:UInt8),(61:UInt8)],ByteArray.mk #[(62:UInt8)],ByteArray.mk #[(62:UInt8),(61:UInt8)]]
def zc3:Bool×List ByteArray:=(zvn).fin default
def zs3 (r:List ByteArray):ARes ty:=⟨[.own 9 r],[]⟩
def zvz:AL base (Unit):=aNil
def zrW:Ab.Spec ty:=zk zvz fun x=>((zc3 ).1,zs3 (zc3 ).2)
theorem zBR:Sound Tryz.prog base 175 zrW:=
 zn (cx':=zFr) zJ zl zw (zm trivial) Tryz.call175 Tryz.func175 (c:=body Tryz.f175) (by kernel_rfl) (zh (l:=[]) (by kernel_rfl) trivial) (sg:=⟨[.own 9],[]⟩) (A:=zvz) (res:=zs3) (W:=fun x=>zvn ) (z:=default)
def strings_Join (l:List ByteArray) (sep:ByteArray):Bool×ByteArray:=zMW l sep
def strings_Join_spec:Ab.Spec ty:=zk (cx:=base0) (zf (zg (vSl 9)) (zf (zg vStr) aNil)) fun x=>((strings_Join x.1 x.2.1).1,⟨[.pure (.lit (.string (strings_Join x.1 x.2.1).2))],[]⟩)
theorem zsO:Sound Tryz.prog base0 152 strings_Join_spec:=zUZ (T:=9) ziw rfl Go.Proofs.Tryz.lays156 Go.Proofs.Tryz.Builder_Extra_156 Tryz.call152 (fun s:ByteArray=>s) (fun _=>rfl) strings_Join (fun l sep=>congrArg (fun l=>zMW l sep) (List.map_id' (α:=ByteArray) l).symm)
def strconv_Itoa (x:Int):Bool×ByteArray:=zJd x
def strconv_Itoa_spec:Ab.Spec ty:=zk (cx:=base) (zf (zg (vInt .i64)) aNil) fun x=>((strconv_Itoa x.1).1,⟨[.pure (.lit (.string (strconv_Itoa x.1).2))],[]⟩)
theorem zAx:Sound Tryz.prog base 154 strconv_Itoa_spec:=zVi zl Go.Proofs.Tryz.laysM171 Tryz.call154 (fun _ h=>h.1)
def zOb:Cx ty:=mkCx base 15 [(69,zo4),(154,strconv_Itoa_spec)] [] [] [] [] []
def zxv (id:RowID):Wy0 (ByteArray):=.bn (znf id) fun r2=>.i (!r2) (.k (ByteArray.mk #[])) (.bn (strconv_Itoa id.Table) fun r1=>.i (decide ((ByteArray.mk #[(116:UInt8)]).size+r1.size≤9223372036854775807)) (.i (decide ((ByteArray.mk #[(116:UInt8)]++r1).size+(ByteArray.mk #[(46:UInt8)]).size≤9223372036854775807)) (.bn (strconv_Itoa id.Seq) fun r0=>.i (decide ((ByteArray.mk #[(116:UInt8)]++r1++ByteArray.mk #[(46:UInt8)]).size+r0.size≤9223372036854775807)) (.k (ByteArray.mk #[(116:UInt8)]++r1++ByteArray.mk #[(46:UInt8)]++r0)) .d) .d) .d)
def zrc (id:RowID):Bool×ByteArray:=(zxv id).fin default
def zCP (r:ByteArray):ARes ty:=⟨[.pure (.lit (.string r))],[]⟩
def zFU:AL base (RowID×Unit):=zf (zg (vAgg 25)) aNil
def zAg:Ab.Spec ty:=zk zFU fun x=>((zrc x.1).1,zCP (zrc x.1).2)
theorem zKz:Sound Tryz.prog base 172 zAg:=
 zn (cx':=zOb) zJ zl zw (zm ⟨zsN,zAx,trivial⟩) Tryz.call172 Tryz.func172 (c:=body Tryz.f172) (by kernel_rfl) (zh (l:=[]) (by kernel_rfl) trivial) (sg:=⟨[.pure],[]⟩) (A:=zFU) (res:=zCP) (W:=fun x=>zxv x.1) (z:=default)
def zhU (m b:Int):Bool×ByteArray:=zqu m b
def strconv_FormatInt_spec:Ab.Spec ty:=zk (cx:=base) (zf (zg (vInt .i64)) (zf (zg (vInt .i64)) aNil)) fun x=>((zhU x.1 x.2.1).1,⟨[.pure (.lit (.string (zhU x.1 x.2.1).2))],[]⟩)
theorem ztW:Sound Tryz.prog base 151 strconv_FormatInt_spec:=zOK zl Go.Proofs.Tryz.laysM173 Tryz.call151 (fun _ h=>h.1)
def strings_ReplaceAll (s p q:ByteArray):Bool×ByteArray:=zmE s p q
def strings_ReplaceAll_spec:Ab.Spec ty:=zk (cx:=base0) (zf (zg vStr) (zf (zg vStr) (zf (zg vStr) aNil))) fun x=>((strings_ReplaceAll x.1 x.2.1 x.2.2.1).1,⟨[.pure (.lit (.string (strings_ReplaceAll x.1 x.2.1 x.2.2.1).2))],[]⟩)
theorem zDT:Sound Tryz.prog base0 203 strings_ReplaceAll_spec:=zN4 ziw rfl Go.Proofs.Tryz.lays155 Go.Proofs.Tryz.Builder_Extra_155 Tryz.call203 (fun _ h=>h.2)
def zO9:Cx ty:=mkCx base0 27 [(133,zql),(151,strconv_FormatInt_spec),(203,strings_ReplaceAll_spec)] [] [] [] [] []
def zzu (v:Value):Wy0 (ByteArray):=.bn (zov v) fun r2=>.i (!r2) (.k (ByteArray.mk #[])) (.i (v.Kind==0) (.bn (zhU v.Int 10) fun r0=>.k r0) (.i (v.Kind==1) (.bn (strings_ReplaceAll v.Text (ByteArray.mk #[(39:UInt8)]) (ByteArray.mk #[(39:UInt8),(39:UInt8)])) fun r1=>.i (decide ((ByteArray.mk #[(39:UInt8)]).size+r1.size≤9223372036854775807)) (.i (decide ((ByteArray.mk #[(39:UInt8)]++r1).size+(ByteArray.mk #[(39:UInt8)]).size≤9223372036854775807)) (.k (ByteArray.mk #[(39:UInt8)]++r1++ByteArray.mk #[(39:UInt8)])) .d) .d) (.i (v.Int==1) (.k (ByteArray.mk #[(84:UInt8),(82:UInt8),(85:UInt8),(69:UInt8)])) (.k (ByteArray.mk #[(70:UInt8),(65:UInt8),(76:UInt8),(83:UInt8),(69:UInt8)])))))
def zpq (v:Value):Bool×ByteArray:=(zzu v).fin default
def zEu (r:ByteArray):ARes ty:=⟨[.pure (.lit (.string r))],[]⟩
def zHH:AL base0 (Value×Unit):=zf (zg (vAgg 46)) aNil
def zCh:Ab.Spec ty:=zk zHH fun x=>((zpq x.1).1,zEu (zpq x.1).2)
theorem zK2:Sound Tryz.prog base0 173 zCh:=
 zn (cx':=zO9) zJ ziw zw (zm ⟨zuD.nodr,ztW.nodr,zDT,trivial⟩) Tryz.call173 Tryz.func173 (c:=body Tryz.f173) (by kernel_rfl) (zh (l:=[]) (by kernel_rfl) trivial) (sg:=⟨[.pure],[]⟩) (A:=zHH) (res:=zEu) (W:=fun x=>zzu x.1) (z:=default)
abbrev ttTannotationformatAtom0:=Unit×Unit×List Weighted×Int×Int×Unit
abbrev ttTannotationformatAtom1:=Atom×List ByteArray×Unit
abbrev ttTannotationformatAtom2:=Atom×List ByteArray
def zeV (zbe:List Term→Bool×ByteArray) (t48:List Weighted) (t49:Int) (t50:Int) (x_:Atom) (items:List ByteArray):Wy ttTannotationformatAtom0 ttTannotationformatAtom1 ttTannotationformatAtom2:=.i (decide (t50<t49)) (.i (decide (0≤t50)&&decide (t50<Int.ofNat t48.length)) (.bn (zpq (t48.getD t50.toNat default).Value) fun r1=>.i (decide (r1.size+(ByteArray.mk #[(58:UInt8),(32:UInt8)]).size≤9223372036854775807)) (.bn (zbe (t48.getD t50.toNat default).Ann) fun r0=>.i (decide ((r1++ByteArray.mk #[(58:UInt8),(32:UInt8)]).size+r0.size≤9223372036854775807)) (.i (decide ((items.length+[r1++ByteArray.mk #[(58:UInt8),(32:UInt8)]++r0].length)*16≤zQ)) (.h ((),(),t48,t49,(IntKind.i64.wrap (t50+1)),()) (x_,(items++[r1++ByteArray.mk #[(58:UInt8),(32:UInt8)]++r0]),())) .d) .d) .d) .d) (.k (x_,items))
def zh3 (zbe:List Term→Bool×ByteArray) (x:ttTannotationformatAtom0) (y:ttTannotationformatAtom1):Wy ttTannotationformatAtom0 ttTannotationformatAtom1 ttTannotationformatAtom2:=zeV zbe x.2.2.1 x.2.2.2.1 x.2.2.2.2.1 y.1 y.2.1
def zpW (zbe:List Term→Bool×ByteArray) (n:Nat) (t48:List Weighted) (t49:Int) (t50:Int) (x_:Atom) (items:List ByteArray):Bool×ttTannotationformatAtom2:=zX (zh3 zbe) default n ((),(),t48,t49,t50,()) (x_,items,())
def zpc (r:ttTannotationformatAtom2):LTree ty:=.done (.exit 1) [.ptr 360 0,.own 361] [.box (base.enc 48 r.1) false,.arr 9 r.2 false]
def zp4:LL ty ttTannotationformatAtom0:=za (ze9 360 0) (za (lOwn 361) (za (lSl 52) (za (lInt .i64) (za (lInt .i64) zH))))
def zp2:BL ty ttTannotationformatAtom1:=bBox (zgz (fun x=>(⟨x.1,⟨x.2.1,x.2.2.1⟩,x.2.2.2.1,x.2.2.2.2.1,x.2.2.2.2.2.1,x.2.2.2.2.2.2.1,⟨x.2.2.2.2.2.2.2.1,x.2.2.2.2.2.2.2.2.1,x.2.2.2.2.2.2.2.2.2.1⟩⟩:Atom)) (fun x=>(x.Kind,x.Row.Table,x.Row.Seq,x.Args,x.Func,x.Items,x.Op,x.Bound.Kind,x.Bound.Int,x.Bound.Text,())) (fun _=>rfl) (za (lInt .i64) (za (lInt .i64) (za (lInt .i64) (za (lSl 23) (za (lInt .i64) (za (lSl 52) (za (lInt .i64) (za (lInt .i64) (za (lInt .i64) (za lStr zH))))))))))) false (bArr 9 false (bNil))
def zpy (x:ttTannotationformatAtom0) (y:ttTannotationformatAtom1):Nat:=(x.2.2.1.length+Int.toNat x.2.2.2.1+Int.toNat x.2.2.2.2.1+y.1.Args.length+y.1.Items.length+y.2.1.length+1)
def zrk (zbe:List Term→Bool×ByteArray):Cx ty:=mkCx base0 90 [(109,(zlV zbe)),(152,strings_Join_spec),(172,zAg),(173,zCh),(174,zsa),(175,zrW)] [] [(12,[(1,.keep),(3,.own 9),(48,.keep),(49,.keep),(50,.keep)])] [(12,2,[(1,.keep),(3,.keep)])] [(12,spW zp4 zp2 (zh3 zbe) default zpc zpy)] []
theorem zzE (zbe:List Term→Bool×ByteArray):zW (zrk zbe) (lp (body Tryz.f153) 0):=zK (id:=12) (V:=zp4) (B:=zp2) (W:=zh3 zbe) (z:=default) (tr:=zpc) (m:=zpy)
def zmc (zbe:List Term→Bool×ByteArray) (x_:Atom):Wy0 (ByteArray):=.i (x_.Kind==0) (.bn (zrc x_.Row) fun r4=>.k r4) (.i (x_.Kind==1) (.i (decide ((0:Int)≤(0:Int))&&decide (0<Int.ofNat x_.Args.length)) (.bn (zbe (x_.Args.getD (Int.toNat 0) default)) fun r6=>.i (decide ((ByteArray.mk #[(109:UInt8),(111:UInt8),(110:UInt8),(117:UInt8),(115:UInt8),(91:UInt8)]).size+r6.size≤9223372036854775807)) (.i (decide ((ByteArray.mk #[(109:UInt8),(111:UInt8),(110:UInt8),(117:UInt8),(115:UInt8),(91:UInt8)]++r6).size+(ByteArray.mk #[(44:UInt8),(32:UInt8)]).size≤9223372036854775807)) (.i (decide ((0:Int)≤(1:Int))&&decide (1<Int.ofNat x_.Args.length)) (.bn (zbe (x_.Args.getD (Int.toNat 1) default)) fun r5=>.i (decide ((ByteArray.mk #[(109:UInt8),(111:UInt8),(110:UInt8),(117:UInt8),(115:UInt8),(91:UInt8)]++r6++ByteArray.mk #[(44:UInt8),(32:UInt8)]).size+r5.size≤9223372036854775807)) (.i (decide ((ByteArray.mk #[(109:UInt8),(111:UInt8),(110:UInt8),(117:UInt8),(115:UInt8),(91:UInt8)]++r6++ByteArray.mk #[(44:UInt8),(32:UInt8)]++r5).size+(ByteArray.mk #[(93:UInt8)]).size≤9223372036854775807)) (.k (ByteArray.mk #[(109:UInt8),(111:UInt8),(110:UInt8),(117:UInt8),(115:UInt8),(91:UInt8)]++r6++ByteArray.mk #[(44:UInt8),(32:UInt8)]++r5++ByteArray.mk #[(93:UInt8)])) .d) .d) .d) .d) .d) .d) (.i (x_.Kind==2) (.i (decide ((0:Int)≤(0:Int))&&decide (0<Int.ofNat x_.Args.length)) (.bn (zbe (x_.Args.getD (Int.toNat 0) default)) fun r7=>.i (decide ((ByteArray.mk #[(100:UInt8),(101:UInt8),(108:UInt8),(116:UInt8),(97:UInt8),(91:UInt8)]).size+r7.size≤9223372036854775807)) (.i (decide ((ByteArray.mk #[(100:UInt8),(101:UInt8),(108:UInt8),(116:UInt8),(97:UInt8),(91:UInt8)]++r7).size+(ByteArray.mk #[(93:UInt8)]).size≤9223372036854775807)) (.k (ByteArray.mk #[(100:UInt8),(101:UInt8),(108:UInt8),(116:UInt8),(97:UInt8),(91:UInt8)]++r7++ByteArray.mk #[(93:UInt8)])) .d) .d) .d) (.i (x_.Kind==3) (.i (decide ((0:Int)≤(0:Int))&&decide (0<Int.ofNat x_.Args.length)) (.bn (zbe (x_.Args.getD (Int.toNat 0) default)) fun r8=>.i (decide ((ByteArray.mk #[(97:UInt8),(98:UInt8),(115:UInt8),(101:UInt8),(110:UInt8),(116:UInt8),(91:UInt8)]).size+r8.size≤9223372036854775807)) (.i (decide ((ByteArray.mk #[(97:UInt8),(98:UInt8),(115:UInt8),(101:UInt8),(110:UInt8),(116:UInt8),(91:UInt8)]++r8).size+(ByteArray.mk #[(93:UInt8)]).size≤9223372036854775807)) (.k (ByteArray.mk #[(97:UInt8),(98:UInt8),(115:UInt8),(101:UInt8),(110:UInt8),(116:UInt8),(91:UInt8)]++r8++ByteArray.mk #[(93:UInt8)])) .d) .d) .d) (.bn (zpW zbe (x_.Items.length+(Int.ofNat x_.Items.length).toNat +Int.toNat 0+x_.Args.length+x_.Items.length+0+1) x_.Items (Int.ofNat x_.Items.length) 0 (Atom.mk x_.Kind x_.Row x_.Args x_.Func x_.Items x_.Op x_.Bound) []) fun r11=>.i (decide (0≤r11.1.Func)&&decide (r11.1.Func<Int.ofNat zbP.2.length)) (.i (decide ((ByteArray.mk #[(116:UInt8),(101:UInt8),(115:UInt8),(116:UInt8),(91:UInt8)]).size+ByteArray.size (zbP.2.getD r11.1.Func.toNat default)≤9223372036854775807)) (.i (decide ((ByteArray.mk #[(116:UInt8),(101:UInt8),(115:UInt8),(116:UInt8),(91:UInt8)]++zbP.2.getD r11.1.Func.toNat default).size+(ByteArray.mk #[(123:UInt8)]).size≤9223372036854775807)) (.bn (strings_Join r11.2 (ByteArray.mk #[(59:UInt8),(32:UInt8)])) fun r10=>.i (decide ((ByteArray.mk #[(116:UInt8),(101:UInt8),(115:UInt8),(116:UInt8),(91:UInt8)]++zbP.2.getD r11.1.Func.toNat default++ByteArray.mk #[(123:UInt8)]).size+r10.size≤9223372036854775807)) (.i (decide ((ByteArray.mk #[(116:UInt8),(101:UInt8),(115:UInt8),(116:UInt8),(91:UInt8)]++zbP.2.getD r11.1.Func.toNat default++ByteArray.mk #[(123:UInt8)]++r10).size+(ByteArray.mk #[(125:UInt8),(32:UInt8)]).size≤9223372036854775807)) (.i (decide (0≤IntKind.i64.wrap (r11.1.Op - 5))&&decide (IntKind.i64.wrap (r11.1.Op - 5)<Int.ofNat zc3.2.length)) (.i (decide ((ByteArray.mk #[(116:UInt8),(101:UInt8),(115:UInt8),(116:UInt8),(91:UInt8)]++zbP.2.getD r11.1.Func.toNat default++ByteArray.mk #[(123:UInt8)]++r10++ByteArray.mk #[(125:UInt8),(32:UInt8)]).size+ByteArray.size (zc3.2.getD (IntKind.i64.wrap (r11.1.Op - 5)).toNat default)≤9223372036854775807)) (.i (decide ((ByteArray.mk #[(116:UInt8),(101:UInt8),(115:UInt8),(116:UInt8),(91:UInt8)]++zbP.2.getD r11.1.Func.toNat default++ByteArray.mk #[(123:UInt8)]++r10++ByteArray.mk #[(125:UInt8),(32:UInt8)]++zc3.2.getD (IntKind.i64.wrap (r11.1.Op - 5)).toNat default).size+(ByteArray.mk #[(32:UInt8)]).size≤9223372036854775807)) (.bn (zpq r11.1.Bound) fun r9=>.i (decide ((ByteArray.mk #[(116:UInt8),(101:UInt8),(115:UInt8),(116:UInt8),(91:UInt8)]++zbP.2.getD r11.1.Func.toNat default++ByteArray.mk #[(123:UInt8)]++r10++ByteArray.mk #[(125:UInt8),(32:UInt8)]++zc3.2.getD (IntKind.i64.wrap (r11.1.Op - 5)).toNat default++ByteArray.mk #[(32:UInt8)]).size+r9.size≤9223372036854775807)) (.i (decide ((ByteArray.mk #[(116:UInt8),(101:UInt8),(115:UInt8),(116:UInt8),(91:UInt8)]++zbP.2.getD r11.1.Func.toNat default++ByteArray.mk #[(123:UInt8)]++r10++ByteArray.mk #[(125:UInt8),(32:UInt8)]++zc3.2.getD (IntKind.i64.wrap (r11.1.Op - 5)).toNat default++ByteArray.mk #[(32:UInt8)]++r9).size+(ByteArray.mk #[(93:UInt8)]).size≤9223372036854775807)) (.k (ByteArray.mk #[(116:UInt8),(101:UInt8),(115:UInt8),(116:UInt8),(91:UInt8)]++zbP.2.getD r11.1.Func.toNat default++ByteArray.mk #[(123:UInt8)]++r10++ByteArray.mk #[(125:UInt8),(32:UInt8)]++zc3.2.getD (IntKind.i64.wrap (r11.1.Op - 5)).toNat default++ByteArray.mk #[(32:UInt8)]++r9++ByteArray.mk #[(93:UInt8)])) .d) .d) .d) .d) .d) .d) .d) .d) .d) .d))))
def zhN (zbe:List Term→Bool×ByteArray) (x_:Atom):Bool×ByteArray:=(zmc zbe x_).fin default
theorem zyl (zbe:List Term→Bool×ByteArray) (zKX:Sound Tryz.prog base0 109 (zlV zbe)):Sound Tryz.prog base0 153 (zka (zhN zbe)):=
 zn (cx':=(zrk zbe)) zJ ziw zw (zm ⟨zKX,zsO,zKz.nodr,zK2,zB3.nodr,zBR.nodr,trivial⟩) Tryz.call153 Tryz.func153 (c:=body Tryz.f153) (by kernel_rfl) (zh (l:=[lp (body Tryz.f153) 0]) (by kernel_rfl) ⟨zzE zbe,trivial⟩) (sg:=⟨[.pure],[]⟩) (A:=zuj) (res:=zr3) (W:=fun x=>zmc zbe x.1) (z:=default)
abbrev ttTannotationformatFactors0:=Unit×List Factor×Int×Int×Unit
abbrev ttTannotationformatFactors1:=List ByteArray×Unit
def zer (z7:Atom→Bool×ByteArray) (t7:List Factor) (t8:Int) (t9:Int) (out_:List ByteArray):Wy ttTannotationformatFactors0 ttTannotationformatFactors1 (List ByteArray):=.i (decide (t9<t8)) (.i (decide (0≤t9)&&decide (t9<Int.ofNat t7.length)) (.bn (z7 (Atom.mk (t7.getD t9.toNat default).Atom.Kind (t7.getD t9.toNat default).Atom.Row (t7.getD t9.toNat default).Atom.Args (t7.getD t9.toNat default).Atom.Func (t7.getD t9.toNat default).Atom.Items (t7.getD t9.toNat default).Atom.Op (t7.getD t9.toNat default).Atom.Bound)) fun r1=>.i ((t7.getD t9.toNat default).Exp != 1) (.bn (strconv_Itoa (t7.getD t9.toNat default).Exp) fun r0=>.i (decide ((ByteArray.mk #[(94:UInt8)]).size+r0.size≤9223372036854775807)) (.i (decide (r1.size+(ByteArray.mk #[(94:UInt8)]++r0).size≤9223372036854775807)) (.i (decide ((out_.length+[r1++(ByteArray.mk #[(94:UInt8)]++r0)].length)*16≤zQ)) (.h ((),t7,t8,(IntKind.i64.wrap (t9+1)),()) ((out_++[r1++(ByteArray.mk #[(94:UInt8)]++r0)]),())) .d) .d) .d) (.i (decide ((out_.length+[r1].length)*16≤zQ)) (.h ((),t7,t8,(IntKind.i64.wrap (t9+1)),()) ((out_++[r1]),())) .d)) .d) (.k out_)
def zgB (z7:Atom→Bool×ByteArray) (x:ttTannotationformatFactors0) (y:ttTannotationformatFactors1):Wy ttTannotationformatFactors0 ttTannotationformatFactors1 (List ByteArray):=zer z7 x.2.1 x.2.2.1 x.2.2.2.1 y.1
def zoT (z7:Atom→Bool×ByteArray) (n:Nat) (t7:List Factor) (t8:Int) (t9:Int) (out_:List ByteArray):Bool×List ByteArray:=zX (zgB z7) default n ((),t7,t8,t9,()) (out_,())
def zn7 (r:List ByteArray):LTree ty:=.done (.exit 0) [.own 128] [.arr 9 r false]
def zoL:LL ty ttTannotationformatFactors0:=za (lOwn 128) (za (lSl 50) (za (lInt .i64) (za (lInt .i64) zH)))
def zoO:BL ty ttTannotationformatFactors1:=bArr 9 false (bNil)
def zod (x:ttTannotationformatFactors0) (y:ttTannotationformatFactors1):Nat:=(x.2.1.length+Int.toNat x.2.2.1+Int.toNat x.2.2.2.1+y.1.length+1)
def zoM (z7:Atom→Bool×ByteArray):Cx ty:=mkCx base0 32 [(152,strings_Join_spec),(153,(zka z7)),(154,strconv_Itoa_spec)] [] [(3,[(3,.own 9),(7,.keep),(8,.keep),(9,.keep)])] [(3,1,[(3,.keep)])] [(3,spW zoL zoO (zgB z7) default zn7 zod)] []
theorem zx1 (z7:Atom→Bool×ByteArray):zW (zoM z7) (lp (body Tryz.f110) 0):=zK (id:=3) (V:=zoL) (B:=zoO) (W:=zgB z7) (z:=default) (tr:=zn7) (m:=zod)
def zkB (z7:Atom→Bool×ByteArray) (l:List Factor):Wy0 (ByteArray):=.bn (zoT z7 (l.length+(Int.ofNat l.length).toNat +Int.toNat 0+0+1) l (Int.ofNat l.length) 0 []) fun r5=>.bn (strings_Join r5 (ByteArray.mk #[(42:UInt8)])) fun r4=>.k r4
def zfk (z7:Atom→Bool×ByteArray) (l:List Factor):Bool×ByteArray:=(zkB z7 l).fin default
theorem zvR (z7:Atom→Bool×ByteArray) (zDl:Sound Tryz.prog base0 153 (zka z7)):Sound Tryz.prog base0 110 (zff (zfk z7)):=
 zn (cx':=(zoM z7)) zJ ziw zw (zm ⟨zsO,zDl,zAx.nodr,trivial⟩) Tryz.call110 Tryz.func110 (c:=body Tryz.f110) (by kernel_rfl) (zh (l:=[lp (body Tryz.f110) 0]) (by kernel_rfl) ⟨zx1 z7,trivial⟩) (sg:=⟨[.pure],[]⟩) (A:=zrf) (res:=zpL) (W:=fun x=>zkB z7 x.1) (z:=default)
abbrev ttTannotationtext0:=Unit×List Term×Int×Int×Unit
abbrev ttTannotationtext1:=List ByteArray×Unit
def zjF (zR:List Factor→Bool×ByteArray) (t9:List Term) (t10:Int) (t11:Int) (out_:List ByteArray):Wy ttTannotationtext0 ttTannotationtext1 (List ByteArray):=.i (decide (t11<t10)) (.i (decide (0≤t11)&&decide (t11<Int.ofNat t9.length)) (.i (Int.ofNat (t9.getD t11.toNat default).Factors.length==0) (.bn (zhU (t9.getD t11.toNat default).Coeff 10) fun r0=>.i (decide ((out_.length+[r0].length)*16≤zQ)) (.h ((),t9,t10,(IntKind.i64.wrap (t11+1)),()) ((out_++[r0]),())) .d) (.i ((t9.getD t11.toNat default).Coeff==1) (.bn (zR (t9.getD t11.toNat default).Factors) fun r1=>.i (decide ((out_.length+[r1].length)*16≤zQ)) (.h ((),t9,t10,(IntKind.i64.wrap (t11+1)),()) ((out_++[r1]),())) .d) (.bn (zhU (t9.getD t11.toNat default).Coeff 10) fun r3=>.i (decide (r3.size+(ByteArray.mk #[(42:UInt8)]).size≤9223372036854775807)) (.bn (zR (t9.getD t11.toNat default).Factors) fun r2=>.i (decide ((r3++ByteArray.mk #[(42:UInt8)]).size+r2.size≤9223372036854775807)) (.i (decide ((out_.length+[r3++ByteArray.mk #[(42:UInt8)]++r2].length)*16≤zQ)) (.h ((),t9,t10,(IntKind.i64.wrap (t11+1)),()) ((out_++[r3++ByteArray.mk #[(42:UInt8)]++r2]),())) .d) .d) .d))) .d) (.k out_)
def zmo (zR:List Factor→Bool×ByteArray) (x:ttTannotationtext0) (y:ttTannotationtext1):Wy ttTannotationtext0 ttTannotationtext1 (List ByteArray):=zjF zR x.2.1 x.2.2.1 x.2.2.2.1 y.1
def zxE (zR:List Factor→Bool×ByteArray) (n:Nat) (t9:List Term) (t10:Int) (t11:Int) (out_:List ByteArray):Bool×List ByteArray:=zX (zmo zR) default n ((),t9,t10,t11,()) (out_,())
def zwC (r:List ByteArray):LTree ty:=.done (.exit 0) [.own 200] [.arr 9 r false]
def zxo:LL ty ttTannotationtext0:=za (lOwn 200) (za (lSl 42) (za (lInt .i64) (za (lInt .i64) zH)))
def zw6:BL ty ttTannotationtext1:=bArr 9 false (bNil)
def zwf (x:ttTannotationtext0) (y:ttTannotationtext1):Nat:=(x.2.1.length+Int.toNat x.2.2.1+Int.toNat x.2.2.2.1+y.1.length+1)
def zwY (zR:List Factor→Bool×ByteArray):Cx ty:=mkCx base0 50 [(110,(zff zR)),(151,strconv_FormatInt_spec),(152,strings_Join_spec)] [] [(5,[(3,.own 9),(9,.keep),(10,.keep),(11,.keep)])] [(5,1,[(3,.keep)])] [(5,spW zxo zw6 (zmo zR) default zwC zwf)] []
theorem zHZ (zR:List Factor→Bool×ByteArray):zW (zwY zR) (lp (body Tryz.f109) 0):=zK (id:=5) (V:=zxo) (B:=zw6) (W:=zmo zR) (z:=default) (tr:=zwC) (m:=zwf)
def zrs (zR:List Factor→Bool×ByteArray) (a:List Term):Wy0 (ByteArray):=.i (Int.ofNat a.length==0) (.k (ByteArray.mk #[(48:UInt8)])) (.bn (zxE zR (a.length+(Int.ofNat a.length).toNat +Int.toNat 0+0+1) a (Int.ofNat a.length) 0 []) fun r9=>.bn (strings_Join r9 (ByteArray.mk #[(32:UInt8),(43:UInt8),(32:UInt8)])) fun r8=>.k r8)
def zl4 (zR:List Factor→Bool×ByteArray) (a:List Term):Bool×ByteArray:=(zrs zR a).fin default
theorem zFw (zR:List Factor→Bool×ByteArray) (zzK:Sound Tryz.prog base0 110 (zff zR)):Sound Tryz.prog base0 109 (zlV (zl4 zR)):=
 zn (cx':=(zwY zR)) zJ ziw zw (zm ⟨zzK,ztW.nodr,zsO,trivial⟩) Tryz.call109 Tryz.func109 (c:=body Tryz.f109) (by kernel_rfl) (zh (l:=[lp (body Tryz.f109) 0]) (by kernel_rfl) ⟨zHZ zR,trivial⟩) (sg:=⟨[.pure],[]⟩) (A:=zCp) (res:=zyN) (W:=fun x=>zrs zR x.1) (z:=default)
def zzw:Nat→(List Term→Bool×ByteArray)×(Atom→Bool×ByteArray)×(List Factor→Bool×ByteArray)
 | 0=>(fun _=>(false,default),fun _=>(false,default),fun _=>(false,default))
 | n+1=>(zl4 ((zzw n).2.2),zhN ((zzw n).1),zfk ((zzw n).2.1))
def zlW (n:Nat):List Term→Bool×ByteArray:=(zzw n).1
def zkc (n:Nat):Atom→Bool×ByteArray:=(zzw n).2.1
def zfe (n:Nat):List Factor→Bool×ByteArray:=(zzw n).2.2
theorem zJr (n:Nat):zlW (n+1)=zl4 (zfe n):=rfl
theorem zB6 (n:Nat):zkc (n+1)=zhN (zlW n):=rfl
theorem zyk (n:Nat):zfe (n+1)=zfk (zkc n):=rfl
theorem zJp:∀ n,Sound Tryz.prog base0 109 (zlV (zlW n))∧Sound Tryz.prog base0 153 (zka (zkc n))∧Sound Tryz.prog base0 110 (zff (zfe n))
 | 0=>⟨zbj Tryz.call109 (fun _=>rfl),zbj Tryz.call153 (fun _=>rfl),zbj Tryz.call110 (fun _=>rfl)⟩
 | n+1=>by
  have ih:=zJp n
  exact ⟨zFw _ (ih.2.2),zyl _ (ih.1),zvR _ (ih.2.1)⟩
def zFM:List Term→Bool×ByteArray:=zlW 1000
def annotation_text_spec:Ab.Spec ty:=zlV zFM
theorem zHq:Sound Tryz.prog base0 109 annotation_text_spec:=(zJp 1000).1
def zm1:List Factor→Bool×ByteArray:=zfe 1000
def annotation_formatFactors_spec:Ab.Spec ty:=zff zm1
theorem zx3:Sound Tryz.prog base0 110 annotation_formatFactors_spec:=(zJp 1000).2.2
def zjf (x:List Term) (a b lim:Int):Bool×List Term:=zQD zbL x a b lim
def slices_pdqsortCmpFunc_api_Term_spec:Ab.Spec ty:=zk (cx:=base) (zf (aOwn 42) (zf (zg (vInt .i64)) (zf (zg (vInt .i64)) (zf (zg (vInt .i64)) (zf (zg (vFn 71 vNil)) aNil))))) fun x=>((zjf x.1 x.2.1 x.2.2.1 x.2.2.2.1).1,⟨[],[some ⟨42,(zjf x.1 x.2.1 x.2.2.1 x.2.2.2.1).2⟩]⟩)
theorem zuo (c:Unit) (x y:Term) (h:(zbL x y).1=true):annotation_compareLists_spec ((AV.agg (base.enc 42 x)::AV.agg (base.enc 42 y)::(vNil:VL base Unit).enc c).map Arg.pure)=some (true,⟨[.pure (.lit (.int .i64 (zbL x y).2))],[]⟩):=by
 rw [← h]; kernel_rfl
theorem ztq:Sound Tryz.prog base 155 slices_pdqsortCmpFunc_api_Term_spec:=by
 letI:DecidableEq (ty 42):=inferInstanceAs (DecidableEq Term)
 exact zU7 (T:=42) zl rfl Go.Proofs.Tryz.pdqTerm Tryz.isAgg42 (by unfold szOf; exact Tryz.sizeOf42) Tryz.call155 zjZ vNil (fun c=>zbL) zuo
open Go.Proofs Go.RowKit
def zbz (x:List Term):Bool×List Term:=zSi zbL x
def zei:Ab.Spec ty:=zk (cx:=base) (zf (aOwn 42) (zf (zg (vFn 71 vNil)) aNil)) fun x=>((zbz x.1).1,⟨[],[some ⟨42,(zbz x.1).2⟩]⟩)
set_option maxHeartbeats 1000000 in
theorem zoe:Sound Tryz.prog base 111 zei where
 enters:=Tryz.call111
 calls:=fun avs r hsp w F vs hF ha hsep=>by
  unfold zei zk at hsp
  split at hsp
  ·rename_i x hx
   simp only [Option.some.injEq,Prod.mk.injEq] at hsp
   obtain ⟨hpre,rfl⟩:=hsp
   have hk:=(zf (aOwn 42) (zf (zg (vFn 71 vNil)) aNil):AL base _).kind vs avs x hx
   have ha':=(zf (aOwn 42) (zf (zg (vFn 71 vNil)) aNil):AL base _).ok Tryz.prog zl F w vs avs x hx ha
   rw [hk] at hsep ⊢
   clear hk hx ha
   obtain ⟨l0,c,u0⟩:=x
   obtain ⟨l,rfl⟩:∃ l:List Term,l=l0:=⟨l0,rfl⟩
   obtain ⟨v,vs',rfl,hv,hv'⟩:=ha'.inv
   obtain ⟨fv,vs'',rfl,hfv,h0⟩:=hv'.inv
   obtain rfl:=h0.nil_left.1
   have hsl:∃ p cap,v=.slice p l.length cap:=by
    obtain ⟨⟨xs,hown,_⟩,_⟩:=(show zcV base F w v 42 l∧∀ b,zbd v=some b→¬ F b from hv)
    rcases hown.2 with ⟨h1,h2⟩ | ⟨g0,cap,cur,h1,_⟩
    ·exact ⟨none,0,by rw [h1,show l.length=0 from h2]⟩
    ·exact ⟨_,cap,h1⟩
   have hok:SortOK (α:=Term) zbL l:=of_decide_eq_true (p:=SortOK (α:=Term) zbL l) hpre
   have hlen:l.length<4611686018427387904:=hok.size
   have hbl:Lib.bitLen l.length<4611686018427387904:=Nat.lt_of_le_of_lt (Lib.bitLen_le l.length 62 (by omega) (by omega)) (by omega)
   have hpp:(zjf l 0 (l.length:Int) ((Lib.bitLen l.length:Nat):Int)).1=true:=by
    show (decide (SortOK (α:=Term) zbL l)&&(decide ((0:Int)=0)&&(decide ((l.length:Int)=l.length)&&(decide ((0:Int)≤((Lib.bitLen l.length:Nat):Int))&&decide (((Lib.bitLen l.length:Nat):Int)<4611686018427387904)))))=true
    simp only [Bool.and_eq_true,decide_eq_true_eq]
    exact ⟨hok,trivial,trivial,by omega,by omega⟩
   have hp:=(ztq).calls [.own 42 l,.pure (.lit (.int .i64 0)),.pure (.lit (.int .i64 (l.length:Int))),.pure (.lit (.int .i64 ((Lib.bitLen l.length:Nat):Int))),.pure (.fn 71 [])] ⟨[],[some ⟨42,(zbz l).2⟩]⟩
    (by rw [← hpp]; kernel_rfl) w F [v,.int .i64 0,.int .i64 (l.length:Int),.int .i64 ((Lib.bitLen l.length:Nat):Int),fv] hF (.cons hv (.cons (Rep.lit _) (.cons (Rep.lit _) (.cons (Rep.lit _) (.cons hfv .nil))))) hsep
   replace hp:Calls Tryz.prog 155 #[v,.int .i64 0,.int .i64 (l.length:Int),.int .i64 ((Lib.bitLen l.length:Nat):Int),fv] w fun e w'=>∃ u,e=.returned u∧Post base F w [v] ⟨[],[some ⟨42,(zbz l).2⟩]⟩ u w':=hp
   show Calls Tryz.prog 111 #[v,fv] w fun e w'=>∃ u,e=.returned u∧Post base F w [v] ⟨[],[some ⟨42,(zbz l).2⟩]⟩ u w'
   have hb:Calls Tryz.prog 156 #[.int .u64 (l.length:Int)] w fun e w'=>e=.returned (.int .i64 ((Lib.bitLen l.length:Nat):Int))∧w'=w:=by
    have h:=Any.bits_Len Go.Proofs.Tryz.lays125 (l.length:Int) w (by omega) (by omega)
    rwa [Int.toNat_natCast] at h
   have wr:IntKind.u64.wrap (l.length:Int)=l.length:=by simp [IntKind.wrap,IntKind.bits,IntKind.signed]; omega
   generalize (zbz l).2=res at hp ⊢
   generalize hn:l.length=m at *
   generalize Lib.bitLen m=bl at *
   clear hpp hv hfv hsep hok hpre hF
   obtain ⟨p,cap,rfl⟩:=hsl
   clear hn
   go_enter Tryz.func111,Tryz.ntmps111
   go_wp2_with (first | (go_at_call 156; refine hb.mono ?_; rintro e w' ⟨rfl,rfl⟩) | (go_at_call 155; refine hp.mono ?_; rintro e w' ⟨u,rfl,hpost⟩; obtain rfl:=hpost.unit))
   go_end0
   exact ⟨_,rfl,hpost⟩
  ·cases hsp
end Go.Proofs.YtnolcogncjijpaaGreatDoor
namespace Go.Proofs.YtnolcogncjijpaaGreatDoor
open Go Go.Ab
abbrev ttTannotationcollect0:=Unit×Unit×List Term×Int×Int×Unit
abbrev ttTannotationcollect1:=(List (_root_.Go.Value×Int))×List Term×Unit
def ziN (t11:List Term) (t12:Int) (t13:Int) (at_:List (_root_.Go.Value×Int)) (out_:List Term):Wy ttTannotationcollect0 ttTannotationcollect1 (List Term):=.i (decide (t13<t12)) (.i (decide (0≤t13)&&decide (t13<Int.ofNat t11.length)) (.bn (zm1 (t11.getD t13.toNat default).Factors) fun r0=>.i (zUS (Value.string r0) at_) (.i (decide (0≤(zxA (Value.string r0) at_).getD 0)&&decide ((zxA (Value.string r0) at_).getD 0<Int.ofNat out_.length)) (.i (decide (0≤(zxA (Value.string r0) at_).getD 0)&&decide ((zxA (Value.string r0) at_).getD 0<Int.ofNat out_.length)) (.i (decide (Int.toNat ((zxA (Value.string r0) at_).getD 0)<out_.length)) (.h ((),(),t11,t12,(IntKind.i64.wrap (t13+1)),()) (at_,(out_.set (Int.toNat ((zxA (Value.string r0) at_).getD 0)) (TermOf.mk (if 1152921504606846976<IntKind.i64.wrap ((out_.getD (Int.toNat ((zxA (Value.string r0) at_).getD 0)) default).Coeff+(t11.getD t13.toNat default).Coeff) then 1152921504606846976 else IntKind.i64.wrap ((out_.getD (Int.toNat ((zxA (Value.string r0) at_).getD 0)) default).Coeff+(t11.getD t13.toNat default).Coeff)) (out_.getD (Int.toNat ((zxA (Value.string r0) at_).getD 0)) default).Factors)),())) .d) .d) .d) (.i (decide ((out_.length+[t11.getD t13.toNat default].length)*32≤zQ)) (.h ((),(),t11,t12,(IntKind.i64.wrap (t13+1)),()) ((zUM (Value.string r0) (Int.ofNat out_.length) at_),(out_++[t11.getD t13.toNat default]),())) .d)) .d) (.k out_)
def zlj (x:ttTannotationcollect0) (y:ttTannotationcollect1):Wy ttTannotationcollect0 ttTannotationcollect1 (List Term):=ziN x.2.2.1 x.2.2.2.1 x.2.2.2.2.1 y.1 y.2.1
def zpt (n:Nat) (t11:List Term) (t12:Int) (t13:Int) (at_:List (_root_.Go.Value×Int)) (out_:List Term):Bool×List Term:=zX (zlj) default n ((),(),t11,t12,t13,()) (at_,out_,())
def zvj (r:List Term):LTree ty:=.done (.exit 0) [.own 208] [.arr 42 r false]
def zwe:LL ty ttTannotationcollect0:=za (lMp 208) (za (lOwn 209) (za (lSl 42) (za (lInt .i64) (za (lInt .i64) zH))))
def zv1:BL ty ttTannotationcollect1:=bMp 9 3 false (bArr 42 false (bNil))
def zu1 (x:ttTannotationcollect0) (y:ttTannotationcollect1):Nat:=(x.2.2.1.length+Int.toNat x.2.2.2.1+Int.toNat x.2.2.2.2.1+y.1.length+y.2.1.length+1)
def zwI:Cx ty:=mkCx base0 52 [(71,annotation_compareLists_spec),(110,annotation_formatFactors_spec),(111,zei)] [(111,[true,false])] [(4,[(3,.keep),(4,.own 42),(11,.keep),(12,.keep),(13,.keep)])] [(4,1,[(4,.keep)])] [(4,spW zwe zv1 (zlj) default zvj zu1)] []
theorem zHb:zW zwI (lp (body Tryz.f54) 0):=zK (id:=4) (V:=zwe) (B:=zv1) (W:=zlj) (z:=default) (tr:=zvj) (m:=zu1)
def zqx (terms:List Term):Wy0 (List Term):=.bn (zpt (terms.length+(Int.ofNat terms.length).toNat +Int.toNat 0+0+0+1) terms (Int.ofNat terms.length) 0 [] []) fun r3=>.bn (zbz r3) fun r2=>.k r2
def zgO (terms:List Term):Bool×List Term:=(zqx terms).fin default
def zu4 (r:List Term):ARes ty:=⟨[.own 42 r],[]⟩
def zxM:AL base0 (List Term×Unit):=zf (zg (vSl 42)) aNil
def znQ:Ab.Spec ty:=zk zxM fun x=>((zgO x.1).1,zu4 (zgO x.1).2)
theorem zsI:Sound Tryz.prog base0 54 znQ:=
 zn (cx':=zwI) zJ ziw zw (zm ⟨zjZ.nodr,zx3,zoe.nodr,trivial⟩) Tryz.call54 Tryz.func54 (c:=body Tryz.f54) (by kernel_rfl) (zh (l:=[lp (body Tryz.f54) 0]) (by kernel_rfl) ⟨zHb,trivial⟩) (sg:=⟨[.own 42],[]⟩) (A:=zxM) (res:=zu4) (W:=fun x=>zqx x.1) (z:=default)
def zv2 (r:List Term):ARes ty:=⟨[.own 42 r],[]⟩
def zyZ:AL base (List Term×Unit):=zf (zg (vSl 42)) aNil
def zko (F:List Term→Bool×List Term):Ab.Spec ty:=zk zyZ fun x=>((F x.1).1,zv2 (F x.1).2)
def zr7 (r:Atom):ARes ty:=⟨[.pure (.agg (base.enc 48 r))],[]⟩
def zt2:AL base (Atom×Unit):=zf (zg (vAgg 48)) aNil
def zj7 (F:Atom→Bool×Atom):Ab.Spec ty:=zk zt2 fun x=>((F x.1).1,zr7 (F x.1).2)
def zd0:Cx ty:={ base with nt:=8 }
def zeo (s:List Factor):Bool×List Factor:=(decide (s.length*128≤zQ),s)
def zjx:Ab.Spec ty:=zk (cx:=base) (zf (zg (vSl 50)) aNil) fun x=>((zeo x.1).1,⟨[.own 50 (zeo x.1).2],[]⟩)
theorem zrb:zit zd0 Tryz.f117 (body Tryz.f117) ⟨[.own 50],[]⟩ [.pure (.lit (.slice none 0 0))]=some ⟨[.own 50 []],[]⟩:=by kernel_rfl
theorem zpQ (p:Addr) (c:Nat):zit zd0 Tryz.f117 (body Tryz.f117) ⟨[.own 50],[]⟩ [.pure (.lit (.slice (some p) 0 c))]=some ⟨[.own 50 []],[]⟩:=by kernel_rfl
theorem zqv (l:List Factor):zit zd0 Tryz.f117 (body Tryz.f117) ⟨[.own 50],[]⟩ [.pure (.sl 50 l)]=bif !l.isEmpty then bif decide ((([]:List (ty 50)).length+l.length)*128≤zQ) then some ⟨[.own 50 l],[]⟩ else none else none:=by kernel_rfl
theorem zpP:Sound Tryz.prog base 117 zjx:=
 zG6 (cx':=zd0) (bytes:=128) zJ zl ⟨⟨rfl,rfl,rfl,rfl,rfl,rfl⟩,rfl⟩ (fun g s h=>by cases h) Tryz.call117 Tryz.func117 (c:=body Tryz.f117) (by kernel_rfl) (zh (l:=[]) (by kernel_rfl) trivial) zrb zpQ zqv (by kernel_rfl)
abbrev ttTannotationcopied0:=Unit×Unit×Unit×List Term×Int×Int×Int×Int×Unit
abbrev ttTannotationcopied1:=List Term×Term×List Factor×Unit
abbrev ttTannotationcopied2:=List Term×Int×Int×List Term×Term×List Factor
abbrev ttTannotationcopied3:=Unit×List Term×Int×Int×Unit
abbrev ttTannotationcopied4:=List Term×Unit
def zik (zD:Atom→Bool×Atom) (t8:List Term) (t9:Int) (t10:Int) (t18:Int) (t19:Int) (out_:List Term) (t:Term) (factors:List Factor):Wy ttTannotationcopied0 ttTannotationcopied1 ttTannotationcopied2:=.i (decide (t19<t18)) (.i (decide (0≤t19)&&decide (t19<Int.ofNat factors.length)) (.bn (zD (Atom.mk (factors.getD t19.toNat default).Atom.Kind (factors.getD t19.toNat default).Atom.Row (factors.getD t19.toNat default).Atom.Args (factors.getD t19.toNat default).Atom.Func (factors.getD t19.toNat default).Atom.Items (factors.getD t19.toNat default).Atom.Op (factors.getD t19.toNat default).Atom.Bound)) fun r2=>.i (decide (0≤t19)&&decide (t19<Int.ofNat factors.length)) (.i (decide (t19.toNat<factors.length)) (.h ((),(),(),t8,t9,t10,t18,(IntKind.i64.wrap (t19+1)),()) (out_,t,(factors.set t19.toNat (FactorOf.mk (Atom.mk r2.Kind r2.Row r2.Args r2.Func r2.Items r2.Op r2.Bound) (factors.getD t19.toNat default).Exp)),())) .d) .d) .d) (.k (t8,t9,t10,out_,t,factors))
def zkI (zD:Atom→Bool×Atom) (x:ttTannotationcopied0) (y:ttTannotationcopied1):Wy ttTannotationcopied0 ttTannotationcopied1 ttTannotationcopied2:=zik zD x.2.2.2.1 x.2.2.2.2.1 x.2.2.2.2.2.1 x.2.2.2.2.2.2.1 x.2.2.2.2.2.2.2.1 y.1 y.2.1 y.2.2.1
def zvi (zD:Atom→Bool×Atom) (n:Nat) (t8:List Term) (t9:Int) (t10:Int) (t18:Int) (t19:Int) (out_:List Term) (t:Term) (factors:List Factor):Bool×ttTannotationcopied2:=zX (zkI zD) default n ((),(),(),t8,t9,t10,t18,t19,()) (out_,t,factors,())
def zuh (r:ttTannotationcopied2):LTree ty:=.done (.exit 2) [.own 168,.ptr 169 0,.own 170,.sl 42 r.1,.lit (.int .i64 r.2.1),.lit (.int .i64 r.2.2.1)] [.arr 42 r.2.2.2.1 false,.box (base.enc 42 r.2.2.2.2.1) false,.arr 50 r.2.2.2.2.2 false]
def zuW:LL ty ttTannotationcopied0:=za (lOwn 168) (za (ze9 169 0) (za (lOwn 170) (za (lSl 42) (za (lInt .i64) (za (lInt .i64) (za (lInt .i64) (za (lInt .i64) zH)))))))
def zuT:BL ty ttTannotationcopied1:=bArr 42 false (bBox (zgz (fun x=>(⟨x.1,x.2.1⟩:Term)) (fun x=>(x.Coeff,x.Factors,())) (fun _=>rfl) (za (lInt .i64) (za (lSl 50) zH))) false (bArr 50 false (bNil)))
def zie (zD:Atom→Bool×Atom) (t8:List Term) (t9:Int) (t10:Int) (out_:List Term):Wy ttTannotationcopied3 ttTannotationcopied4 (List Term):=.i (decide (t10<t9)) (.i (decide (0≤t10)&&decide (t10<Int.ofNat t8.length)) (.bn (zeo (t8.getD t10.toNat default).Factors) fun r5=>.bn (zvi zD (t8.length+t9.toNat +t10.toNat +(Int.ofNat r5.length).toNat +Int.toNat 0+out_.length+(t8.getD t10.toNat default).Factors.length+r5.length+1) t8 t9 t10 (Int.ofNat r5.length) 0 out_ (t8.getD t10.toNat default) r5) fun r4=>.i (decide ((r4.2.2.2.1.length+[TermOf.mk r4.2.2.2.2.1.Coeff r4.2.2.2.2.2].length)*32≤zQ)) (.h ((),(r4.1),(r4.2.1),(IntKind.i64.wrap (r4.2.2.1+1)),()) ((r4.2.2.2.1++[TermOf.mk r4.2.2.2.2.1.Coeff r4.2.2.2.2.2]),())) .d) .d) (.k out_)
def zkF (zD:Atom→Bool×Atom) (x:ttTannotationcopied3) (y:ttTannotationcopied4):Wy ttTannotationcopied3 ttTannotationcopied4 (List Term):=zie zD x.2.1 x.2.2.1 x.2.2.2.1 y.1
def zvt (zD:Atom→Bool×Atom) (n:Nat) (t8:List Term) (t9:Int) (t10:Int) (out_:List Term):Bool×List Term:=zX (zkF zD) default n ((),t8,t9,t10,()) (out_,())
def zuk (r:List Term):LTree ty:=.done (.exit 0) [.own 168] [.arr 42 r false]
def zuR:LL ty ttTannotationcopied3:=za (lOwn 168) (za (lSl 42) (za (lInt .i64) (za (lInt .i64) zH)))
def zuN:BL ty ttTannotationcopied4:=bArr 42 false (bNil)
def zt0 (x:ttTannotationcopied0) (y:ttTannotationcopied1):Nat:=(x.2.2.2.1.length+Int.toNat x.2.2.2.2.1+Int.toNat x.2.2.2.2.2.1+Int.toNat x.2.2.2.2.2.2.1+Int.toNat x.2.2.2.2.2.2.2.1+y.1.length+y.2.1.Factors.length+y.2.2.1.length+1)
def zt1 (x:ttTannotationcopied3) (y:ttTannotationcopied4):Nat:=(x.2.1.length+Int.toNat x.2.2.1+Int.toNat x.2.2.2.1+y.1.length+1)
def zoF (zD:Atom→Bool×Atom):Cx ty:=mkCx base 42 [(117,zjx),(118,(zj7 zD))] [] [(3,[(3,.own 42),(8,.keep),(9,.keep),(10,.keep)]),(7,[(3,.keep),(5,.keep),(6,.keep),(8,.keep),(9,.keep),(10,.keep),(18,.keep),(19,.keep)])] [(3,1,[(3,.keep)]),(7,3,[(3,.keep),(5,.keep),(6,.keep),(8,.keep),(9,.keep),(10,.keep)])] [(7,spW zuW zuT (zkI zD) default zuh zt0),(3,spW zuR zuN (zkF zD) default zuk zt1)] []
theorem zFh (zD:Atom→Bool×Atom):zW (zoF zD) (lp (body Tryz.f61) 1):=zK (id:=7) (V:=zuW) (B:=zuT) (W:=zkI zD) (z:=default) (tr:=zuh) (m:=zt0)
theorem zFg (zD:Atom→Bool×Atom):zW (zoF zD) (lp (body Tryz.f61) 0):=zK (id:=3) (V:=zuR) (B:=zuN) (W:=zkF zD) (z:=default) (tr:=zuk) (m:=zt1)
def zpl (zD:Atom→Bool×Atom) (a:List Term):Wy0 (List Term):=.bn (zvt zD (a.length+(Int.ofNat a.length).toNat +Int.toNat 0+0+1) a (Int.ofNat a.length) 0 []) fun r8=>.k r8
def zkm (zD:Atom→Bool×Atom) (a:List Term):Bool×List Term:=(zpl zD a).fin default
theorem zC4 (zD:Atom→Bool×Atom) (zDb:Sound Tryz.prog base 118 (zj7 zD)):Sound Tryz.prog base 61 (zko (zkm zD)):=
 zn (cx':=(zoF zD)) zJ zl zw (zm ⟨zpP,zDb,trivial⟩) Tryz.call61 Tryz.func61 (c:=body Tryz.f61) (by kernel_rfl) (zh (l:=[lp (body Tryz.f61) 0,lp (body Tryz.f61) 1]) (by kernel_rfl) ⟨zFg zD,zFh zD,trivial⟩) (sg:=⟨[.own 42],[]⟩) (A:=zyZ) (res:=zv2) (W:=fun x=>zpl zD x.1) (z:=default)
def zcP:Cx ty:={ base with nt:=8 }
def zdb (s:List (List Term)):Bool×List (List Term):=(decide (s.length*24≤zQ),s)
def zg4:Ab.Spec ty:=zk (cx:=base) (zf (zg (vSl 23)) aNil) fun x=>((zdb x.1).1,⟨[.own 23 (zdb x.1).2],[]⟩)
theorem znx:zit zcP Tryz.f159 (body Tryz.f159) ⟨[.own 23],[]⟩ [.pure (.lit (.slice none 0 0))]=some ⟨[.own 23 []],[]⟩:=by kernel_rfl
theorem zmM (p:Addr) (c:Nat):zit zcP Tryz.f159 (body Tryz.f159) ⟨[.own 23],[]⟩ [.pure (.lit (.slice (some p) 0 c))]=some ⟨[.own 23 []],[]⟩:=by kernel_rfl
theorem zm2 (l:List (List Term)):zit zcP Tryz.f159 (body Tryz.f159) ⟨[.own 23],[]⟩ [.pure (.sl 23 l)]=bif !l.isEmpty then bif decide ((([]:List (ty 23)).length+l.length)*24≤zQ) then some ⟨[.own 23 l],[]⟩ else none else none:=by kernel_rfl
theorem zmR:Sound Tryz.prog base 159 zg4:=
 zG6 (cx':=zcP) (bytes:=24) zJ zl ⟨⟨rfl,rfl,rfl,rfl,rfl,rfl⟩,rfl⟩ (fun g s h=>by cases h) Tryz.call159 Tryz.func159 (c:=body Tryz.f159) (by kernel_rfl) (zh (l:=[]) (by kernel_rfl) trivial) znx zmM zm2 (by kernel_rfl)
def zdj:Cx ty:={ base with nt:=8 }
def zdU (s:List Weighted):Bool×List Weighted:=(decide (s.length*56≤zQ),s)
def zin:Ab.Spec ty:=zk (cx:=base) (zf (zg (vSl 52)) aNil) fun x=>((zdU x.1).1,⟨[.own 52 (zdU x.1).2],[]⟩)
theorem zoW:zit zdj Tryz.f160 (body Tryz.f160) ⟨[.own 52],[]⟩ [.pure (.lit (.slice none 0 0))]=some ⟨[.own 52 []],[]⟩:=by kernel_rfl
theorem zoq (p:Addr) (c:Nat):zit zdj Tryz.f160 (body Tryz.f160) ⟨[.own 52],[]⟩ [.pure (.lit (.slice (some p) 0 c))]=some ⟨[.own 52 []],[]⟩:=by kernel_rfl
theorem zoy (l:List Weighted):zit zdj Tryz.f160 (body Tryz.f160) ⟨[.own 52],[]⟩ [.pure (.sl 52 l)]=bif !l.isEmpty then bif decide ((([]:List (ty 52)).length+l.length)*56≤zQ) then some ⟨[.own 52 l],[]⟩ else none else none:=by kernel_rfl
theorem zos:Sound Tryz.prog base 160 zin:=
 zG6 (cx':=zdj) (bytes:=56) zJ zl ⟨⟨rfl,rfl,rfl,rfl,rfl,rfl⟩,rfl⟩ (fun g s h=>by cases h) Tryz.call160 Tryz.func160 (c:=body Tryz.f160) (by kernel_rfl) (zh (l:=[]) (by kernel_rfl) trivial) zoW zoq zoy (by kernel_rfl)
abbrev ttTannotationcopiedAtom0:=Unit×Unit×Int×Int×Unit
abbrev ttTannotationcopiedAtom1:=(Int×Int×Int×Unit×Int×List Weighted×Int×Int×Int×ByteArray×Unit)×(Int×Int×Int×Unit×Int×Unit×Int×Int×Int×ByteArray×Unit)×List (List Term)×Unit
abbrev ttTannotationcopiedAtom2:=Int×Int×Int×Int×List Weighted×Int×Int×Int×ByteArray×Int×Int×Int×Int×Int×Int×Int×ByteArray×List (List Term)
abbrev ttTannotationcopiedAtom3:=(Int×Int×Int×Unit×Int×Unit×Int×Int×Int×ByteArray×Unit)×(Int×Int×Int×Unit×Int×Unit×Int×Int×Int×ByteArray×Unit)×List (List Term)×List Weighted×Unit
abbrev ttTannotationcopiedAtom4:=Int×Int×Int×Int×Int×Int×Int×ByteArray×Int×Int×Int×Int×Int×Int×Int×ByteArray×List (List Term)×List Weighted
def zfq (zO:List Term→Bool×List Term) (t11:Int) (t12:Int) (x_0:Int) (x_1:Int) (x_2:Int) (x_3:Int) (x_4:List Weighted) (x_5:Int) (x_6:Int) (x_7:Int) (x_8:ByteArray) (t2_0:Int) (t2_1:Int) (t2_2:Int) (t2_3:Int) (t2_4:Int) (t2_5:Int) (t2_6:Int) (t2_7:ByteArray) (b2:List (List Term)):Wy ttTannotationcopiedAtom0 ttTannotationcopiedAtom1 ttTannotationcopiedAtom2:=.i (decide (t12<t11)) (.i (decide (0≤t12)&&decide (t12<Int.ofNat b2.length)) (.bn (zO (b2.getD t12.toNat default)) fun r0=>.i (decide (0≤t12)&&decide (t12<Int.ofNat b2.length)) (.i (decide (t12.toNat<b2.length)) (.h ((),(),t11,(IntKind.i64.wrap (t12+1)),()) ((x_0,x_1,x_2,(),x_3,x_4,x_5,x_6,x_7,x_8,()),(t2_0,t2_1,t2_2,(),t2_3,(),t2_4,t2_5,t2_6,t2_7,()),(b2.set t12.toNat r0),())) .d) .d) .d) (.k (x_0,x_1,x_2,x_3,x_4,x_5,x_6,x_7,x_8,t2_0,t2_1,t2_2,t2_3,t2_4,t2_5,t2_6,t2_7,b2))
def zir (zO:List Term→Bool×List Term) (x:ttTannotationcopiedAtom0) (y:ttTannotationcopiedAtom1):Wy ttTannotationcopiedAtom0 ttTannotationcopiedAtom1 ttTannotationcopiedAtom2:=zfq zO x.2.2.1 x.2.2.2.1 y.1.1 y.1.2.1 y.1.2.2.1 y.1.2.2.2.2.1 y.1.2.2.2.2.2.1 y.1.2.2.2.2.2.2.1 y.1.2.2.2.2.2.2.2.1 y.1.2.2.2.2.2.2.2.2.1 y.1.2.2.2.2.2.2.2.2.2.1 y.2.1.1 y.2.1.2.1 y.2.1.2.2.1 y.2.1.2.2.2.2.1 y.2.1.2.2.2.2.2.2.1 y.2.1.2.2.2.2.2.2.2.1 y.2.1.2.2.2.2.2.2.2.2.1 y.2.1.2.2.2.2.2.2.2.2.2.1 y.2.2.1
def zq5 (zO:List Term→Bool×List Term) (n:Nat) (t11:Int) (t12:Int) (x_0:Int) (x_1:Int) (x_2:Int) (x_3:Int) (x_4:List Weighted) (x_5:Int) (x_6:Int) (x_7:Int) (x_8:ByteArray) (t2_0:Int) (t2_1:Int) (t2_2:Int) (t2_3:Int) (t2_4:Int) (t2_5:Int) (t2_6:Int) (t2_7:ByteArray) (b2:List (List Term)):Bool×ttTannotationcopiedAtom2:=zX (zir zO) default n ((),(),t11,t12,()) ((x_0,x_1,x_2,(),x_3,x_4,x_5,x_6,x_7,x_8,()),(t2_0,t2_1,t2_2,(),t2_3,(),t2_4,t2_5,t2_6,t2_7,()),b2,())
def zqe (r:ttTannotationcopiedAtom2):LTree ty:=.done (.exit 0) [.ptr 200 0,.ptr 201 0] [.box ([.lit (.int .i64 r.1),.lit (.int .i64 r.2.1),.lit (.int .i64 r.2.2.1),.own 202,.lit (.int .i64 r.2.2.2.1),.sl 52 r.2.2.2.2.1,.lit (.int .i64 r.2.2.2.2.2.1),.lit (.int .i64 r.2.2.2.2.2.2.1),.lit (.int .i64 r.2.2.2.2.2.2.2.1),.lit (.string r.2.2.2.2.2.2.2.2.1)]) false,.box ([.lit (.int .i64 r.2.2.2.2.2.2.2.2.2.1),.lit (.int .i64 r.2.2.2.2.2.2.2.2.2.2.1),.lit (.int .i64 r.2.2.2.2.2.2.2.2.2.2.2.1),.lit (.slice none 0 0),.lit (.int .i64 r.2.2.2.2.2.2.2.2.2.2.2.2.1),.lit (.slice none 0 0),.lit (.int .i64 r.2.2.2.2.2.2.2.2.2.2.2.2.2.1),.lit (.int .i64 r.2.2.2.2.2.2.2.2.2.2.2.2.2.2.1),.lit (.int .i64 r.2.2.2.2.2.2.2.2.2.2.2.2.2.2.2.1),.lit (.string r.2.2.2.2.2.2.2.2.2.2.2.2.2.2.2.2.1)]) false,.arr 23 r.2.2.2.2.2.2.2.2.2.2.2.2.2.2.2.2.2 false]
def zre:LL ty ttTannotationcopiedAtom0:=za (ze9 200 0) (za (ze9 201 0) (za (lInt .i64) (za (lInt .i64) zH)))
def zrg:BL ty ttTannotationcopiedAtom1:=bBox (za (lInt .i64) (za (lInt .i64) (za (lInt .i64) (za (lOwn 202) (za (lInt .i64) (za (lSl 52) (za (lInt .i64) (za (lInt .i64) (za (lInt .i64) (za lStr zH)))))))))) false (bBox (za (lInt .i64) (za (lInt .i64) (za (lInt .i64) (za lNil (za (lInt .i64) (za lNil (za (lInt .i64) (za (lInt .i64) (za (lInt .i64) (za lStr zH)))))))))) false (bArr 23 false (bNil)))
def zfl (zO:List Term→Bool×List Term) (t32:Int) (t33:Int) (x_0:Int) (x_1:Int) (x_2:Int) (x_3:Int) (x_4:Int) (x_5:Int) (x_6:Int) (x_7:ByteArray) (t2_0:Int) (t2_1:Int) (t2_2:Int) (t2_3:Int) (t2_4:Int) (t2_5:Int) (t2_6:Int) (t2_7:ByteArray) (b2:List (List Term)) (b3:List Weighted):Wy ttTannotationcopiedAtom0 ttTannotationcopiedAtom3 ttTannotationcopiedAtom4:=.i (decide (t33<t32)) (.i (decide (0≤t33)&&decide (t33<Int.ofNat b3.length)) (.bn (zO (b3.getD t33.toNat default).Ann) fun r2=>.i (decide (0≤t33)&&decide (t33<Int.ofNat b3.length)) (.i (decide (t33.toNat<b3.length)) (.h ((),(),t32,(IntKind.i64.wrap (t33+1)),()) ((x_0,x_1,x_2,(),x_3,(),x_4,x_5,x_6,x_7,()),(t2_0,t2_1,t2_2,(),t2_3,(),t2_4,t2_5,t2_6,t2_7,()),b2,(b3.set t33.toNat (WeightedOf.mk (b3.getD t33.toNat default).Value r2)),())) .d) .d) .d) (.k (x_0,x_1,x_2,x_3,x_4,x_5,x_6,x_7,t2_0,t2_1,t2_2,t2_3,t2_4,t2_5,t2_6,t2_7,b2,b3))
def ziv (zO:List Term→Bool×List Term) (x:ttTannotationcopiedAtom0) (y:ttTannotationcopiedAtom3):Wy ttTannotationcopiedAtom0 ttTannotationcopiedAtom3 ttTannotationcopiedAtom4:=zfl zO x.2.2.1 x.2.2.2.1 y.1.1 y.1.2.1 y.1.2.2.1 y.1.2.2.2.2.1 y.1.2.2.2.2.2.2.1 y.1.2.2.2.2.2.2.2.1 y.1.2.2.2.2.2.2.2.2.1 y.1.2.2.2.2.2.2.2.2.2.1 y.2.1.1 y.2.1.2.1 y.2.1.2.2.1 y.2.1.2.2.2.2.1 y.2.1.2.2.2.2.2.2.1 y.2.1.2.2.2.2.2.2.2.1 y.2.1.2.2.2.2.2.2.2.2.1 y.2.1.2.2.2.2.2.2.2.2.2.1 y.2.2.1 y.2.2.2.1
def zrd (zO:List Term→Bool×List Term) (n:Nat) (t32:Int) (t33:Int) (x_0:Int) (x_1:Int) (x_2:Int) (x_3:Int) (x_4:Int) (x_5:Int) (x_6:Int) (x_7:ByteArray) (t2_0:Int) (t2_1:Int) (t2_2:Int) (t2_3:Int) (t2_4:Int) (t2_5:Int) (t2_6:Int) (t2_7:ByteArray) (b2:List (List Term)) (b3:List Weighted):Bool×ttTannotationcopiedAtom4:=zX (ziv zO) default n ((),(),t32,t33,()) ((x_0,x_1,x_2,(),x_3,(),x_4,x_5,x_6,x_7,()),(t2_0,t2_1,t2_2,(),t2_3,(),t2_4,t2_5,t2_6,t2_7,()),b2,b3,())
def zpT (r:ttTannotationcopiedAtom4):LTree ty:=.done (.exit 2) [.ptr 200 0,.ptr 201 0] [.box ([.lit (.int .i64 r.1),.lit (.int .i64 r.2.1),.lit (.int .i64 r.2.2.1),.own 202,.lit (.int .i64 r.2.2.2.1),.own 203,.lit (.int .i64 r.2.2.2.2.1),.lit (.int .i64 r.2.2.2.2.2.1),.lit (.int .i64 r.2.2.2.2.2.2.1),.lit (.string r.2.2.2.2.2.2.2.1)]) false,.box ([.lit (.int .i64 r.2.2.2.2.2.2.2.2.1),.lit (.int .i64 r.2.2.2.2.2.2.2.2.2.1),.lit (.int .i64 r.2.2.2.2.2.2.2.2.2.2.1),.lit (.slice none 0 0),.lit (.int .i64 r.2.2.2.2.2.2.2.2.2.2.2.1),.lit (.slice none 0 0),.lit (.int .i64 r.2.2.2.2.2.2.2.2.2.2.2.2.1),.lit (.int .i64 r.2.2.2.2.2.2.2.2.2.2.2.2.2.1),.lit (.int .i64 r.2.2.2.2.2.2.2.2.2.2.2.2.2.2.1),.lit (.string r.2.2.2.2.2.2.2.2.2.2.2.2.2.2.2.1)]) false,.arr 23 r.2.2.2.2.2.2.2.2.2.2.2.2.2.2.2.2.1 false,.arr 52 r.2.2.2.2.2.2.2.2.2.2.2.2.2.2.2.2.2 false]
def zqO:LL ty ttTannotationcopiedAtom0:=za (ze9 200 0) (za (ze9 201 0) (za (lInt .i64) (za (lInt .i64) zH)))
def zqZ:BL ty ttTannotationcopiedAtom3:=bBox (za (lInt .i64) (za (lInt .i64) (za (lInt .i64) (za (lOwn 202) (za (lInt .i64) (za (lOwn 203) (za (lInt .i64) (za (lInt .i64) (za (lInt .i64) (za lStr zH)))))))))) false (bBox (za (lInt .i64) (za (lInt .i64) (za (lInt .i64) (za lNil (za (lInt .i64) (za lNil (za (lInt .i64) (za (lInt .i64) (za (lInt .i64) (za lStr zH)))))))))) false (bArr 23 false (bArr 52 false (bNil))))
def zpU (x:ttTannotationcopiedAtom0) (y:ttTannotationcopiedAtom1):Nat:=(Int.toNat x.2.2.1+Int.toNat x.2.2.2.1+Int.toNat y.1.1+Int.toNat y.1.2.1+Int.toNat y.1.2.2.1+Int.toNat y.1.2.2.2.2.1+y.1.2.2.2.2.2.1.length+Int.toNat y.1.2.2.2.2.2.2.1+Int.toNat y.1.2.2.2.2.2.2.2.1+Int.toNat y.1.2.2.2.2.2.2.2.2.1+y.1.2.2.2.2.2.2.2.2.2.1.size+Int.toNat y.2.1.1+Int.toNat y.2.1.2.1+Int.toNat y.2.1.2.2.1+Int.toNat y.2.1.2.2.2.2.1+Int.toNat y.2.1.2.2.2.2.2.2.1+Int.toNat y.2.1.2.2.2.2.2.2.2.1+Int.toNat y.2.1.2.2.2.2.2.2.2.2.1+y.2.1.2.2.2.2.2.2.2.2.2.1.size+y.2.2.1.length+1)
def zp0 (x:ttTannotationcopiedAtom0) (y:ttTannotationcopiedAtom3):Nat:=(Int.toNat x.2.2.1+Int.toNat x.2.2.2.1+Int.toNat y.1.1+Int.toNat y.1.2.1+Int.toNat y.1.2.2.1+Int.toNat y.1.2.2.2.2.1+Int.toNat y.1.2.2.2.2.2.2.1+Int.toNat y.1.2.2.2.2.2.2.2.1+Int.toNat y.1.2.2.2.2.2.2.2.2.1+y.1.2.2.2.2.2.2.2.2.2.1.size+Int.toNat y.2.1.1+Int.toNat y.2.1.2.1+Int.toNat y.2.1.2.2.1+Int.toNat y.2.1.2.2.2.2.1+Int.toNat y.2.1.2.2.2.2.2.2.1+Int.toNat y.2.1.2.2.2.2.2.2.2.1+Int.toNat y.2.1.2.2.2.2.2.2.2.2.1+y.2.1.2.2.2.2.2.2.2.2.2.1.size+y.2.2.1.length+y.2.2.2.1.length+1)
def zlR (zO:List Term→Bool×List Term):Cx ty:=mkCx base 50 [(61,(zko zO)),(159,zg4),(160,zin)] [] [(3,[(1,.keep),(2,.keep),(11,.keep),(12,.keep)]),(9,[(1,.keep),(2,.keep),(32,.keep),(33,.keep)])] [(3,1,[(1,.keep),(2,.keep)]),(9,3,[(1,.keep),(2,.keep)])] [(3,spW zre zrg (zir zO) default zqe zpU),(9,spW zqO zqZ (ziv zO) default zpT zp0)] []
theorem zBe (zO:List Term→Bool×List Term):zW (zlR zO) (lp (body Tryz.f118) 0):=zK (id:=3) (V:=zre) (B:=zrg) (W:=zir zO) (z:=default) (tr:=zqe) (m:=zpU)
theorem zBj (zO:List Term→Bool×List Term):zW (zlR zO) (lp (body Tryz.f118) 1):=zK (id:=9) (V:=zqO) (B:=zqZ) (W:=ziv zO) (z:=default) (tr:=zpT) (m:=zp0)
def zmp (zO:List Term→Bool×List Term) (x_:Atom):Wy0 (Atom):=.bn (zdb x_.Args) fun r7=>.bn (zq5 zO ((Int.ofNat r7.length).toNat +Int.toNat 0+x_.Kind.toNat +x_.Row.Table.toNat +x_.Row.Seq.toNat +x_.Func.toNat +x_.Items.length+x_.Op.toNat +x_.Bound.Kind.toNat +x_.Bound.Int.toNat +x_.Bound.Text.size+Int.toNat 0+Int.toNat 0+Int.toNat 0+Int.toNat 0+Int.toNat 0+Int.toNat 0+Int.toNat 0+(ByteArray.mk #[]).size+r7.length+1) (Int.ofNat r7.length) 0 x_.Kind x_.Row.Table x_.Row.Seq x_.Func x_.Items x_.Op x_.Bound.Kind x_.Bound.Int x_.Bound.Text 0 0 0 0 0 0 0 (ByteArray.mk #[]) r7) fun r6=>.bn (zdU r6.2.2.2.2.1) fun r5=>.bn (zrd zO ((Int.ofNat r5.length).toNat +Int.toNat 0+r6.1.toNat +r6.2.1.toNat +r6.2.2.1.toNat +r6.2.2.2.1.toNat +r6.2.2.2.2.2.1.toNat +r6.2.2.2.2.2.2.1.toNat +r6.2.2.2.2.2.2.2.1.toNat +r6.2.2.2.2.2.2.2.2.1.size+r6.2.2.2.2.2.2.2.2.2.1.toNat +r6.2.2.2.2.2.2.2.2.2.2.1.toNat +r6.2.2.2.2.2.2.2.2.2.2.2.1.toNat +r6.2.2.2.2.2.2.2.2.2.2.2.2.1.toNat +r6.2.2.2.2.2.2.2.2.2.2.2.2.2.1.toNat +r6.2.2.2.2.2.2.2.2.2.2.2.2.2.2.1.toNat +r6.2.2.2.2.2.2.2.2.2.2.2.2.2.2.2.1.toNat +r6.2.2.2.2.2.2.2.2.2.2.2.2.2.2.2.2.1.size+r6.2.2.2.2.2.2.2.2.2.2.2.2.2.2.2.2.2.length+r5.length+1) (Int.ofNat r5.length) 0 r6.1 r6.2.1 r6.2.2.1 r6.2.2.2.1 r6.2.2.2.2.2.1 r6.2.2.2.2.2.2.1 r6.2.2.2.2.2.2.2.1 r6.2.2.2.2.2.2.2.2.1 r6.2.2.2.2.2.2.2.2.2.1 r6.2.2.2.2.2.2.2.2.2.2.1 r6.2.2.2.2.2.2.2.2.2.2.2.1 r6.2.2.2.2.2.2.2.2.2.2.2.2.1 r6.2.2.2.2.2.2.2.2.2.2.2.2.2.1 r6.2.2.2.2.2.2.2.2.2.2.2.2.2.2.1 r6.2.2.2.2.2.2.2.2.2.2.2.2.2.2.2.1 r6.2.2.2.2.2.2.2.2.2.2.2.2.2.2.2.2.1 r6.2.2.2.2.2.2.2.2.2.2.2.2.2.2.2.2.2 r5) fun r4=>.k (⟨r4.1,(⟨r4.2.1,r4.2.2.1⟩:RowID),r4.2.2.2.2.2.2.2.2.2.2.2.2.2.2.2.2.1,r4.2.2.2.1,r4.2.2.2.2.2.2.2.2.2.2.2.2.2.2.2.2.2,r4.2.2.2.2.1,(⟨r4.2.2.2.2.2.1,r4.2.2.2.2.2.2.1,r4.2.2.2.2.2.2.2.1⟩:Value)⟩:Atom)
def zhH (zO:List Term→Bool×List Term) (x_:Atom):Bool×Atom:=(zmp zO x_).fin default
theorem zyh (zO:List Term→Bool×List Term) (zHB:Sound Tryz.prog base 61 (zko zO)):Sound Tryz.prog base 118 (zj7 (zhH zO)):=
 zn (cx':=(zlR zO)) zJ zl zw (zm ⟨zHB,zmR,zos,trivial⟩) Tryz.call118 Tryz.func118 (c:=body Tryz.f118) (by kernel_rfl) (zh (l:=[lp (body Tryz.f118) 0,lp (body Tryz.f118) 1]) (by kernel_rfl) ⟨zBe zO,zBj zO,trivial⟩) (sg:=⟨[.pure],[]⟩) (A:=zt2) (res:=zr7) (W:=fun x=>zmp zO x.1) (z:=default)
def zDk:Nat→(List Term→Bool×List Term)×(Atom→Bool×Atom)
 | 0=>(fun _=>(false,default),fun _=>(false,default))
 | n+1=>(zkm ((zDk n).2),zhH ((zDk n).1))
def zki (n:Nat):List Term→Bool×List Term:=(zDk n).1
def zj8 (n:Nat):Atom→Bool×Atom:=(zDk n).2
theorem zG3 (n:Nat):zki (n+1)=zkm (zj8 n):=rfl
theorem zB9 (n:Nat):zj8 (n+1)=zhH (zki n):=rfl
theorem zLn:∀ n,Sound Tryz.prog base 61 (zko (zki n))∧Sound Tryz.prog base 118 (zj7 (zj8 n))
 | 0=>⟨zbj Tryz.call61 (fun _=>rfl),zbj Tryz.call118 (fun _=>rfl)⟩
 | n+1=>by
  have ih:=zLn n
  exact ⟨zC4 _ (ih.2),zyh _ (ih.1)⟩
def zfG:List Term→Bool×List Term:=zki 1000
def annotation_copied_spec:Ab.Spec ty:=zko zfG
theorem zhK:Sound Tryz.prog base 61 annotation_copied_spec:=(zLn 1000).1
def zIp:Cx ty:=mkCx base 9 [(61,annotation_copied_spec),(70,zoK)] [] [] [] [] []
def zqG (a:List Term):Wy0 (List Term×Int):=.bn (zjN a) fun r1=>.i (!r1) (.k ([],6)) (.bn (zfG a) fun r0=>.k (r0,0))
def zdH (a:List Term):Bool×(List Term×Int):=(zqG a).fin default
def zuP (r:List Term×Int):ARes ty:=⟨[.own 42 r.1,.pure (.lit (.int .i64 r.2))],[]⟩
def zxP:AL base (List Term×Unit):=zf (zg (vSl 42)) aNil
def zed:Ab.Spec ty:=zk zxP fun x=>((zdH x.1).1,zuP (zdH x.1).2)
theorem zeG:Sound Tryz.prog base 53 zed:=
 zn (cx':=zIp) zJ zl zw (zm ⟨zhK,zue,trivial⟩) Tryz.call53 Tryz.func53 (c:=body Tryz.f53) (by kernel_rfl) (zh (l:=[]) (by kernel_rfl) trivial) (sg:=⟨[.own 42,.pure],[]⟩) (A:=zxP) (res:=zuP) (W:=fun x=>zqG x.1) (z:=default)
def zrF:Cx ty:=mkCx base 27 [] [] [] [] [] []
def zgd (n_:Int):Wy0 (List Term):=.i (decide (n_<0)) .d (.i (decide (IntKind.i64.wrap (n_ - IntKind.i64.wrap (0 - 0))>0)) (.i (decide (0<IntKind.i64.wrap (n_ - IntKind.i64.wrap (0 - 0)))&&(decide (IntKind.i64.wrap (n_ - IntKind.i64.wrap (0 - 0))*Int.ofNat 32≤Int.ofNat zQ)&&(decide (IntKind.i64.wrap (n_ - IntKind.i64.wrap (0 - 0))≤Int.ofNat zQ)&& !Nat.beq 2 0))) (.k (List.take (Int.toNat 0 - Int.toNat 0) (List.replicate (IntKind.i64.wrap (n_ - IntKind.i64.wrap (0 - 0))).toNat (TermOf.mk 0 [])))) .d) (.k []))
def zdl (n_:Int):Bool×List Term:=(zgd n_).fin default
def zjX (r:List Term):ARes ty:=⟨[.own 42 r],[]⟩
def zkD:AL base (Unit×Int×Unit):=zf (zg zXz) (zf (zg (vInt .i64)) aNil)
def zjB:Ab.Spec ty:=zk zkD fun x=>((zdl x.2.1).1,zjX (zdl x.2.1).2)
theorem zpO:Sound Tryz.prog base 112 zjB:=
 zn (cx':=zrF) zJ zl zw (zm trivial) Tryz.call112 Tryz.func112 (c:=body Tryz.f112) (by kernel_rfl) (zh (l:=[]) (by kernel_rfl) trivial) (sg:=⟨[.own 42],[]⟩) (A:=zkD) (res:=zjX) (W:=fun x=>zgd x.2.1) (z:=default)
abbrev ttTslicesConcatapiAnnotationapiTerm0:=List (List Term)×Int×List (List Term)×Int×Int×Unit
abbrev ttTslicesConcatapiAnnotationapiTerm1:=List (List Term)×Int
abbrev ttTslicesConcatapiAnnotationapiTerm2:=Unit×List (List Term)×Int×Int×Unit
abbrev ttTslicesConcatapiAnnotationapiTerm3:=List Term×Unit
def zcA (slices:List (List Term)) (size:Int) (t9:List (List Term)) (t10:Int) (t11:Int):Wy ttTslicesConcatapiAnnotationapiTerm0 (Unit) ttTslicesConcatapiAnnotationapiTerm1:=.i (decide (t11<t10)) (.i (decide (0≤t11)&&decide (t11<Int.ofNat t9.length)) (.i (decide (IntKind.i64.wrap (size+Int.ofNat (List.length (t9.getD t11.toNat default)))<0)) .d (.h (slices,(IntKind.i64.wrap (size+Int.ofNat (List.length (t9.getD t11.toNat default)))),t9,t10,(IntKind.i64.wrap (t11+1)),()) ())) .d) (.k (slices,size))
def zdG (x:ttTslicesConcatapiAnnotationapiTerm0) (y:Unit):Wy ttTslicesConcatapiAnnotationapiTerm0 (Unit) ttTslicesConcatapiAnnotationapiTerm1:=zcA x.1 x.2.1 x.2.2.1 x.2.2.2.1 x.2.2.2.2.1
def zjb (n:Nat) (slices:List (List Term)) (size:Int) (t9:List (List Term)) (t10:Int) (t11:Int):Bool×ttTslicesConcatapiAnnotationapiTerm1:=zX (zdG) default n (slices,size,t9,t10,t11,()) ()
def zi0 (r:ttTslicesConcatapiAnnotationapiTerm1):LTree ty:=.done (.exit 0) [.sl 23 r.1,.lit (.int .i64 r.2)] []
def zjw:LL ty ttTslicesConcatapiAnnotationapiTerm0:=za (lSl 23) (za (lInt .i64) (za (lSl 23) (za (lInt .i64) (za (lInt .i64) zH))))
def zjJ:BL ty (Unit):=bNil
def zcu (t25:List (List Term)) (t26:Int) (t27:Int) (newslice:List Term):Wy ttTslicesConcatapiAnnotationapiTerm2 ttTslicesConcatapiAnnotationapiTerm3 (List Term):=.i (decide (t27<t26)) (.i (decide (0≤t27)&&decide (t27<Int.ofNat t25.length)) (.i (decide ((newslice.length+List.length (t25.getD t27.toNat default))*32≤zQ)) (.h ((),t25,t26,(IntKind.i64.wrap (t27+1)),()) ((newslice++t25.getD t27.toNat default),())) .d) .d) (.k newslice)
def zdw (x:ttTslicesConcatapiAnnotationapiTerm2) (y:ttTslicesConcatapiAnnotationapiTerm3):Wy ttTslicesConcatapiAnnotationapiTerm2 ttTslicesConcatapiAnnotationapiTerm3 (List Term):=zcu x.2.1 x.2.2.1 x.2.2.2.1 y.1
def ziZ (n:Nat) (t25:List (List Term)) (t26:Int) (t27:Int) (newslice:List Term):Bool×List Term:=zX (zdw) default n ((),t25,t26,t27,()) (newslice,())
def ziF (r:List Term):LTree ty:=.done (.exit 2) [.own 144] [.arr 42 r false]
def zi7:LL ty ttTslicesConcatapiAnnotationapiTerm2:=za (lOwn 144) (za (lSl 23) (za (lInt .i64) (za (lInt .i64) zH)))
def zi3:BL ty ttTslicesConcatapiAnnotationapiTerm3:=bArr 42 false (bNil)
def zi4 (x:ttTslicesConcatapiAnnotationapiTerm0) (y:Unit):Nat:=(x.1.length+Int.toNat x.2.1+x.2.2.1.length+Int.toNat x.2.2.2.1+Int.toNat x.2.2.2.2.1+1)
def ziK (x:ttTslicesConcatapiAnnotationapiTerm2) (y:ttTslicesConcatapiAnnotationapiTerm3):Nat:=(x.2.1.length+Int.toNat x.2.2.1+Int.toNat x.2.2.2.1+y.1.length+1)
def ze7:Cx ty:=mkCx base 36 [(112,zjB)] [] [(3,[(0,.keep),(3,.keep),(9,.keep),(10,.keep),(11,.keep)]),(11,[(6,.keep),(25,.keep),(26,.keep),(27,.keep)])] [(3,1,[(0,.keep),(3,.keep)]),(11,3,[(6,.keep)])] [(3,spW zjw zjJ (zdG) default zi0 zi4),(11,spW zi7 zi3 (zdw) default ziF ziK)] [112]
theorem zpS:zW ze7 (lp (body Tryz.f55) 0):=zK (id:=3) (V:=zjw) (B:=zjJ) (W:=zdG) (z:=default) (tr:=zi0) (m:=zi4)
theorem zpo:zW ze7 (lp (body Tryz.f55) 1):=zK (id:=11) (V:=zi7) (B:=zi3) (W:=zdw) (z:=default) (tr:=ziF) (m:=ziK)
def zfo (slices:List (List Term)):Wy0 (List Term):=.bn (zjb (slices.length+Int.toNat 0+slices.length+(Int.ofNat slices.length).toNat +Int.toNat 0+1) slices 0 slices (Int.ofNat slices.length) 0) fun r2=>.bn (zdl r2.2) fun r1=>.bn (ziZ (r2.1.length+(Int.ofNat r2.1.length).toNat +Int.toNat 0+r1.length+1) r2.1 (Int.ofNat r2.1.length) 0 r1) fun r0=>.k r0
def zc1 (slices:List (List Term)):Bool×List Term:=(zfo slices).fin default
def zi5 (r:List Term):ARes ty:=⟨[.own 42 r],[]⟩
def zjU:AL base (List (List Term)×Unit):=zf (zg (vSl 23)) aNil
def ziB:Ab.Spec ty:=zk zjU fun x=>((zc1 x.1).1,zi5 (zc1 x.1).2)
theorem zoV:Sound Tryz.prog base 55 ziB:=
 zn (cx':=ze7) zJ zl zw (zm ⟨zpO,trivial⟩) Tryz.call55 Tryz.func55 (c:=body Tryz.f55) (by kernel_rfl) (zh (l:=[lp (body Tryz.f55) 0,lp (body Tryz.f55) 1]) (by kernel_rfl) ⟨zpS,zpo,trivial⟩) (sg:=⟨[.own 42],[]⟩) (A:=zjU) (res:=zi5) (W:=fun x=>zfo x.1) (z:=default)
def zNb:Cx ty:=mkCx base0 22 [(31,annotation_Valid_spec),(53,zed),(54,znQ),(55,ziB)] [] [] [] [] []
def zvS (a:List Term) (b:List Term):Wy0 (List Term×Int):=.bn (zci a) fun r4=>.i (!r4) (.k ([],1)) (.bn (zci b) fun r3=>.i (!r3) (.k ([],1)) (.bn (zc1 [a,b]) fun r2=>.bn (zgO r2) fun r1=>.bn (zdH r1) fun r0=>.k (r0.1,r0.2)))
def zpr (a:List Term) (b:List Term):Bool×(List Term×Int):=(zvS a b).fin default
def zAq (r:List Term×Int):ARes ty:=⟨[.own 42 r.1,.pure (.lit (.int .i64 r.2))],[]⟩
def zDN:AL base0 (List Term×List Term×Unit):=zf (zg (vSl 42)) (zf (zg (vSl 42)) aNil)
def zrz:Ab.Spec ty:=zk zDN fun x=>((zpr x.1 x.2.1).1,zAq (zpr x.1 x.2.1).2)
theorem zxu:Sound Tryz.prog base0 13 zrz:=
 zn (cx':=zNb) zJ ziw zw (zm ⟨zc4.nodr,zeG.nodr,zsI,zoV.nodr,trivial⟩) Tryz.call13 Tryz.func13 (c:=body Tryz.f13) (by kernel_rfl) (zh (l:=[]) (by kernel_rfl) trivial) (sg:=⟨[.own 42,.pure],[]⟩) (A:=zDN) (res:=zAq) (W:=fun x=>zvS x.1 x.2.1) (z:=default)
def zKA:Cx ty:=mkCx base 9 [] [] [] [] [] []
def zsP (n_:Int):Wy0 (List Term):=.i (decide (n_<1)) (.k []) (.k [TermOf.mk (if 1152921504606846976<n_ then 1152921504606846976 else n_) []])
def znn (n_:Int):Bool×List Term:=(zsP n_).fin default
def zwS (r:List Term):ARes ty:=⟨[.own 42 r],[]⟩
def zAW:AL base (Int×Unit):=zf (zg (vInt .i64)) aNil
def zpJ:Ab.Spec ty:=zk zAW fun x=>((znn x.1).1,zwS (znn x.1).2)
theorem zuV:Sound Tryz.prog base 25 zpJ:=
 zn (cx':=zKA) zJ zl zw (zm trivial) Tryz.call25 Tryz.func25 (c:=body Tryz.f25) (by kernel_rfl) (zh (l:=[]) (by kernel_rfl) trivial) (sg:=⟨[.own 42],[]⟩) (A:=zAW) (res:=zwS) (W:=fun x=>zsP x.1) (z:=default)
def zsh:Cx ty:=mkCx base 27 [] [] [] [] [] []
def zgI (n_:Int):Wy0 (List Factor):=.i (decide (n_<0)) .d (.i (decide (IntKind.i64.wrap (n_ - IntKind.i64.wrap (0 - 0))>0)) (.i (decide (0<IntKind.i64.wrap (n_ - IntKind.i64.wrap (0 - 0)))&&(decide (IntKind.i64.wrap (n_ - IntKind.i64.wrap (0 - 0))*Int.ofNat 128≤Int.ofNat zQ)&&(decide (IntKind.i64.wrap (n_ - IntKind.i64.wrap (0 - 0))≤Int.ofNat zQ)&& !Nat.beq 11 0))) (.k (List.take (Int.toNat 0 - Int.toNat 0) (List.replicate (IntKind.i64.wrap (n_ - IntKind.i64.wrap (0 - 0))).toNat (FactorOf.mk (Atom.mk 0 (RowID.mk 0 0) [] 0 [] 0 (Value.mk 0 0 (ByteArray.mk #[]))) 0)))) .d) (.k []))
def zdz (n_:Int):Bool×List Factor:=(zgI n_).fin default
def zkf (r:List Factor):ARes ty:=⟨[.own 50 r],[]⟩
def zk5:AL base (Unit×Int×Unit):=zf (zg zXz) (zf (zg (vInt .i64)) aNil)
def zjR:Ab.Spec ty:=zk zk5 fun x=>((zdz x.2.1).1,zkf (zdz x.2.1).2)
theorem zqt:Sound Tryz.prog base 158 zjR:=
 zn (cx':=zsh) zJ zl zw (zm trivial) Tryz.call158 Tryz.func158 (c:=body Tryz.f158) (by kernel_rfl) (zh (l:=[]) (by kernel_rfl) trivial) (sg:=⟨[.own 50],[]⟩) (A:=zk5) (res:=zkf) (W:=fun x=>zgI x.2.1) (z:=default)
abbrev ttTslicesConcatLapiFactorapiFactor0:=List (List Factor)×Int×List (List Factor)×Int×Int×Unit
abbrev ttTslicesConcatLapiFactorapiFactor1:=List (List Factor)×Int
abbrev ttTslicesConcatLapiFactorapiFactor2:=Unit×List (List Factor)×Int×Int×Unit
abbrev ttTslicesConcatLapiFactorapiFactor3:=List Factor×Unit
def zcG (slices:List (List Factor)) (size:Int) (t9:List (List Factor)) (t10:Int) (t11:Int):Wy ttTslicesConcatLapiFactorapiFactor0 (Unit) ttTslicesConcatLapiFactorapiFactor1:=.i (decide (t11<t10)) (.i (decide (0≤t11)&&decide (t11<Int.ofNat t9.length)) (.i (decide (IntKind.i64.wrap (size+Int.ofNat (List.length (t9.getD t11.toNat default)))<0)) .d (.h (slices,(IntKind.i64.wrap (size+Int.ofNat (List.length (t9.getD t11.toNat default)))),t9,t10,(IntKind.i64.wrap (t11+1)),()) ())) .d) (.k (slices,size))
def zdS (x:ttTslicesConcatLapiFactorapiFactor0) (y:Unit):Wy ttTslicesConcatLapiFactorapiFactor0 (Unit) ttTslicesConcatLapiFactorapiFactor1:=zcG x.1 x.2.1 x.2.2.1 x.2.2.2.1 x.2.2.2.2.1
def zjV (n:Nat) (slices:List (List Factor)) (size:Int) (t9:List (List Factor)) (t10:Int) (t11:Int):Bool×ttTslicesConcatLapiFactorapiFactor1:=zX (zdS) default n (slices,size,t9,t10,t11,()) ()
def zji (r:ttTslicesConcatLapiFactorapiFactor1):LTree ty:=.done (.exit 0) [.sl 40 r.1,.lit (.int .i64 r.2)] []
def zjS:LL ty ttTslicesConcatLapiFactorapiFactor0:=za (lSl 40) (za (lInt .i64) (za (lSl 40) (za (lInt .i64) (za (lInt .i64) zH))))
def zjT:BL ty (Unit):=bNil
def zcB (t25:List (List Factor)) (t26:Int) (t27:Int) (newslice:List Factor):Wy ttTslicesConcatLapiFactorapiFactor2 ttTslicesConcatLapiFactorapiFactor3 (List Factor):=.i (decide (t27<t26)) (.i (decide (0≤t27)&&decide (t27<Int.ofNat t25.length)) (.i (decide ((newslice.length+List.length (t25.getD t27.toNat default))*128≤zQ)) (.h ((),t25,t26,(IntKind.i64.wrap (t27+1)),()) ((newslice++t25.getD t27.toNat default),())) .d) .d) (.k newslice)
def zdD (x:ttTslicesConcatLapiFactorapiFactor2) (y:ttTslicesConcatLapiFactorapiFactor3):Wy ttTslicesConcatLapiFactorapiFactor2 ttTslicesConcatLapiFactorapiFactor3 (List Factor):=zcB x.2.1 x.2.2.1 x.2.2.2.1 y.1
def zjA (n:Nat) (t25:List (List Factor)) (t26:Int) (t27:Int) (newslice:List Factor):Bool×List Factor:=zX (zdD) default n ((),t25,t26,t27,()) (newslice,())
def zi6 (r:List Factor):LTree ty:=.done (.exit 2) [.own 144] [.arr 50 r false]
def zjG:LL ty ttTslicesConcatLapiFactorapiFactor2:=za (lOwn 144) (za (lSl 40) (za (lInt .i64) (za (lInt .i64) zH)))
def zjh:BL ty ttTslicesConcatLapiFactorapiFactor3:=bArr 50 false (bNil)
def zjC (x:ttTslicesConcatLapiFactorapiFactor0) (y:Unit):Nat:=(x.1.length+Int.toNat x.2.1+x.2.2.1.length+Int.toNat x.2.2.2.1+Int.toNat x.2.2.2.2.1+1)
def zi2 (x:ttTslicesConcatLapiFactorapiFactor2) (y:ttTslicesConcatLapiFactorapiFactor3):Nat:=(x.2.1.length+Int.toNat x.2.2.1+Int.toNat x.2.2.2.1+y.1.length+1)
def zfd:Cx ty:=mkCx base 36 [(158,zjR)] [] [(3,[(0,.keep),(3,.keep),(9,.keep),(10,.keep),(11,.keep)]),(11,[(6,.keep),(25,.keep),(26,.keep),(27,.keep)])] [(3,1,[(0,.keep),(3,.keep)]),(11,3,[(6,.keep)])] [(3,spW zjS zjT (zdS) default zji zjC),(11,spW zjG zjh (zdD) default zi6 zi2)] [158]
theorem zqr:zW zfd (lp (body Tryz.f114) 0):=zK (id:=3) (V:=zjS) (B:=zjT) (W:=zdS) (z:=default) (tr:=zji) (m:=zjC)
theorem zpR:zW zfd (lp (body Tryz.f114) 1):=zK (id:=11) (V:=zjG) (B:=zjh) (W:=zdD) (z:=default) (tr:=zi6) (m:=zi2)
def zfN (slices:List (List Factor)):Wy0 (List Factor):=.bn (zjV (slices.length+Int.toNat 0+slices.length+(Int.ofNat slices.length).toNat +Int.toNat 0+1) slices 0 slices (Int.ofNat slices.length) 0) fun r2=>.bn (zdz r2.2) fun r1=>.bn (zjA (r2.1.length+(Int.ofNat r2.1.length).toNat +Int.toNat 0+r1.length+1) r2.1 (Int.ofNat r2.1.length) 0 r1) fun r0=>.k r0
def zc9 (slices:List (List Factor)):Bool×List Factor:=(zfN slices).fin default
def zjy (r:List Factor):ARes ty:=⟨[.own 50 r],[]⟩
def zkq:AL base (List (List Factor)×Unit):=zf (zg (vSl 40)) aNil
def zi1:Ab.Spec ty:=zk zkq fun x=>((zc9 x.1).1,zjy (zc9 x.1).2)
theorem zpB:Sound Tryz.prog base 114 zi1:=
 zn (cx':=zfd) zJ zl zw (zm ⟨zqt,trivial⟩) Tryz.call114 Tryz.func114 (c:=body Tryz.f114) (by kernel_rfl) (zh (l:=[lp (body Tryz.f114) 0,lp (body Tryz.f114) 1]) (by kernel_rfl) ⟨zqr,zpR,trivial⟩) (sg:=⟨[.own 50],[]⟩) (A:=zkq) (res:=zjy) (W:=fun x=>zfN x.1) (z:=default)
abbrev ttTannotationjoin0:=List Factor×List Factor×Unit×Unit
abbrev ttTannotationjoin1:=List Factor×Unit
abbrev ttTannotationjoin2:=List Factor×List Factor×List Factor
def zsY (a:List Factor) (b:List Factor) (out_:List Factor):Wy ttTannotationjoin0 ttTannotationjoin1 ttTannotationjoin2:=.i (decide (Int.ofNat a.length>0)) (.i (decide (Int.ofNat b.length>0)) (.i (decide ((0:Int)≤(0:Int))&&decide (0<Int.ofNat a.length)) (.i (decide ((0:Int)≤(0:Int))&&decide (0<Int.ofNat b.length)) (.bn (zhL (Atom.mk (a.getD (Int.toNat 0) default).Atom.Kind (a.getD (Int.toNat 0) default).Atom.Row (a.getD (Int.toNat 0) default).Atom.Args (a.getD (Int.toNat 0) default).Atom.Func (a.getD (Int.toNat 0) default).Atom.Items (a.getD (Int.toNat 0) default).Atom.Op (a.getD (Int.toNat 0) default).Atom.Bound) (Atom.mk (b.getD (Int.toNat 0) default).Atom.Kind (b.getD (Int.toNat 0) default).Atom.Row (b.getD (Int.toNat 0) default).Atom.Args (b.getD (Int.toNat 0) default).Atom.Func (b.getD (Int.toNat 0) default).Atom.Items (b.getD (Int.toNat 0) default).Atom.Op (b.getD (Int.toNat 0) default).Atom.Bound)) fun r1=>.i (decide (r1<0)) (.i (decide ((0:Int)≤(0:Int))&&decide (0<Int.ofNat a.length)) (.i (decide ((out_.length+[FactorOf.mk (Atom.mk (a.getD (Int.toNat 0) default).Atom.Kind (a.getD (Int.toNat 0) default).Atom.Row (a.getD (Int.toNat 0) default).Atom.Args (a.getD (Int.toNat 0) default).Atom.Func (a.getD (Int.toNat 0) default).Atom.Items (a.getD (Int.toNat 0) default).Atom.Op (a.getD (Int.toNat 0) default).Atom.Bound) (a.getD (Int.toNat 0) default).Exp].length)*128≤zQ)) (.i (decide ((0:Int)≤(1:Int))&&decide (1≤Int.ofNat a.length)&&decide (Int.ofNat a.length≤Int.ofNat a.length)) (.h ((List.take ((Int.ofNat a.length).toNat - Int.toNat 1) (List.drop (Int.toNat 1) a)),b,(),()) ((out_++[FactorOf.mk (Atom.mk (a.getD (Int.toNat 0) default).Atom.Kind (a.getD (Int.toNat 0) default).Atom.Row (a.getD (Int.toNat 0) default).Atom.Args (a.getD (Int.toNat 0) default).Atom.Func (a.getD (Int.toNat 0) default).Atom.Items (a.getD (Int.toNat 0) default).Atom.Op (a.getD (Int.toNat 0) default).Atom.Bound) (a.getD (Int.toNat 0) default).Exp]),())) .d) .d) .d) (.i (decide (r1>0)) (.i (decide ((0:Int)≤(0:Int))&&decide (0<Int.ofNat b.length)) (.i (decide ((out_.length+[FactorOf.mk (Atom.mk (b.getD (Int.toNat 0) default).Atom.Kind (b.getD (Int.toNat 0) default).Atom.Row (b.getD (Int.toNat 0) default).Atom.Args (b.getD (Int.toNat 0) default).Atom.Func (b.getD (Int.toNat 0) default).Atom.Items (b.getD (Int.toNat 0) default).Atom.Op (b.getD (Int.toNat 0) default).Atom.Bound) (b.getD (Int.toNat 0) default).Exp].length)*128≤zQ)) (.i (decide ((0:Int)≤(1:Int))&&decide (1≤Int.ofNat b.length)&&decide (Int.ofNat b.length≤Int.ofNat b.length)) (.h (a,(List.take ((Int.ofNat b.length).toNat - Int.toNat 1) (List.drop (Int.toNat 1) b)),(),()) ((out_++[FactorOf.mk (Atom.mk (b.getD (Int.toNat 0) default).Atom.Kind (b.getD (Int.toNat 0) default).Atom.Row (b.getD (Int.toNat 0) default).Atom.Args (b.getD (Int.toNat 0) default).Atom.Func (b.getD (Int.toNat 0) default).Atom.Items (b.getD (Int.toNat 0) default).Atom.Op (b.getD (Int.toNat 0) default).Atom.Bound) (b.getD (Int.toNat 0) default).Exp]),())) .d) .d) .d) (.i (decide ((0:Int)≤(0:Int))&&decide (0<Int.ofNat a.length)) (.bn (zez (Atom.mk (a.getD (Int.toNat 0) default).Atom.Kind (a.getD (Int.toNat 0) default).Atom.Row (a.getD (Int.toNat 0) default).Atom.Args (a.getD (Int.toNat 0) default).Atom.Func (a.getD (Int.toNat 0) default).Atom.Items (a.getD (Int.toNat 0) default).Atom.Op (a.getD (Int.toNat 0) default).Atom.Bound)) fun r0=>.i (!r0) (.i (decide ((0:Int)≤(0:Int))&&decide (0<Int.ofNat b.length)) (.i (decide ((out_.length+[FactorOf.mk (Atom.mk (a.getD (Int.toNat 0) default).Atom.Kind (a.getD (Int.toNat 0) default).Atom.Row (a.getD (Int.toNat 0) default).Atom.Args (a.getD (Int.toNat 0) default).Atom.Func (a.getD (Int.toNat 0) default).Atom.Items (a.getD (Int.toNat 0) default).Atom.Op (a.getD (Int.toNat 0) default).Atom.Bound) (IntKind.i64.wrap ((a.getD (Int.toNat 0) default).Exp+(b.getD (Int.toNat 0) default).Exp))].length)*128≤zQ)) (.i (decide ((0:Int)≤(1:Int))&&decide (1≤Int.ofNat a.length)&&decide (Int.ofNat a.length≤Int.ofNat a.length)) (.i (decide ((0:Int)≤(1:Int))&&decide (1≤Int.ofNat b.length)&&decide (Int.ofNat b.length≤Int.ofNat b.length)) (.h ((List.take ((Int.ofNat a.length).toNat - Int.toNat 1) (List.drop (Int.toNat 1) a)),(List.take ((Int.ofNat b.length).toNat - Int.toNat 1) (List.drop (Int.toNat 1) b)),(),()) ((out_++[FactorOf.mk (Atom.mk (a.getD (Int.toNat 0) default).Atom.Kind (a.getD (Int.toNat 0) default).Atom.Row (a.getD (Int.toNat 0) default).Atom.Args (a.getD (Int.toNat 0) default).Atom.Func (a.getD (Int.toNat 0) default).Atom.Items (a.getD (Int.toNat 0) default).Atom.Op (a.getD (Int.toNat 0) default).Atom.Bound) (IntKind.i64.wrap ((a.getD (Int.toNat 0) default).Exp+(b.getD (Int.toNat 0) default).Exp))]),())) .d) .d) .d) .d) (.i (decide ((out_.length+[FactorOf.mk (Atom.mk (a.getD (Int.toNat 0) default).Atom.Kind (a.getD (Int.toNat 0) default).Atom.Row (a.getD (Int.toNat 0) default).Atom.Args (a.getD (Int.toNat 0) default).Atom.Func (a.getD (Int.toNat 0) default).Atom.Items (a.getD (Int.toNat 0) default).Atom.Op (a.getD (Int.toNat 0) default).Atom.Bound) (a.getD (Int.toNat 0) default).Exp].length)*128≤zQ)) (.i (decide ((0:Int)≤(1:Int))&&decide (1≤Int.ofNat a.length)&&decide (Int.ofNat a.length≤Int.ofNat a.length)) (.i (decide ((0:Int)≤(1:Int))&&decide (1≤Int.ofNat b.length)&&decide (Int.ofNat b.length≤Int.ofNat b.length)) (.h ((List.take ((Int.ofNat a.length).toNat - Int.toNat 1) (List.drop (Int.toNat 1) a)),(List.take ((Int.ofNat b.length).toNat - Int.toNat 1) (List.drop (Int.toNat 1) b)),(),()) ((out_++[FactorOf.mk (Atom.mk (a.getD (Int.toNat 0) default).Atom.Kind (a.getD (Int.toNat 0) default).Atom.Row (a.getD (Int.toNat 0) default).Atom.Args (a.getD (Int.toNat 0) default).Atom.Func (a.getD (Int.toNat 0) default).Atom.Items (a.getD (Int.toNat 0) default).Atom.Op (a.getD (Int.toNat 0) default).Atom.Bound) (a.getD (Int.toNat 0) default).Exp]),())) .d) .d) .d)) .d))) .d) .d) (.k (a,b,out_))) (.k (a,b,out_))
def zst (x:ttTannotationjoin0) (y:ttTannotationjoin1):Wy ttTannotationjoin0 ttTannotationjoin1 ttTannotationjoin2:=zsY x.1 x.2.1 y.1
def zsk (n:Nat) (a:List Factor) (b:List Factor) (out_:List Factor):Bool×ttTannotationjoin2:=zX (zst) default n (a,b,(),()) (out_,())
def zyV (r:ttTannotationjoin2):LTree ty:=.done (.exit 0) [.sl 50 r.1,.sl 50 r.2.1,.own 300] [.arr 50 r.2.2 false]
def zBq:LL ty ttTannotationjoin0:=za (lSl 50) (za (lSl 50) (za (lOwn 300) zH))
def zAk:BL ty ttTannotationjoin1:=bArr 50 false (bNil)
def zyX (x:ttTannotationjoin0) (y:ttTannotationjoin1):Nat:=(x.1.length+x.2.1.length+y.1.length+1)
def zz7:Cx ty:=mkCx base 75 [(72,zio),(73,annotation_compareAtoms_spec),(114,zi1)] [] [(2,[(0,.keep),(1,.keep),(5,.own 50)])] [(2,1,[(0,.keep),(1,.keep),(5,.keep)])] [(2,spW zBq zAk (zst) default zyV zyX)] []
theorem zKH:zW zz7 (lp (body Tryz.f59) 0):=zK (id:=2) (V:=zBq) (B:=zAk) (W:=zst) (z:=default) (tr:=zyV) (m:=zyX)
def zuG (a:List Factor) (b:List Factor):Wy0 (List Factor):=.bn (zsk (a.length+b.length+0+1) a b []) fun r5=>.bn (zc9 [r5.2.2,r5.1,r5.2.1]) fun r4=>.k r4
def zlo (a:List Factor) (b:List Factor):Bool×List Factor:=(zuG a b).fin default
def zyv (r:List Factor):ARes ty:=⟨[.own 50 r],[]⟩
def zCE:AL base (List Factor×List Factor×Unit):=zf (zg (vSl 50)) (zf (zg (vSl 50)) aNil)
def zxQ:Ab.Spec ty:=zk zCE fun x=>((zlo x.1 x.2.1).1,zyv (zlo x.1 x.2.1).2)
theorem zH5:Sound Tryz.prog base 59 zxQ:=
 zn (cx':=zz7) zJ zl zw (zm ⟨zkW,zoQ,zpB,trivial⟩) Tryz.call59 Tryz.func59 (c:=body Tryz.f59) (by kernel_rfl) (zh (l:=[lp (body Tryz.f59) 0]) (by kernel_rfl) ⟨zKH,trivial⟩) (sg:=⟨[.own 50],[]⟩) (A:=zCE) (res:=zyv) (W:=fun x=>zuG x.1 x.2.1) (z:=default)
def zKD:Cx ty:=mkCx base 12 [] [] [] [] [] []
def zti (a:Int) (b:Int):Wy0 (Int):=.i (!decide (b=0)) (.i (decide (a>IntKind.i64.wrap (Int.tdiv 1152921504606846976 b))) (.k 1152921504606846976) (.k (IntKind.i64.wrap (a*b)))) .d
def zm8 (a:Int) (b:Int):Bool×Int:=(zti a b).fin default
def zxl (r:Int):ARes ty:=⟨[.pure (.lit (.int .i64 r))],[]⟩
def zAA:AL base (Int×Int×Unit):=zf (zg (vInt .i64)) (zf (zg (vInt .i64)) aNil)
def zwr:Ab.Spec ty:=zk zAA fun x=>((zm8 x.1 x.2.1).1,zxl (zm8 x.1 x.2.1).2)
theorem zGY:Sound Tryz.prog base 58 zwr:=
 zn (cx':=zKD) zJ zl zw (zm trivial) Tryz.call58 Tryz.func58 (c:=body Tryz.f58) (by kernel_rfl) (zh (l:=[]) (by kernel_rfl) trivial) (sg:=⟨[.pure],[]⟩) (A:=zAA) (res:=zxl) (W:=fun x=>zti x.1 x.2.1) (z:=default)
abbrev ttTannotationMul0:=List Term×Unit×Unit×List Term×Int×Int×List Term×Int×Int×Unit
abbrev ttTannotationMul1:=List Term×Term×Unit
abbrev ttTannotationMul2:=List Term×List Term×Int×Int×List Term
abbrev ttTannotationMul3:=List Term×Unit×List Term×Int×Int×Unit
abbrev ttTannotationMul4:=List Term×Unit
def zl8 (b:List Term) (t19:List Term) (t20:Int) (t21:Int) (t25:List Term) (t26:Int) (t27:Int) (terms:List Term) (x_:Term):Wy ttTannotationMul0 ttTannotationMul1 ttTannotationMul2:=.i (decide (t27<t26)) (.i (decide (0≤t27)&&decide (t27<Int.ofNat t25.length)) (.bn (zm8 x_.Coeff (t25.getD t27.toNat default).Coeff) fun r5=>.bn (zlo x_.Factors (t25.getD t27.toNat default).Factors) fun r4=>.i (decide ((terms.length+[TermOf.mk r5 r4].length)*32≤zQ)) (.h (b,(),(),t19,t20,t21,t25,t26,(IntKind.i64.wrap (t27+1)),()) ((terms++[TermOf.mk r5 r4]),x_,())) .d) .d) (.k (b,t19,t20,t21,terms))
def zo3 (x:ttTannotationMul0) (y:ttTannotationMul1):Wy ttTannotationMul0 ttTannotationMul1 ttTannotationMul2:=zl8 x.1 x.2.2.2.1 x.2.2.2.2.1 x.2.2.2.2.2.1 x.2.2.2.2.2.2.1 x.2.2.2.2.2.2.2.1 x.2.2.2.2.2.2.2.2.1 y.1 y.2.1
def zC3 (n:Nat) (b:List Term) (t19:List Term) (t20:Int) (t21:Int) (t25:List Term) (t26:Int) (t27:Int) (terms:List Term) (x_:Term):Bool×ttTannotationMul2:=zX (zo3) default n (b,(),(),t19,t20,t21,t25,t26,t27,()) (terms,x_,())
def zBb (r:ttTannotationMul2):LTree ty:=.done (.exit 2) [.sl 42 r.1,.own 208,.sl 42 r.2.1,.lit (.int .i64 r.2.2.1),.lit (.int .i64 r.2.2.2.1)] [.arr 42 r.2.2.2.2 false]
def zCn:LL ty ttTannotationMul0:=za (lSl 42) (za (lOwn 208) (za (ze9 209 0) (za (lSl 42) (za (lInt .i64) (za (lInt .i64) (za (lSl 42) (za (lInt .i64) (za (lInt .i64) zH))))))))
def zCr:BL ty ttTannotationMul1:=bArr 42 false (bBox (zgz (fun x=>(⟨x.1,x.2.1⟩:Term)) (fun x=>(x.Coeff,x.Factors,())) (fun _=>rfl) (za (lInt .i64) (za (lSl 50) zH))) false (bNil))
def zl7 (b:List Term) (t19:List Term) (t20:Int) (t21:Int) (terms:List Term):Wy ttTannotationMul3 ttTannotationMul4 (List Term):=.i (decide (t21<t20)) (.i (decide (0≤t21)&&decide (t21<Int.ofNat t19.length)) (.bn (zC3 (b.length+t19.length+t20.toNat +t21.toNat +b.length+(Int.ofNat b.length).toNat +Int.toNat 0+terms.length+(t19.getD t21.toNat default).Factors.length+1) b t19 t20 t21 b (Int.ofNat b.length) 0 terms (t19.getD t21.toNat default)) fun r8=>.h ((r8.1),(),(r8.2.1),(r8.2.2.1),(IntKind.i64.wrap (r8.2.2.2.1+1)),()) ((r8.2.2.2.2),())) .d) (.k terms)
def zo6 (x:ttTannotationMul3) (y:ttTannotationMul4):Wy ttTannotationMul3 ttTannotationMul4 (List Term):=zl7 x.1 x.2.2.1 x.2.2.2.1 x.2.2.2.2.1 y.1
def zuw (n:Nat) (b:List Term) (t19:List Term) (t20:Int) (t21:Int) (terms:List Term):Bool×List Term:=zX (zo6) default n (b,(),t19,t20,t21,()) (terms,())
def zAY (r:List Term):LTree ty:=.done (.exit 0) [.own 208] [.arr 42 r false]
def zCV:LL ty ttTannotationMul3:=za (lSl 42) (za (lOwn 208) (za (lSl 42) (za (lInt .i64) (za (lInt .i64) zH))))
def zCO:BL ty ttTannotationMul4:=bArr 42 false (bNil)
def zAc (x:ttTannotationMul0) (y:ttTannotationMul1):Nat:=(x.1.length+x.2.2.2.1.length+Int.toNat x.2.2.2.2.1+Int.toNat x.2.2.2.2.2.1+x.2.2.2.2.2.2.1.length+Int.toNat x.2.2.2.2.2.2.2.1+Int.toNat x.2.2.2.2.2.2.2.2.1+y.1.length+y.2.1.Factors.length+1)
def zAm (x:ttTannotationMul3) (y:ttTannotationMul4):Nat:=(x.1.length+x.2.2.1.length+Int.toNat x.2.2.2.1+Int.toNat x.2.2.2.2.1+y.1.length+1)
def zup:Cx ty:=mkCx base0 52 [(31,annotation_Valid_spec),(53,zed),(54,znQ),(58,zwr),(59,zxQ)] [] [(5,[(1,.keep),(6,.own 42),(19,.keep),(20,.keep),(21,.keep)]),(8,[(1,.keep),(6,.own 42),(8,.keep),(19,.keep),(20,.keep),(21,.keep),(25,.keep),(26,.keep),(27,.keep)])] [(5,1,[(6,.keep)]),(8,3,[(1,.keep),(6,.keep),(19,.keep),(20,.keep),(21,.keep)])] [(8,spW zCn zCr (zo3) default zBb zAc),(5,spW zCV zCO (zo6) default zAY zAm)] []
theorem zLf:zW zup (lp (body Tryz.f16) 1):=zK (id:=8) (V:=zCn) (B:=zCr) (W:=zo3) (z:=default) (tr:=zBb) (m:=zAc)
theorem zLh:zW zup (lp (body Tryz.f16) 0):=zK (id:=5) (V:=zCV) (B:=zCO) (W:=zo6) (z:=default) (tr:=zAY) (m:=zAm)
def zvM (a:List Term) (b:List Term):Wy0 (List Term×Int):=.bn (zci a) fun r14=>.i (!r14) (.k ([],1)) (.bn (zci b) fun r13=>.i (!r13) (.k ([],1)) (.bn (zuw (b.length+a.length+(Int.ofNat a.length).toNat +Int.toNat 0+0+1) b a (Int.ofNat a.length) 0 []) fun r12=>.bn (zgO r12) fun r11=>.bn (zdH r11) fun r10=>.k (r10.1,r10.2)))
def zo9 (a:List Term) (b:List Term):Bool×(List Term×Int):=(zvM a b).fin default
def zAl (r:List Term×Int):ARes ty:=⟨[.own 42 r.1,.pure (.lit (.int .i64 r.2))],[]⟩
def zD0:AL base0 (List Term×List Term×Unit):=zf (zg (vSl 42)) (zf (zg (vSl 42)) aNil)
def zrG:Ab.Spec ty:=zk zD0 fun x=>((zo9 x.1 x.2.1).1,zAl (zo9 x.1 x.2.1).2)
theorem zx0:Sound Tryz.prog base0 16 zrG:=
 zn (cx':=zup) zJ ziw zw (zm ⟨zc4.nodr,zeG.nodr,zsI,zGY.nodr,zH5.nodr,trivial⟩) Tryz.call16 Tryz.func16 (c:=body Tryz.f16) (by kernel_rfl) (zh (l:=[lp (body Tryz.f16) 0,lp (body Tryz.f16) 1]) (by kernel_rfl) ⟨zLh,zLf,trivial⟩) (sg:=⟨[.own 42,.pure],[]⟩) (A:=zD0) (res:=zAl) (W:=fun x=>zvM x.1 x.2.1) (z:=default)
def zxd:Cx ty:=mkCx base 8 [] [] [] [] [] []
def zj1 (b:Binding) (p1:RowID):Wy0 (Bool):=.k (b.Row.Table==p1.Table&&(b.Row.Seq==p1.Seq&&true))
def zeU (b:Binding) (p1:RowID):Bool×Bool:=(zj1 b p1).fin default
def znC (r:Bool):ARes ty:=⟨[.pure (.lit (.bool r))],[]⟩
def zoS:AL base (Binding×RowID×Unit):=zf (zg (vAgg 69)) (zf (zg (zPk 25)) aNil)
def ziA:Ab.Spec ty:=zk zoS fun x=>((zeU x.1 x.2.1).1,znC (zeU x.1 x.2.1).2)
theorem zmz:Sound Tryz.prog base 95 ziA:=
 zn (cx':=zxd) zJ zl zw (zm trivial) Tryz.call95 Tryz.func95 (c:=body Tryz.f95) (by kernel_rfl) (zh (l:=[]) (by kernel_rfl) trivial) (sg:=⟨[.pure],[]⟩) (A:=zoS) (res:=znC) (W:=fun x=>zj1 x.1 x.2.1) (z:=default)
def zJi:Cx ty:=mkCx base 8 [] [] [] [] [] []
def zrv (x_:Atom):Wy0 (List Term):=.k [TermOf.mk 1 [FactorOf.mk (Atom.mk x_.Kind x_.Row x_.Args x_.Func x_.Items x_.Op x_.Bound) 1]]
def zex (x_:Atom):Bool×List Term:=(zrv x_).fin default
def zv6 (r:List Term):ARes ty:=⟨[.own 42 r],[]⟩
def zy9:AL base (Atom×Unit):=zf (zg (vAgg 48)) aNil
def zfz:Ab.Spec ty:=zk zy9 fun x=>((zex x.1).1,zv6 (zex x.1).2)
theorem zhT:Sound Tryz.prog base 62 zfz:=
 zn (cx':=zJi) zJ zl zw (zm trivial) Tryz.call62 Tryz.func62 (c:=body Tryz.f62) (by kernel_rfl) (zh (l:=[]) (by kernel_rfl) trivial) (sg:=⟨[.own 42],[]⟩) (A:=zy9) (res:=zv6) (W:=fun x=>zrv x.1) (z:=default)
def zNi:Cx ty:=mkCx base 9 [(62,zfz),(69,zo4)] [] [] [] [] []
def zvN (id:RowID):Wy0 (List Term):=.bn (znf id) fun r0=>.i (!r0) (.k []) (.k ((zex (Atom.mk 0 id [] 0 [] 0 (Value.mk 0 0 (ByteArray.mk #[])))).2))
def zpG (id:RowID):Bool×List Term:=(zvN id).fin default
def zAi (r:List Term):ARes ty:=⟨[.own 42 r],[]⟩
def zEq:AL base (RowID×Unit):=zf (zg (vAgg 25)) aNil
def zrE:Ab.Spec ty:=zk zEq fun x=>((zpG x.1).1,zAi (zpG x.1).2)
theorem zxt:Sound Tryz.prog base 27 zrE:=
 zn (cx':=zNi) zJ zl zw (zm ⟨zhT,zsN,trivial⟩) Tryz.call27 Tryz.func27 (c:=body Tryz.f27) (by kernel_rfl) (zh (l:=[]) (by kernel_rfl) trivial) (sg:=⟨[.own 42],[]⟩) (A:=zEq) (res:=zAi) (W:=fun x=>zvN x.1) (z:=default)
end Go.Proofs.YtnolcogncjijpaaGreatDoor
end
