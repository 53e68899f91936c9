/- Texts of this claim, joined (the program, its functions in plain words, and what they compute). -/
import Derived.WalkKit
import Derived.WalkSpells
import Derived.Test.YtnolcogncjijpaaGreatDoorGC1
import Derived.Test.YtnolcogncjijpaaGreatDoorGC2
import Derived.Test.YtnolcogncjijpaaGreatDoorGA2
import Derived.Test.YtnolcogncjijpaaGreatDoorGB1
set_option autoImplicit false
set_option linter.unusedVariables false
set_option linter.unusedSectionVars false
set_option linter.unusedSimpArgs false
set_option maxRecDepth 1000000
set_option maxHeartbeats 0
noncomputable section
namespace Go.Proofs.YtnolcogncjijpaaGreatDoor
open Go Go.Ab
def zdT:Nat→(List Term→Bool×Bool)×(Atom→Bool×Bool)×(List Term→Bool×Bool)×(Weighted→Bool×Bool)×(List (List Term)→Bool×Int)×(List (List Term)→Bool×Bool)×(List Weighted→Bool×Int)×(List Weighted→Bool×Bool)
 | 0=>(fun _=>(false,default),fun _=>(false,default),fun _=>(false,default),fun _=>(false,default),fun _=>(false,default),fun _=>(false,default),fun _=>(false,default),fun _=>(false,default))
 | n+1=>(zk5 ((zdT n).2.1),zio ((zdT n).2.2.2.2.2.2.2) ((zdT n).2.2.2.2.2.1) ((zdT n).2.2.1) ((zdT n).2.2.2.1),ziU ((zdT n).1),ziY ((zdT n).1),zcc ((zdT n).2.2.1),zbY ((zdT n).2.2.1) ((zdT n).2.2.2.2.1),zcy ((zdT n).2.2.2.1),zch ((zdT n).2.2.2.1) ((zdT n).2.2.2.2.2.2.1))
def ziR (n:Nat):List Term→Bool×Bool:=(zdT n).1
def zkO (n:Nat):Atom→Bool×Bool:=(zdT n).2.1
def zeB (n:Nat):List Term→Bool×Bool:=(zdT n).2.2.1
def zeD (n:Nat):Weighted→Bool×Bool:=(zdT n).2.2.2.1
def zce (n:Nat):List (List Term)→Bool×Int:=(zdT n).2.2.2.2.1
def zb1 (n:Nat):List (List Term)→Bool×Bool:=(zdT n).2.2.2.2.2.1
def zcD (n:Nat):List Weighted→Bool×Int:=(zdT n).2.2.2.2.2.2.1
def zcl (n:Nat):List Weighted→Bool×Bool:=(zdT n).2.2.2.2.2.2.2
theorem zEg (n:Nat):ziR (n+1)=zk5 (zkO n):=rfl
theorem zAH (n:Nat):zkO (n+1)=zio (zcl n) (zb1 n) (zeB n) (zeD n):=rfl
theorem zxx (n:Nat):zeB (n+1)=ziU (ziR n):=rfl
theorem zxP (n:Nat):zeD (n+1)=ziY (ziR n):=rfl
theorem zkL (n:Nat):zce (n+1)=zcc (zeB n):=rfl
theorem zjW (n:Nat):zb1 (n+1)=zbY (zeB n) (zce n):=rfl
theorem zl0 (n:Nat):zcD (n+1)=zcy (zeD n):=rfl
theorem zk1 (n:Nat):zcl (n+1)=zch (zeD n) (zcD n):=rfl
theorem zJh:∀ n,Sound Tryz.prog base 31 (zgT (ziR n))∧Sound Tryz.prog base 74 (zkM (zkO n))∧Sound Tryz.prog base 130 (zcY (zeB n))∧Sound Tryz.prog base 131 (zc1 (zeD n))∧Sound Tryz.prog base 163 (zcd (zce n))∧Sound Tryz.prog base 129 (zb0 (zb1 n))∧Sound Tryz.prog base 135 (zcA (zcD n))∧Sound Tryz.prog base 76 (zcj (zcl n))
 | 0=>⟨zbH Tryz.call31 (fun _=>rfl),zbH Tryz.call74 (fun _=>rfl),zbH Tryz.call130 (fun _=>rfl),zbH Tryz.call131 (fun _=>rfl),zbH Tryz.call163 (fun _=>rfl),zbH Tryz.call129 (fun _=>rfl),zbH Tryz.call135 (fun _=>rfl),zbH Tryz.call76 (fun _=>rfl)⟩
 | n+1=>by
  have ih:=zJh n
  exact ⟨zBL _ (ih.2.1),zx8 _ _ _ _ (ih.2.2.2.2.2.2.2) (ih.2.2.2.2.2.1) (ih.2.2.1) (ih.2.2.2.1),zvT _ (ih.1),zvP _ (ih.1),zj0 _ (ih.2.2.1),zja _ _ (ih.2.2.1) (ih.2.2.2.2.1),zkR _ (ih.2.2.2.1),zkk _ _ (ih.2.2.2.1) (ih.2.2.2.2.2.2.1)⟩
def zbP:List Term→Bool×Bool:=ziR 1000
def annotation_Valid_spec:Ab.Spec ty:=zgT zbP
theorem zcx:Sound Tryz.prog base 31 annotation_Valid_spec:=(zJh 1000).1
def zub (r:List Term×Int):ARes ty:=⟨[.own 42 r.1,.pure (.lit (.int .i64 r.2))],[]⟩
def zwe:AL base0 (List Term×((List Binding×Unit)×Unit)×Unit):=zf (zg (vSl 42)) (zf (zg (vFn 93 (zs8 (vBox (zs8 (vSl 69) vNil)) vNil))) aNil)
def zjA (F:List Term→List Binding→Bool×(List Term×Int)):Ab.Spec ty:=zu zwe fun x=>((F x.1 x.2.1.1.1).1,zub (F x.1 x.2.1.1.1).2)
def zqX (r:List Term×Int):ARes ty:=⟨[.own 42 r.1,.pure (.lit (.int .i64 r.2))],[]⟩
def zr1:AL base0 (Atom×((List Binding×Unit)×Unit)×Unit):=zf (zg (vAgg 48)) (zf (zg (vFn 93 (zs8 (vBox (zs8 (vSl 69) vNil)) vNil))) aNil)
def zje (F:Atom→List Binding→Bool×(List Term×Int)):Ab.Spec ty:=zu zr1 fun x=>((F x.1 x.2.1.1.1).1,zqX (F x.1 x.2.1.1.1).2)
def zwc (k:Go.Value) (l:List (Go.Value×Int)):Option Int:=mget (ty:=ty) (V:=3) k l
def zQ6 (k:Go.Value) (l:List (Go.Value×Int)):Bool:=mhas (ty:=ty) (V:=3) k l
def zQW (k:Go.Value) (x:Int) (l:List (Go.Value×Int)):List (Go.Value×Int):=mset (ty:=ty) (V:=3) k x l
def zw9 (r:ByteArray):ARes ty:=⟨[.pure (.lit (.string r))],[]⟩
def zAl:AL base0 (List Term×Unit):=zf (zg (vSl 42)) aNil
def zlR (F:List Term→Bool×ByteArray):Ab.Spec ty:=zu zAl fun x=>((F x.1).1,zw9 (F x.1).2)
def zrM (r:ByteArray):ARes ty:=⟨[.pure (.lit (.string r))],[]⟩
def ztn:AL base0 (Atom×Unit):=zf (zg (vAgg 48)) aNil
def zj3 (F:Atom→Bool×ByteArray):Ab.Spec ty:=zu ztn fun x=>((F x.1).1,zrM (F x.1).2)
def zpy (r:ByteArray):ARes ty:=⟨[.pure (.lit (.string r))],[]⟩
def zqK:AL base0 (List Factor×Unit):=zf (zg (vSl 50)) aNil
def zfn (F:List Factor→Bool×ByteArray):Ab.Spec ty:=zu zqK fun x=>((F x.1).1,zpy (F x.1).2)
def zCO:Cx ty:=mkCx base 2 [] [] [] [] [] []
def ztZ:Wy0 (List ByteArray):=.k [ByteArray.mk #[(67:UInt8),(79:UInt8),(85:UInt8),(78:UInt8),(84:UInt8)],ByteArray.mk #[(83:UInt8),(85:UInt8),(77:UInt8)],ByteArray.mk #[(77:UInt8),(73:UInt8),(78:UInt8)],ByteArray.mk #[(77:UInt8),(65:UInt8),(88:UInt8)]]
def zbL:Bool×List ByteArray:=(ztZ).fin default
def zr7 (r:List ByteArray):ARes ty:=⟨[.own 9 r],[]⟩
def zuy:AL base (Unit):=aNil
def zrD:Ab.Spec ty:=zu zuy fun x=>((zbL ).1,zr7 (zbL ).2)
theorem zAd:Sound Tryz.prog base 174 zrD:=
 zH (cx':=zCO) zT zD zN (zG trivial) Tryz.call174 Tryz.func174 (c:=body Tryz.f174) (by kernel_rfl) (zj (l:=[]) (by kernel_rfl) trivial) (sg:=⟨[.own 9],[]⟩) (A:=zuy) (res:=zr7) (W:=fun x=>ztZ ) (z:=default)
def zCG:Cx ty:=mkCx base 2 [] [] [] [] [] []
def zt6:Wy0 (List ByteArray):=.k [ByteArray.mk #[(61:UInt8)],ByteArray.mk #[(60:UInt8),(62:UInt8)],ByteArray.mk #[(60:UInt8)],ByteArray.mk #[(60:UInt8),(61:UInt8)],ByteArray.mk #[(62:UInt8)],ByteArray.mk #[(62:UInt8),(61:UInt8)]]
def zc8:Bool×List ByteArray:=(zt6).fin default
def zsu (r:List ByteArray):ARes ty:=⟨[.own 9 r],[]⟩
def zug:AL base (Unit):=aNil
def zro:Ab.Spec ty:=zu zug fun x=>((zc8 ).1,zsu (zc8 ).2)
theorem zzB:Sound Tryz.prog base 175 zro:=
 zH (cx':=zCG) zT zD zN (zG trivial) Tryz.call175 Tryz.func175 (c:=body Tryz.f175) (by kernel_rfl) (zj (l:=[]) (by kernel_rfl) trivial) (sg:=⟨[.own 9],[]⟩) (A:=zug) (res:=zsu) (W:=fun x=>zt6 ) (z:=default)
def strings_Join (l:List ByteArray) (sep:ByteArray):Bool×ByteArray:=zIV l sep
def strings_Join_spec:Ab.Spec ty:=zu (cx:=base0) (zf (zg (vSl 9)) (zf (zg vStr) aNil)) fun x=>((strings_Join x.1 x.2.1).1,⟨[.pure (.lit (.string (strings_Join x.1 x.2.1).2))],[]⟩)
theorem zsF:Sound Tryz.prog base0 152 strings_Join_spec:=zQ7 (T:=9) zh3 rfl Go.Proofs.Tryz.lays156 Go.Proofs.Tryz.Builder_Extra_156 Tryz.call152 (fun s:ByteArray=>s) (fun _=>rfl) strings_Join (fun l sep=>congrArg (fun l=>zIV l sep) (List.map_id' (α:=ByteArray) l).symm)
def strconv_Itoa (x:Int):Bool×ByteArray:=zFQ x
def strconv_Itoa_spec:Ab.Spec ty:=zu (cx:=base) (zf (zg (vInt .i64)) aNil) fun x=>((strconv_Itoa x.1).1,⟨[.pure (.lit (.string (strconv_Itoa x.1).2))],[]⟩)
theorem zzs:Sound Tryz.prog base 154 strconv_Itoa_spec:=zQA zD Go.Proofs.Tryz.laysM171 Tryz.call154 (fun _ h=>h.1)
def zJ3:Cx ty:=mkCx base 15 [(69,zoU),(154,strconv_Itoa_spec)] [] [] [] [] []
def zwH (id:RowID):Wy0 (ByteArray):=.bn (znc id) fun r2=>.i (!r2) (.k (ByteArray.mk #[])) (.bn (strconv_Itoa id.Table) fun r1=>.i (decide ((ByteArray.mk #[(116:UInt8)]).size+r1.size≤9223372036854775807)) (.i (decide ((ByteArray.mk #[(116:UInt8)]++r1).size+(ByteArray.mk #[(46:UInt8)]).size≤9223372036854775807)) (.bn (strconv_Itoa id.Seq) fun r0=>.i (decide ((ByteArray.mk #[(116:UInt8)]++r1++ByteArray.mk #[(46:UInt8)]).size+r0.size≤9223372036854775807)) (.k (ByteArray.mk #[(116:UInt8)]++r1++ByteArray.mk #[(46:UInt8)]++r0)) .d) .d) .d)
def zqz (id:RowID):Bool×ByteArray:=(zwH id).fin default
def zAq (r:ByteArray):ARes ty:=⟨[.pure (.lit (.string r))],[]⟩
def zC6:AL base (RowID×Unit):=zf (zg (vAgg 25)) aNil
def zza:Ab.Spec ty:=zu zC6 fun x=>((zqz x.1).1,zAq (zqz x.1).2)
theorem zGP:Sound Tryz.prog base 172 zza:=
 zH (cx':=zJ3) zT zD zN (zG ⟨zrS,zzs,trivial⟩) Tryz.call172 Tryz.func172 (c:=body Tryz.f172) (by kernel_rfl) (zj (l:=[]) (by kernel_rfl) trivial) (sg:=⟨[.pure],[]⟩) (A:=zC6) (res:=zAq) (W:=fun x=>zwH x.1) (z:=default)
def zh2 (m b:Int):Bool×ByteArray:=zqg m b
def strconv_FormatInt_spec:Ab.Spec ty:=zu (cx:=base) (zf (zg (vInt .i64)) (zf (zg (vInt .i64)) aNil)) fun x=>((zh2 x.1 x.2.1).1,⟨[.pure (.lit (.string (zh2 x.1 x.2.1).2))],[]⟩)
theorem ztm:Sound Tryz.prog base 151 strconv_FormatInt_spec:=zKC zD Go.Proofs.Tryz.laysM173 Tryz.call151 (fun _ h=>h.1)
def strings_ReplaceAll (s p q:ByteArray):Bool×ByteArray:=zmz s p q
def strings_ReplaceAll_spec:Ab.Spec ty:=zu (cx:=base0) (zf (zg vStr) (zf (zg vStr) (zf (zg vStr) aNil))) fun x=>((strings_ReplaceAll x.1 x.2.1 x.2.2.1).1,⟨[.pure (.lit (.string (strings_ReplaceAll x.1 x.2.1 x.2.2.1).2))],[]⟩)
theorem zBG:Sound Tryz.prog base0 203 strings_ReplaceAll_spec:=zJ4 zh3 rfl Go.Proofs.Tryz.lays155 Go.Proofs.Tryz.Builder_Extra_155 Tryz.call203 (fun _ h=>h.2)
def zKt:Cx ty:=mkCx base0 27 [(133,zqu),(151,strconv_FormatInt_spec),(203,strings_ReplaceAll_spec)] [] [] [] [] []
def zxD (v:Value):Wy0 (ByteArray):=.bn (zor v) fun r2=>.i (!r2) (.k (ByteArray.mk #[])) (.i (v.Kind==0) (.bn (zh2 v.Int 10) fun r0=>.k r0) (.i (v.Kind==1) (.bn (strings_ReplaceAll v.Text (ByteArray.mk #[(39:UInt8)]) (ByteArray.mk #[(39:UInt8),(39:UInt8)])) fun r1=>.i (decide ((ByteArray.mk #[(39:UInt8)]).size+r1.size≤9223372036854775807)) (.i (decide ((ByteArray.mk #[(39:UInt8)]++r1).size+(ByteArray.mk #[(39:UInt8)]).size≤9223372036854775807)) (.k (ByteArray.mk #[(39:UInt8)]++r1++ByteArray.mk #[(39:UInt8)])) .d) .d) (.i (v.Int==1) (.k (ByteArray.mk #[(84:UInt8),(82:UInt8),(85:UInt8),(69:UInt8)])) (.k (ByteArray.mk #[(70:UInt8),(65:UInt8),(76:UInt8),(83:UInt8),(69:UInt8)])))))
def zpt (v:Value):Bool×ByteArray:=(zxD v).fin default
def zCe (r:ByteArray):ARes ty:=⟨[.pure (.lit (.string r))],[]⟩
def zER:AL base0 (Value×Unit):=zf (zg (vAgg 46)) aNil
def zAA:Ab.Spec ty:=zu zER fun x=>((zpt x.1).1,zCe (zpt x.1).2)
theorem zH4:Sound Tryz.prog base0 173 zAA:=
 zH (cx':=zKt) zT zh3 zN (zG ⟨ztQ.nodr,ztm.nodr,zBG,trivial⟩) Tryz.call173 Tryz.func173 (c:=body Tryz.f173) (by kernel_rfl) (zj (l:=[]) (by kernel_rfl) trivial) (sg:=⟨[.pure],[]⟩) (A:=zER) (res:=zCe) (W:=fun x=>zxD x.1) (z:=default)
abbrev ttTannotationformatAtom0:=Unit×Unit×List Weighted×Int×Int×Unit
abbrev ttTannotationformatAtom1:=Atom×List ByteArray×Unit
abbrev ttTannotationformatAtom2:=Atom×List ByteArray
def ze7 (z8:List Term→Bool×ByteArray) (t48:List Weighted) (t49:Int) (t50:Int) (x_:Atom) (items:List ByteArray):Wy ttTannotationformatAtom0 ttTannotationformatAtom1 ttTannotationformatAtom2:=.i (decide (t50<t49)) (.i (decide (0≤t50)&&decide (t50<Int.ofNat t48.length)) (.bn (zpt (t48.getD t50.toNat default).Value) fun r1=>.i (decide (r1.size+(ByteArray.mk #[(58:UInt8),(32:UInt8)]).size≤9223372036854775807)) (.bn (z8 (t48.getD t50.toNat default).Ann) fun r0=>.i (decide ((r1++ByteArray.mk #[(58:UInt8),(32:UInt8)]).size+r0.size≤9223372036854775807)) (.i (decide ((items.length+[r1++ByteArray.mk #[(58:UInt8),(32:UInt8)]++r0].length)*16≤zK)) (.h ((),(),t48,t49,(IntKind.i64.wrap (t50+1)),()) (x_,(items++[r1++ByteArray.mk #[(58:UInt8),(32:UInt8)]++r0]),())) .d) .d) .d) .d) (.k (x_,items))
def zh9 (z8:List Term→Bool×ByteArray) (x:ttTannotationformatAtom0) (y:ttTannotationformatAtom1):Wy ttTannotationformatAtom0 ttTannotationformatAtom1 ttTannotationformatAtom2:=ze7 z8 x.2.2.1 x.2.2.2.1 x.2.2.2.2.1 y.1 y.2.1
def zpV (z8:List Term→Bool×ByteArray) (n:Nat) (t48:List Weighted) (t49:Int) (t50:Int) (x_:Atom) (items:List ByteArray):Bool×ttTannotationformatAtom2:=zQ (zh9 z8) default n ((),(),t48,t49,t50,()) (x_,items,())
def zpu (r:ttTannotationformatAtom2):LTree ty:=.done (.exit 1) [.ptr 360 0,.own 361] [.box (base.enc 48 r.1) false,.arr 9 r.2 false]
def zpO:LL ty ttTannotationformatAtom0:=zb (zrG 360 0) (zb (lOwn 361) (zb (lSl 52) (zb (lInt .i64) (zb (lInt .i64) zX))))
def zpQ:BL ty ttTannotationformatAtom1:=bBox (zuG (fun x=>(⟨x.1,⟨x.2.1,x.2.2.1⟩,x.2.2.2.1,x.2.2.2.2.1,x.2.2.2.2.2.1,x.2.2.2.2.2.2.1,⟨x.2.2.2.2.2.2.2.1,x.2.2.2.2.2.2.2.2.1,x.2.2.2.2.2.2.2.2.2.1⟩⟩:Atom)) (fun x=>(x.Kind,x.Row.Table,x.Row.Seq,x.Args,x.Func,x.Items,x.Op,x.Bound.Kind,x.Bound.Int,x.Bound.Text,())) (fun _=>rfl) (zb (lInt .i64) (zb (lInt .i64) (zb (lInt .i64) (zb (lSl 23) (zb (lInt .i64) (zb (lSl 52) (zb (lInt .i64) (zb (lInt .i64) (zb (lInt .i64) (zb lStr zX))))))))))) false (bArr 9 false (bNil))
def zpm (x:ttTannotationformatAtom0) (y:ttTannotationformatAtom1):Nat:=(x.2.2.1.length+Int.toNat x.2.2.2.1+Int.toNat x.2.2.2.2.1+y.1.Args.length+y.1.Items.length+y.2.1.length+1)
def zqD (z8:List Term→Bool×ByteArray):Cx ty:=mkCx base0 90 [(109,(zlR z8)),(152,strings_Join_spec),(172,zza),(173,zAA),(174,zrD),(175,zro)] [] [(12,[(1,.keep),(3,.own 9),(48,.keep),(49,.keep),(50,.keep)])] [(12,2,[(1,.keep),(3,.keep)])] [(12,spW zpO zpQ (zh9 z8) default zpu zpm)] []
theorem zx3 (z8:List Term→Bool×ByteArray):zbv (zqD z8) (lp (body Tryz.f153) 0):=zbc (id:=12) (V:=zpO) (B:=zpQ) (W:=zh9 z8) (z:=default) (tr:=zpu) (m:=zpm)
def zmd (z8:List Term→Bool×ByteArray) (x_:Atom):Wy0 (ByteArray):=.i (x_.Kind==0) (.bn (zqz x_.Row) fun r4=>.k r4) (.i (x_.Kind==1) (.i (decide ((0:Int)≤(0:Int))&&decide (0<Int.ofNat x_.Args.length)) (.bn (z8 (x_.Args.getD (Int.toNat 0) default)) fun r6=>.i (decide ((ByteArray.mk #[(109:UInt8),(111:UInt8),(110:UInt8),(117:UInt8),(115:UInt8),(91:UInt8)]).size+r6.size≤9223372036854775807)) (.i (decide ((ByteArray.mk #[(109:UInt8),(111:UInt8),(110:UInt8),(117:UInt8),(115:UInt8),(91:UInt8)]++r6).size+(ByteArray.mk #[(44:UInt8),(32:UInt8)]).size≤9223372036854775807)) (.i (decide ((0:Int)≤(1:Int))&&decide (1<Int.ofNat x_.Args.length)) (.bn (z8 (x_.Args.getD (Int.toNat 1) default)) fun r5=>.i (decide ((ByteArray.mk #[(109:UInt8),(111:UInt8),(110:UInt8),(117:UInt8),(115:UInt8),(91:UInt8)]++r6++ByteArray.mk #[(44:UInt8),(32:UInt8)]).size+r5.size≤9223372036854775807)) (.i (decide ((ByteArray.mk #[(109:UInt8),(111:UInt8),(110:UInt8),(117:UInt8),(115:UInt8),(91:UInt8)]++r6++ByteArray.mk #[(44:UInt8),(32:UInt8)]++r5).size+(ByteArray.mk #[(93:UInt8)]).size≤9223372036854775807)) (.k (ByteArray.mk #[(109:UInt8),(111:UInt8),(110:UInt8),(117:UInt8),(115:UInt8),(91:UInt8)]++r6++ByteArray.mk #[(44:UInt8),(32:UInt8)]++r5++ByteArray.mk #[(93:UInt8)])) .d) .d) .d) .d) .d) .d) (.i (x_.Kind==2) (.i (decide ((0:Int)≤(0:Int))&&decide (0<Int.ofNat x_.Args.length)) (.bn (z8 (x_.Args.getD (Int.toNat 0) default)) fun r7=>.i (decide ((ByteArray.mk #[(100:UInt8),(101:UInt8),(108:UInt8),(116:UInt8),(97:UInt8),(91:UInt8)]).size+r7.size≤9223372036854775807)) (.i (decide ((ByteArray.mk #[(100:UInt8),(101:UInt8),(108:UInt8),(116:UInt8),(97:UInt8),(91:UInt8)]++r7).size+(ByteArray.mk #[(93:UInt8)]).size≤9223372036854775807)) (.k (ByteArray.mk #[(100:UInt8),(101:UInt8),(108:UInt8),(116:UInt8),(97:UInt8),(91:UInt8)]++r7++ByteArray.mk #[(93:UInt8)])) .d) .d) .d) (.i (x_.Kind==3) (.i (decide ((0:Int)≤(0:Int))&&decide (0<Int.ofNat x_.Args.length)) (.bn (z8 (x_.Args.getD (Int.toNat 0) default)) fun r8=>.i (decide ((ByteArray.mk #[(97:UInt8),(98:UInt8),(115:UInt8),(101:UInt8),(110:UInt8),(116:UInt8),(91:UInt8)]).size+r8.size≤9223372036854775807)) (.i (decide ((ByteArray.mk #[(97:UInt8),(98:UInt8),(115:UInt8),(101:UInt8),(110:UInt8),(116:UInt8),(91:UInt8)]++r8).size+(ByteArray.mk #[(93:UInt8)]).size≤9223372036854775807)) (.k (ByteArray.mk #[(97:UInt8),(98:UInt8),(115:UInt8),(101:UInt8),(110:UInt8),(116:UInt8),(91:UInt8)]++r8++ByteArray.mk #[(93:UInt8)])) .d) .d) .d) (.bn (zpV z8 (x_.Items.length+(Int.ofNat x_.Items.length).toNat +Int.toNat 0+x_.Args.length+x_.Items.length+0+1) x_.Items (Int.ofNat x_.Items.length) 0 (Atom.mk x_.Kind x_.Row x_.Args x_.Func x_.Items x_.Op x_.Bound) []) fun r11=>.i (decide (0≤r11.1.Func)&&decide (r11.1.Func<Int.ofNat zbL.2.length)) (.i (decide ((ByteArray.mk #[(116:UInt8),(101:UInt8),(115:UInt8),(116:UInt8),(91:UInt8)]).size+ByteArray.size (zbL.2.getD r11.1.Func.toNat default)≤9223372036854775807)) (.i (decide ((ByteArray.mk #[(116:UInt8),(101:UInt8),(115:UInt8),(116:UInt8),(91:UInt8)]++zbL.2.getD r11.1.Func.toNat default).size+(ByteArray.mk #[(123:UInt8)]).size≤9223372036854775807)) (.bn (strings_Join r11.2 (ByteArray.mk #[(59:UInt8),(32:UInt8)])) fun r10=>.i (decide ((ByteArray.mk #[(116:UInt8),(101:UInt8),(115:UInt8),(116:UInt8),(91:UInt8)]++zbL.2.getD r11.1.Func.toNat default++ByteArray.mk #[(123:UInt8)]).size+r10.size≤9223372036854775807)) (.i (decide ((ByteArray.mk #[(116:UInt8),(101:UInt8),(115:UInt8),(116:UInt8),(91:UInt8)]++zbL.2.getD r11.1.Func.toNat default++ByteArray.mk #[(123:UInt8)]++r10).size+(ByteArray.mk #[(125:UInt8),(32:UInt8)]).size≤9223372036854775807)) (.i (decide (0≤IntKind.i64.wrap (r11.1.Op - 5))&&decide (IntKind.i64.wrap (r11.1.Op - 5)<Int.ofNat zc8.2.length)) (.i (decide ((ByteArray.mk #[(116:UInt8),(101:UInt8),(115:UInt8),(116:UInt8),(91:UInt8)]++zbL.2.getD r11.1.Func.toNat default++ByteArray.mk #[(123:UInt8)]++r10++ByteArray.mk #[(125:UInt8),(32:UInt8)]).size+ByteArray.size (zc8.2.getD (IntKind.i64.wrap (r11.1.Op - 5)).toNat default)≤9223372036854775807)) (.i (decide ((ByteArray.mk #[(116:UInt8),(101:UInt8),(115:UInt8),(116:UInt8),(91:UInt8)]++zbL.2.getD r11.1.Func.toNat default++ByteArray.mk #[(123:UInt8)]++r10++ByteArray.mk #[(125:UInt8),(32:UInt8)]++zc8.2.getD (IntKind.i64.wrap (r11.1.Op - 5)).toNat default).size+(ByteArray.mk #[(32:UInt8)]).size≤9223372036854775807)) (.bn (zpt r11.1.Bound) fun r9=>.i (decide ((ByteArray.mk #[(116:UInt8),(101:UInt8),(115:UInt8),(116:UInt8),(91:UInt8)]++zbL.2.getD r11.1.Func.toNat default++ByteArray.mk #[(123:UInt8)]++r10++ByteArray.mk #[(125:UInt8),(32:UInt8)]++zc8.2.getD (IntKind.i64.wrap (r11.1.Op - 5)).toNat default++ByteArray.mk #[(32:UInt8)]).size+r9.size≤9223372036854775807)) (.i (decide ((ByteArray.mk #[(116:UInt8),(101:UInt8),(115:UInt8),(116:UInt8),(91:UInt8)]++zbL.2.getD r11.1.Func.toNat default++ByteArray.mk #[(123:UInt8)]++r10++ByteArray.mk #[(125:UInt8),(32:UInt8)]++zc8.2.getD (IntKind.i64.wrap (r11.1.Op - 5)).toNat default++ByteArray.mk #[(32:UInt8)]++r9).size+(ByteArray.mk #[(93:UInt8)]).size≤9223372036854775807)) (.k (ByteArray.mk #[(116:UInt8),(101:UInt8),(115:UInt8),(116:UInt8),(91:UInt8)]++zbL.2.getD r11.1.Func.toNat default++ByteArray.mk #[(123:UInt8)]++r10++ByteArray.mk #[(125:UInt8),(32:UInt8)]++zc8.2.getD (IntKind.i64.wrap (r11.1.Op - 5)).toNat default++ByteArray.mk #[(32:UInt8)]++r9++ByteArray.mk #[(93:UInt8)])) .d) .d) .d) .d) .d) .d) .d) .d) .d) .d))))
def zhQ (z8:List Term→Bool×ByteArray) (x_:Atom):Bool×ByteArray:=(zmd z8 x_).fin default
theorem zw1 (z8:List Term→Bool×ByteArray) (zGN:Sound Tryz.prog base0 109 (zlR z8)):Sound Tryz.prog base0 153 (zj3 (zhQ z8)):=
 zH (cx':=(zqD z8)) zT zh3 zN (zG ⟨zGN,zsF,zGP.nodr,zH4,zAd.nodr,zzB.nodr,trivial⟩) Tryz.call153 Tryz.func153 (c:=body Tryz.f153) (by kernel_rfl) (zj (l:=[lp (body Tryz.f153) 0]) (by kernel_rfl) ⟨zx3 z8,trivial⟩) (sg:=⟨[.pure],[]⟩) (A:=ztn) (res:=zrM) (W:=fun x=>zmd z8 x.1) (z:=default)
abbrev ttTannotationformatFactors0:=Unit×List Factor×Int×Int×Unit
abbrev ttTannotationformatFactors1:=List ByteArray×Unit
def zeE (zU:Atom→Bool×ByteArray) (t7:List Factor) (t8:Int) (t9:Int) (out_:List ByteArray):Wy ttTannotationformatFactors0 ttTannotationformatFactors1 (List ByteArray):=.i (decide (t9<t8)) (.i (decide (0≤t9)&&decide (t9<Int.ofNat t7.length)) (.bn (zU (Atom.mk (t7.getD t9.toNat default).Atom.Kind (t7.getD t9.toNat default).Atom.Row (t7.getD t9.toNat default).Atom.Args (t7.getD t9.toNat default).Atom.Func (t7.getD t9.toNat default).Atom.Items (t7.getD t9.toNat default).Atom.Op (t7.getD t9.toNat default).Atom.Bound)) fun r1=>.i ((t7.getD t9.toNat default).Exp != 1) (.bn (strconv_Itoa (t7.getD t9.toNat default).Exp) fun r0=>.i (decide ((ByteArray.mk #[(94:UInt8)]).size+r0.size≤9223372036854775807)) (.i (decide (r1.size+(ByteArray.mk #[(94:UInt8)]++r0).size≤9223372036854775807)) (.i (decide ((out_.length+[r1++(ByteArray.mk #[(94:UInt8)]++r0)].length)*16≤zK)) (.h ((),t7,t8,(IntKind.i64.wrap (t9+1)),()) ((out_++[r1++(ByteArray.mk #[(94:UInt8)]++r0)]),())) .d) .d) .d) (.i (decide ((out_.length+[r1].length)*16≤zK)) (.h ((),t7,t8,(IntKind.i64.wrap (t9+1)),()) ((out_++[r1]),())) .d)) .d) (.k out_)
def zgG (zU:Atom→Bool×ByteArray) (x:ttTannotationformatFactors0) (y:ttTannotationformatFactors1):Wy ttTannotationformatFactors0 ttTannotationformatFactors1 (List ByteArray):=zeE zU x.2.1 x.2.2.1 x.2.2.2.1 y.1
def zoJ (zU:Atom→Bool×ByteArray) (n:Nat) (t7:List Factor) (t8:Int) (t9:Int) (out_:List ByteArray):Bool×List ByteArray:=zQ (zgG zU) default n ((),t7,t8,t9,()) (out_,())
def zn2 (r:List ByteArray):LTree ty:=.done (.exit 0) [.own 128] [.arr 9 r false]
def zoK:LL ty ttTannotationformatFactors0:=zb (lOwn 128) (zb (lSl 50) (zb (lInt .i64) (zb (lInt .i64) zX)))
def zoQ:BL ty ttTannotationformatFactors1:=bArr 9 false (bNil)
def zof (x:ttTannotationformatFactors0) (y:ttTannotationformatFactors1):Nat:=(x.2.1.length+Int.toNat x.2.2.1+Int.toNat x.2.2.2.1+y.1.length+1)
def zoN (zU:Atom→Bool×ByteArray):Cx ty:=mkCx base0 32 [(152,strings_Join_spec),(153,(zj3 zU)),(154,strconv_Itoa_spec)] [] [(3,[(3,.own 9),(7,.keep),(8,.keep),(9,.keep)])] [(3,1,[(3,.keep)])] [(3,spW zoK zoQ (zgG zU) default zn2 zof)] []
theorem zwb (zU:Atom→Bool×ByteArray):zbv (zoN zU) (lp (body Tryz.f110) 0):=zbc (id:=3) (V:=zoK) (B:=zoQ) (W:=zgG zU) (z:=default) (tr:=zn2) (m:=zof)
def zkz (zU:Atom→Bool×ByteArray) (l:List Factor):Wy0 (ByteArray):=.bn (zoJ zU (l.length+(Int.ofNat l.length).toNat +Int.toNat 0+0+1) l (Int.ofNat l.length) 0 []) fun r5=>.bn (strings_Join r5 (ByteArray.mk #[(42:UInt8)])) fun r4=>.k r4
def zfw (zU:Atom→Bool×ByteArray) (l:List Factor):Bool×ByteArray:=(zkz zU l).fin default
theorem zu0 (zU:Atom→Bool×ByteArray) (zAV:Sound Tryz.prog base0 153 (zj3 zU)):Sound Tryz.prog base0 110 (zfn (zfw zU)):=
 zH (cx':=(zoN zU)) zT zh3 zN (zG ⟨zsF,zAV,zzs.nodr,trivial⟩) Tryz.call110 Tryz.func110 (c:=body Tryz.f110) (by kernel_rfl) (zj (l:=[lp (body Tryz.f110) 0]) (by kernel_rfl) ⟨zwb zU,trivial⟩) (sg:=⟨[.pure],[]⟩) (A:=zqK) (res:=zpy) (W:=fun x=>zkz zU x.1) (z:=default)
abbrev ttTannotationtext0:=Unit×List Term×Int×Int×Unit
abbrev ttTannotationtext1:=List ByteArray×Unit
def zjl (zL:List Factor→Bool×ByteArray) (t9:List Term) (t10:Int) (t11:Int) (out_:List ByteArray):Wy ttTannotationtext0 ttTannotationtext1 (List ByteArray):=.i (decide (t11<t10)) (.i (decide (0≤t11)&&decide (t11<Int.ofNat t9.length)) (.i (Int.ofNat (t9.getD t11.toNat default).Factors.length==0) (.bn (zh2 (t9.getD t11.toNat default).Coeff 10) fun r0=>.i (decide ((out_.length+[r0].length)*16≤zK)) (.h ((),t9,t10,(IntKind.i64.wrap (t11+1)),()) ((out_++[r0]),())) .d) (.i ((t9.getD t11.toNat default).Coeff==1) (.bn (zL (t9.getD t11.toNat default).Factors) fun r1=>.i (decide ((out_.length+[r1].length)*16≤zK)) (.h ((),t9,t10,(IntKind.i64.wrap (t11+1)),()) ((out_++[r1]),())) .d) (.bn (zh2 (t9.getD t11.toNat default).Coeff 10) fun r3=>.i (decide (r3.size+(ByteArray.mk #[(42:UInt8)]).size≤9223372036854775807)) (.bn (zL (t9.getD t11.toNat default).Factors) fun r2=>.i (decide ((r3++ByteArray.mk #[(42:UInt8)]).size+r2.size≤9223372036854775807)) (.i (decide ((out_.length+[r3++ByteArray.mk #[(42:UInt8)]++r2].length)*16≤zK)) (.h ((),t9,t10,(IntKind.i64.wrap (t11+1)),()) ((out_++[r3++ByteArray.mk #[(42:UInt8)]++r2]),())) .d) .d) .d))) .d) (.k out_)
def zmi (zL:List Factor→Bool×ByteArray) (x:ttTannotationtext0) (y:ttTannotationtext1):Wy ttTannotationtext0 ttTannotationtext1 (List ByteArray):=zjl zL x.2.1 x.2.2.1 x.2.2.2.1 y.1
def zwT (zL:List Factor→Bool×ByteArray) (n:Nat) (t9:List Term) (t10:Int) (t11:Int) (out_:List ByteArray):Bool×List ByteArray:=zQ (zmi zL) default n ((),t9,t10,t11,()) (out_,())
def zu4 (r:List ByteArray):LTree ty:=.done (.exit 0) [.own 200] [.arr 9 r false]
def zvW:LL ty ttTannotationtext0:=zb (lOwn 200) (zb (lSl 42) (zb (lInt .i64) (zb (lInt .i64) zX)))
def zwq:BL ty ttTannotationtext1:=bArr 9 false (bNil)
def zvG (x:ttTannotationtext0) (y:ttTannotationtext1):Nat:=(x.2.1.length+Int.toNat x.2.2.1+Int.toNat x.2.2.2.1+y.1.length+1)
def zwg (zL:List Factor→Bool×ByteArray):Cx ty:=mkCx base0 50 [(110,(zfn zL)),(151,strconv_FormatInt_spec),(152,strings_Join_spec)] [] [(5,[(3,.own 9),(9,.keep),(10,.keep),(11,.keep)])] [(5,1,[(3,.keep)])] [(5,spW zvW zwq (zmi zL) default zu4 zvG)] []
theorem zEe (zL:List Factor→Bool×ByteArray):zbv (zwg zL) (lp (body Tryz.f109) 0):=zbc (id:=5) (V:=zvW) (B:=zwq) (W:=zmi zL) (z:=default) (tr:=zu4) (m:=zvG)
def zq7 (zL:List Factor→Bool×ByteArray) (a:List Term):Wy0 (ByteArray):=.i (Int.ofNat a.length==0) (.k (ByteArray.mk #[(48:UInt8)])) (.bn (zwT zL (a.length+(Int.ofNat a.length).toNat +Int.toNat 0+0+1) a (Int.ofNat a.length) 0 []) fun r9=>.bn (strings_Join r9 (ByteArray.mk #[(32:UInt8),(43:UInt8),(32:UInt8)])) fun r8=>.k r8)
def zlZ (zL:List Factor→Bool×ByteArray) (a:List Term):Bool×ByteArray:=(zq7 zL a).fin default
theorem zCL (zL:List Factor→Bool×ByteArray) (zxN:Sound Tryz.prog base0 110 (zfn zL)):Sound Tryz.prog base0 109 (zlR (zlZ zL)):=
 zH (cx':=(zwg zL)) zT zh3 zN (zG ⟨zxN,ztm.nodr,zsF,trivial⟩) Tryz.call109 Tryz.func109 (c:=body Tryz.f109) (by kernel_rfl) (zj (l:=[lp (body Tryz.f109) 0]) (by kernel_rfl) ⟨zEe zL,trivial⟩) (sg:=⟨[.pure],[]⟩) (A:=zAl) (res:=zw9) (W:=fun x=>zq7 zL x.1) (z:=default)
def zxX:Nat→(List Term→Bool×ByteArray)×(Atom→Bool×ByteArray)×(List Factor→Bool×ByteArray)
 | 0=>(fun _=>(false,default),fun _=>(false,default),fun _=>(false,default))
 | n+1=>(zlZ ((zxX n).2.2),zhQ ((zxX n).1),zfw ((zxX n).2.1))
def zlU (n:Nat):List Term→Bool×ByteArray:=(zxX n).1
def zj4 (n:Nat):Atom→Bool×ByteArray:=(zxX n).2.1
def zfu (n:Nat):List Factor→Bool×ByteArray:=(zxX n).2.2
theorem zFM (n:Nat):zlU (n+1)=zlZ (zfu n):=rfl
theorem zzP (n:Nat):zj4 (n+1)=zhQ (zlU n):=rfl
theorem zw0 (n:Nat):zfu (n+1)=zfw (zj4 n):=rfl
theorem zFT:∀ n,Sound Tryz.prog base0 109 (zlR (zlU n))∧Sound Tryz.prog base0 153 (zj3 (zj4 n))∧Sound Tryz.prog base0 110 (zfn (zfu n))
 | 0=>⟨zbH Tryz.call109 (fun _=>rfl),zbH Tryz.call153 (fun _=>rfl),zbH Tryz.call110 (fun _=>rfl)⟩
 | n+1=>by
  have ih:=zFT n
  exact ⟨zCL _ (ih.2.2),zw1 _ (ih.1),zu0 _ (ih.2.1)⟩
def zCS:List Term→Bool×ByteArray:=zlU 1000
def annotation_text_spec:Ab.Spec ty:=zlR zCS
theorem zEJ:Sound Tryz.prog base0 109 annotation_text_spec:=(zFT 1000).1
def zm5:List Factor→Bool×ByteArray:=zfu 1000
def annotation_formatFactors_spec:Ab.Spec ty:=zfn zm5
theorem zwF:Sound Tryz.prog base0 110 annotation_formatFactors_spec:=(zFT 1000).2.2
def zjk (x:List Term) (a b lim:Int):Bool×List Term:=zMs zbG x a b lim
def slices_pdqsortCmpFunc_api_Term_spec:Ab.Spec ty:=zu (cx:=base) (zf (aOwn 42) (zf (zg (vInt .i64)) (zf (zg (vInt .i64)) (zf (zg (vInt .i64)) (zf (zg (vFn 71 vNil)) aNil))))) fun x=>((zjk x.1 x.2.1 x.2.2.1 x.2.2.2.1).1,⟨[],[some ⟨42,(zjk x.1 x.2.1 x.2.2.1 x.2.2.2.1).2⟩]⟩)
theorem ztN (c:Unit) (x y:Term) (h:(zbG x y).1=true):annotation_compareLists_spec ((AV.agg (base.enc 42 x)::AV.agg (base.enc 42 y)::(vNil:VL base Unit).enc c).map Arg.pure)=some (true,⟨[.pure (.lit (.int .i64 (zbG x y).2))],[]⟩):=by
 rw [← h]; kernel_rfl
theorem zrT:Sound Tryz.prog base 155 slices_pdqsortCmpFunc_api_Term_spec:=by
 letI:DecidableEq (ty 42):=inferInstanceAs (DecidableEq Term)
 exact zQ0 (T:=42) zD rfl Go.Proofs.Tryz.pdqTerm Tryz.isAgg42 (by unfold szOf; exact Tryz.sizeOf42) Tryz.call155 zjX vNil (fun c=>zbG) ztN
open Go.Proofs Go.RowKit
def zbt (x:List Term):Bool×List Term:=zPi zbG x
def zeu:Ab.Spec ty:=zu (cx:=base) (zf (aOwn 42) (zf (zg (vFn 71 vNil)) aNil)) fun x=>((zbt x.1).1,⟨[],[some ⟨42,(zbt x.1).2⟩]⟩)
set_option maxHeartbeats 1000000 in
theorem zob:Sound Tryz.prog base 111 zeu where
 enters:=Tryz.call111
 calls:=fun avs r hsp w F vs hF ha hsep=>by
  unfold zeu zu at hsp
  split at hsp
  ·rename_i x hx
   simp only [Option.some.injEq,Prod.mk.injEq] at hsp
   obtain ⟨hpre,rfl⟩:=hsp
   have hk:=(zf (aOwn 42) (zf (zg (vFn 71 vNil)) aNil):AL base _).kind vs avs x hx
   have ha':=(zf (aOwn 42) (zf (zg (vFn 71 vNil)) aNil):AL base _).ok Tryz.prog zD F w vs avs x hx ha
   rw [hk] at hsep ⊢
   clear hk hx ha
   obtain ⟨l0,c,u0⟩:=x
   obtain ⟨l,rfl⟩:∃ l:List Term,l=l0:=⟨l0,rfl⟩
   obtain ⟨v,vs',rfl,hv,hv'⟩:=ha'.inv
   obtain ⟨fv,vs'',rfl,hfv,h0⟩:=hv'.inv
   obtain rfl:=h0.nil_left.1
   have hsl:∃ p cap,v=.slice p l.length cap:=by
    obtain ⟨⟨xs,hown,_⟩,_⟩:=(show zc0 base F w v 42 l∧∀ b,z6 v=some b→¬ F b from hv)
    rcases hown.2 with ⟨h1,h2⟩ | ⟨g0,cap,cur,h1,_⟩
    ·exact ⟨none,0,by rw [h1,show l.length=0 from h2]⟩
    ·exact ⟨_,cap,h1⟩
   have hok:SortOK (α:=Term) zbG l:=of_decide_eq_true (p:=SortOK (α:=Term) zbG l) hpre
   have hlen:l.length<4611686018427387904:=hok.size
   have hbl:Lib.bitLen l.length<4611686018427387904:=Nat.lt_of_le_of_lt (Lib.bitLen_le l.length 62 (by omega) (by omega)) (by omega)
   have hpp:(zjk l 0 (l.length:Int) ((Lib.bitLen l.length:Nat):Int)).1=true:=by
    show (decide (SortOK (α:=Term) zbG l)&&(decide ((0:Int)=0)&&(decide ((l.length:Int)=l.length)&&(decide ((0:Int)≤((Lib.bitLen l.length:Nat):Int))&&decide (((Lib.bitLen l.length:Nat):Int)<4611686018427387904)))))=true
    simp only [Bool.and_eq_true,decide_eq_true_eq]
    exact ⟨hok,trivial,trivial,by omega,by omega⟩
   have hp:=(zrT).calls [.own 42 l,.pure (.lit (.int .i64 0)),.pure (.lit (.int .i64 (l.length:Int))),.pure (.lit (.int .i64 ((Lib.bitLen l.length:Nat):Int))),.pure (.fn 71 [])] ⟨[],[some ⟨42,(zbt l).2⟩]⟩
    (by rw [← hpp]; kernel_rfl) w F [v,.int .i64 0,.int .i64 (l.length:Int),.int .i64 ((Lib.bitLen l.length:Nat):Int),fv] hF (.cons hv (.cons (Rep.lit _) (.cons (Rep.lit _) (.cons (Rep.lit _) (.cons hfv .nil))))) hsep
   replace hp:Calls Tryz.prog 155 #[v,.int .i64 0,.int .i64 (l.length:Int),.int .i64 ((Lib.bitLen l.length:Nat):Int),fv] w fun e w'=>∃ u,e=.returned u∧Post base F w [v] ⟨[],[some ⟨42,(zbt l).2⟩]⟩ u w':=hp
   show Calls Tryz.prog 111 #[v,fv] w fun e w'=>∃ u,e=.returned u∧Post base F w [v] ⟨[],[some ⟨42,(zbt l).2⟩]⟩ u w'
   have hb:Calls Tryz.prog 156 #[.int .u64 (l.length:Int)] w fun e w'=>e=.returned (.int .i64 ((Lib.bitLen l.length:Nat):Int))∧w'=w:=by
    have h:=Any.bits_Len Go.Proofs.Tryz.lays125 (l.length:Int) w (by omega) (by omega)
    rwa [Int.toNat_natCast] at h
   have wr:IntKind.u64.wrap (l.length:Int)=l.length:=by simp [IntKind.wrap,IntKind.bits,IntKind.signed]; omega
   generalize (zbt l).2=res at hp ⊢
   generalize hn:l.length=m at *
   generalize Lib.bitLen m=bl at *
   clear hpp hv hfv hsep hok hpre hF
   obtain ⟨p,cap,rfl⟩:=hsl
   clear hn
   go_enter Tryz.func111,Tryz.ntmps111
   go_wp2_with (first | (go_at_call 156; refine hb.mono ?_; rintro e w' ⟨rfl,rfl⟩) | (go_at_call 155; refine hp.mono ?_; rintro e w' ⟨u,rfl,hpost⟩; obtain rfl:=hpost.unit))
   go_end0
   exact ⟨_,rfl,hpost⟩
  ·cases hsp
end Go.Proofs.YtnolcogncjijpaaGreatDoor
namespace Go.Proofs.YtnolcogncjijpaaGreatDoor
open Go Go.Ab
abbrev ttTannotationcollect0:=Unit×Unit×List Term×Int×Int×Unit
abbrev ttTannotationcollect1:=(List (_root_.Go.Value×Int))×List Term×Unit
def ziG (t11:List Term) (t12:Int) (t13:Int) (at_:List (_root_.Go.Value×Int)) (out_:List Term):Wy ttTannotationcollect0 ttTannotationcollect1 (List Term):=.i (decide (t13<t12)) (.i (decide (0≤t13)&&decide (t13<Int.ofNat t11.length)) (.bn (zm5 (t11.getD t13.toNat default).Factors) fun r0=>.i (zQ6 (Value.string r0) at_) (.i (decide (0≤(zwc (Value.string r0) at_).getD 0)&&decide ((zwc (Value.string r0) at_).getD 0<Int.ofNat out_.length)) (.i (decide (0≤(zwc (Value.string r0) at_).getD 0)&&decide ((zwc (Value.string r0) at_).getD 0<Int.ofNat out_.length)) (.i (decide (Int.toNat ((zwc (Value.string r0) at_).getD 0)<out_.length)) (.h ((),(),t11,t12,(IntKind.i64.wrap (t13+1)),()) (at_,(out_.set (Int.toNat ((zwc (Value.string r0) at_).getD 0)) (TermOf.mk (if 1152921504606846976<IntKind.i64.wrap ((out_.getD (Int.toNat ((zwc (Value.string r0) at_).getD 0)) default).Coeff+(t11.getD t13.toNat default).Coeff) then 1152921504606846976 else IntKind.i64.wrap ((out_.getD (Int.toNat ((zwc (Value.string r0) at_).getD 0)) default).Coeff+(t11.getD t13.toNat default).Coeff)) (out_.getD (Int.toNat ((zwc (Value.string r0) at_).getD 0)) default).Factors)),())) .d) .d) .d) (.i (decide ((out_.length+[t11.getD t13.toNat default].length)*32≤zK)) (.h ((),(),t11,t12,(IntKind.i64.wrap (t13+1)),()) ((zQW (Value.string r0) (Int.ofNat out_.length) at_),(out_++[t11.getD t13.toNat default]),())) .d)) .d) (.k out_)
def zlv (x:ttTannotationcollect0) (y:ttTannotationcollect1):Wy ttTannotationcollect0 ttTannotationcollect1 (List Term):=ziG x.2.2.1 x.2.2.2.1 x.2.2.2.2.1 y.1 y.2.1
def zo6 (n:Nat) (t11:List Term) (t12:Int) (t13:Int) (at_:List (_root_.Go.Value×Int)) (out_:List Term):Bool×List Term:=zQ (zlv) default n ((),(),t11,t12,t13,()) (at_,out_,())
def zt7 (r:List Term):LTree ty:=.done (.exit 0) [.own 208] [.arr 42 r false]
def zvB:LL ty ttTannotationcollect0:=zb (lMp 208) (zb (lOwn 209) (zb (lSl 42) (zb (lInt .i64) (zb (lInt .i64) zX))))
def zve:BL ty ttTannotationcollect1:=bMp 9 3 false (bArr 42 false (bNil))
def zuo (x:ttTannotationcollect0) (y:ttTannotationcollect1):Nat:=(x.2.2.1.length+Int.toNat x.2.2.2.1+Int.toNat x.2.2.2.2.1+y.1.length+y.2.1.length+1)
def zvx:Cx ty:=mkCx base0 52 [(71,annotation_compareLists_spec),(110,annotation_formatFactors_spec),(111,zeu)] [(111,[true,false])] [(4,[(3,.keep),(4,.own 42),(11,.keep),(12,.keep),(13,.keep)])] [(4,1,[(4,.keep)])] [(4,spW zvB zve (zlv) default zt7 zuo)] []
theorem zDV:zbv zvx (lp (body Tryz.f54) 0):=zbc (id:=4) (V:=zvB) (B:=zve) (W:=zlv) (z:=default) (tr:=zt7) (m:=zuo)
def zp7 (terms:List Term):Wy0 (List Term):=.bn (zo6 (terms.length+(Int.ofNat terms.length).toNat +Int.toNat 0+0+0+1) terms (Int.ofNat terms.length) 0 [] []) fun r3=>.bn (zbt r3) fun r2=>.k r2
def zgW (terms:List Term):Bool×List Term:=(zp7 terms).fin default
def zuk (r:List Term):ARes ty:=⟨[.own 42 r],[]⟩
def zwk:AL base0 (List Term×Unit):=zf (zg (vSl 42)) aNil
def znB:Ab.Spec ty:=zu zwk fun x=>((zgW x.1).1,zuk (zgW x.1).2)
theorem zr3:Sound Tryz.prog base0 54 znB:=
 zH (cx':=zvx) zT zh3 zN (zG ⟨zjX.nodr,zwF,zob.nodr,trivial⟩) Tryz.call54 Tryz.func54 (c:=body Tryz.f54) (by kernel_rfl) (zj (l:=[lp (body Tryz.f54) 0]) (by kernel_rfl) ⟨zDV,trivial⟩) (sg:=⟨[.own 42],[]⟩) (A:=zwk) (res:=zuk) (W:=fun x=>zp7 x.1) (z:=default)
def zvC (r:List Term):ARes ty:=⟨[.own 42 r],[]⟩
def zxv:AL base (List Term×Unit):=zf (zg (vSl 42)) aNil
def zkm (F:List Term→Bool×List Term):Ab.Spec ty:=zu zxv fun x=>((F x.1).1,zvC (F x.1).2)
def zru (r:Atom):ARes ty:=⟨[.pure (.agg (base.enc 48 r))],[]⟩
def ztj:AL base (Atom×Unit):=zf (zg (vAgg 48)) aNil
def zj8 (F:Atom→Bool×Atom):Ab.Spec ty:=zu ztj fun x=>((F x.1).1,zru (F x.1).2)
def zea:Cx ty:={ base with nt:=8 }
def zey (s:List Factor):Bool×List Factor:=(decide (s.length*128≤zK),s)
def zjh:Ab.Spec ty:=zu (cx:=base) (zf (zg (vSl 50)) aNil) fun x=>((zey x.1).1,⟨[.own 50 (zey x.1).2],[]⟩)
theorem zqy:zix zea Tryz.f117 (body Tryz.f117) ⟨[.own 50],[]⟩ [.pure (.lit (.slice none 0 0))]=some ⟨[.own 50 []],[]⟩:=by kernel_rfl
theorem zpE (p:Addr) (c:Nat):zix zea Tryz.f117 (body Tryz.f117) ⟨[.own 50],[]⟩ [.pure (.lit (.slice (some p) 0 c))]=some ⟨[.own 50 []],[]⟩:=by kernel_rfl
theorem zqe (l:List Factor):zix zea Tryz.f117 (body Tryz.f117) ⟨[.own 50],[]⟩ [.pure (.sl 50 l)]=bif !l.isEmpty then bif decide ((([]:List (ty 50)).length+l.length)*128≤zK) then some ⟨[.own 50 l],[]⟩ else none else none:=by kernel_rfl
theorem zpG:Sound Tryz.prog base 117 zjh:=
 zDL (cx':=zea) (bytes:=128) zT zD ⟨⟨rfl,rfl,rfl,rfl,rfl,rfl⟩,rfl⟩ (fun g s h=>by cases h) Tryz.call117 Tryz.func117 (c:=body Tryz.f117) (by kernel_rfl) (zj (l:=[]) (by kernel_rfl) trivial) zqy zpE zqe (by kernel_rfl)
abbrev ttTannotationcopied0:=Unit×Unit×Unit×List Term×Int×Int×Int×Int×Unit
abbrev ttTannotationcopied1:=List Term×Term×List Factor×Unit
abbrev ttTannotationcopied2:=List Term×Int×Int×List Term×Term×List Factor
abbrev ttTannotationcopied3:=Unit×List Term×Int×Int×Unit
abbrev ttTannotationcopied4:=List Term×Unit
def zis (zx:Atom→Bool×Atom) (t8:List Term) (t9:Int) (t10:Int) (t18:Int) (t19:Int) (out_:List Term) (t:Term) (factors:List Factor):Wy ttTannotationcopied0 ttTannotationcopied1 ttTannotationcopied2:=.i (decide (t19<t18)) (.i (decide (0≤t19)&&decide (t19<Int.ofNat factors.length)) (.bn (zx (Atom.mk (factors.getD t19.toNat default).Atom.Kind (factors.getD t19.toNat default).Atom.Row (factors.getD t19.toNat default).Atom.Args (factors.getD t19.toNat default).Atom.Func (factors.getD t19.toNat default).Atom.Items (factors.getD t19.toNat default).Atom.Op (factors.getD t19.toNat default).Atom.Bound)) fun r2=>.i (decide (0≤t19)&&decide (t19<Int.ofNat factors.length)) (.i (decide (t19.toNat<factors.length)) (.h ((),(),(),t8,t9,t10,t18,(IntKind.i64.wrap (t19+1)),()) (out_,t,(factors.set t19.toNat (FactorOf.mk (Atom.mk r2.Kind r2.Row r2.Args r2.Func r2.Items r2.Op r2.Bound) (factors.getD t19.toNat default).Exp)),())) .d) .d) .d) (.k (t8,t9,t10,out_,t,factors))
def zkF (zx:Atom→Bool×Atom) (x:ttTannotationcopied0) (y:ttTannotationcopied1):Wy ttTannotationcopied0 ttTannotationcopied1 ttTannotationcopied2:=zis zx x.2.2.2.1 x.2.2.2.2.1 x.2.2.2.2.2.1 x.2.2.2.2.2.2.1 x.2.2.2.2.2.2.2.1 y.1 y.2.1 y.2.2.1
def zt3 (zx:Atom→Bool×Atom) (n:Nat) (t8:List Term) (t9:Int) (t10:Int) (t18:Int) (t19:Int) (out_:List Term) (t:Term) (factors:List Factor):Bool×ttTannotationcopied2:=zQ (zkF zx) default n ((),(),(),t8,t9,t10,t18,t19,()) (out_,t,factors,())
def ztu (r:ttTannotationcopied2):LTree ty:=.done (.exit 2) [.own 168,.ptr 169 0,.own 170,.sl 42 r.1,.lit (.int .i64 r.2.1),.lit (.int .i64 r.2.2.1)] [.arr 42 r.2.2.2.1 false,.box (base.enc 42 r.2.2.2.2.1) false,.arr 50 r.2.2.2.2.2 false]
def zua:LL ty ttTannotationcopied0:=zb (lOwn 168) (zb (zrG 169 0) (zb (lOwn 170) (zb (lSl 42) (zb (lInt .i64) (zb (lInt .i64) (zb (lInt .i64) (zb (lInt .i64) zX)))))))
def zt9:BL ty ttTannotationcopied1:=bArr 42 false (bBox (zuG (fun x=>(⟨x.1,x.2.1⟩:Term)) (fun x=>(x.Coeff,x.Factors,())) (fun _=>rfl) (zb (lInt .i64) (zb (lSl 50) zX))) false (bArr 50 false (bNil)))
def ziq (zx:Atom→Bool×Atom) (t8:List Term) (t9:Int) (t10:Int) (out_:List Term):Wy ttTannotationcopied3 ttTannotationcopied4 (List Term):=.i (decide (t10<t9)) (.i (decide (0≤t10)&&decide (t10<Int.ofNat t8.length)) (.bn (zey (t8.getD t10.toNat default).Factors) fun r5=>.bn (zt3 zx (t8.length+t9.toNat +t10.toNat +(Int.ofNat r5.length).toNat +Int.toNat 0+out_.length+(t8.getD t10.toNat default).Factors.length+r5.length+1) t8 t9 t10 (Int.ofNat r5.length) 0 out_ (t8.getD t10.toNat default) r5) fun r4=>.i (decide ((r4.2.2.2.1.length+[TermOf.mk r4.2.2.2.2.1.Coeff r4.2.2.2.2.2].length)*32≤zK)) (.h ((),(r4.1),(r4.2.1),(IntKind.i64.wrap (r4.2.2.1+1)),()) ((r4.2.2.2.1++[TermOf.mk r4.2.2.2.2.1.Coeff r4.2.2.2.2.2]),())) .d) .d) (.k out_)
def zkP (zx:Atom→Bool×Atom) (x:ttTannotationcopied3) (y:ttTannotationcopied4):Wy ttTannotationcopied3 ttTannotationcopied4 (List Term):=ziq zx x.2.1 x.2.2.1 x.2.2.2.1 y.1
def zus (zx:Atom→Bool×Atom) (n:Nat) (t8:List Term) (t9:Int) (t10:Int) (out_:List Term):Bool×List Term:=zQ (zkP zx) default n ((),t8,t9,t10,()) (out_,())
def ztz (r:List Term):LTree ty:=.done (.exit 0) [.own 168] [.arr 42 r false]
def zux:LL ty ttTannotationcopied3:=zb (lOwn 168) (zb (lSl 42) (zb (lInt .i64) (zb (lInt .i64) zX)))
def zuu:BL ty ttTannotationcopied4:=bArr 42 false (bNil)
def ztf (x:ttTannotationcopied0) (y:ttTannotationcopied1):Nat:=(x.2.2.2.1.length+Int.toNat x.2.2.2.2.1+Int.toNat x.2.2.2.2.2.1+Int.toNat x.2.2.2.2.2.2.1+Int.toNat x.2.2.2.2.2.2.2.1+y.1.length+y.2.1.Factors.length+y.2.2.1.length+1)
def ztx (x:ttTannotationcopied3) (y:ttTannotationcopied4):Nat:=(x.2.1.length+Int.toNat x.2.2.1+Int.toNat x.2.2.2.1+y.1.length+1)
def zoz (zx:Atom→Bool×Atom):Cx ty:=mkCx base 42 [(117,zjh),(118,(zj8 zx))] [] [(3,[(3,.own 42),(8,.keep),(9,.keep),(10,.keep)]),(7,[(3,.keep),(5,.keep),(6,.keep),(8,.keep),(9,.keep),(10,.keep),(18,.keep),(19,.keep)])] [(3,1,[(3,.keep)]),(7,3,[(3,.keep),(5,.keep),(6,.keep),(8,.keep),(9,.keep),(10,.keep)])] [(7,spW zua zt9 (zkF zx) default ztu ztf),(3,spW zux zuu (zkP zx) default ztz ztx)] []
theorem zCM (zx:Atom→Bool×Atom):zbv (zoz zx) (lp (body Tryz.f61) 1):=zbc (id:=7) (V:=zua) (B:=zt9) (W:=zkF zx) (z:=default) (tr:=ztu) (m:=ztf)
theorem zCJ (zx:Atom→Bool×Atom):zbv (zoz zx) (lp (body Tryz.f61) 0):=zbc (id:=3) (V:=zux) (B:=zuu) (W:=zkP zx) (z:=default) (tr:=ztz) (m:=ztx)
def zo1 (zx:Atom→Bool×Atom) (a:List Term):Wy0 (List Term):=.bn (zus zx (a.length+(Int.ofNat a.length).toNat +Int.toNat 0+0+1) a (Int.ofNat a.length) 0 []) fun r8=>.k r8
def zki (zx:Atom→Bool×Atom) (a:List Term):Bool×List Term:=(zo1 zx a).fin default
theorem zAI (zx:Atom→Bool×Atom) (zA4:Sound Tryz.prog base 118 (zj8 zx)):Sound Tryz.prog base 61 (zkm (zki zx)):=
 zH (cx':=(zoz zx)) zT zD zN (zG ⟨zpG,zA4,trivial⟩) Tryz.call61 Tryz.func61 (c:=body Tryz.f61) (by kernel_rfl) (zj (l:=[lp (body Tryz.f61) 0,lp (body Tryz.f61) 1]) (by kernel_rfl) ⟨zCJ zx,zCM zx,trivial⟩) (sg:=⟨[.own 42],[]⟩) (A:=zxv) (res:=zvC) (W:=fun x=>zo1 zx x.1) (z:=default)
def zcS:Cx ty:={ base with nt:=8 }
def zdh (s:List (List Term)):Bool×List (List Term):=(decide (s.length*24≤zK),s)
def zgK:Ab.Spec ty:=zu (cx:=base) (zf (zg (vSl 23)) aNil) fun x=>((zdh x.1).1,⟨[.own 23 (zdh x.1).2],[]⟩)
theorem znv:zix zcS Tryz.f159 (body Tryz.f159) ⟨[.own 23],[]⟩ [.pure (.lit (.slice none 0 0))]=some ⟨[.own 23 []],[]⟩:=by kernel_rfl
theorem zmQ (p:Addr) (c:Nat):zix zcS Tryz.f159 (body Tryz.f159) ⟨[.own 23],[]⟩ [.pure (.lit (.slice (some p) 0 c))]=some ⟨[.own 23 []],[]⟩:=by kernel_rfl
theorem zm3 (l:List (List Term)):zix zcS Tryz.f159 (body Tryz.f159) ⟨[.own 23],[]⟩ [.pure (.sl 23 l)]=bif !l.isEmpty then bif decide ((([]:List (ty 23)).length+l.length)*24≤zK) then some ⟨[.own 23 l],[]⟩ else none else none:=by kernel_rfl
theorem zmJ:Sound Tryz.prog base 159 zgK:=
 zDL (cx':=zcS) (bytes:=24) zT zD ⟨⟨rfl,rfl,rfl,rfl,rfl,rfl⟩,rfl⟩ (fun g s h=>by cases h) Tryz.call159 Tryz.func159 (c:=body Tryz.f159) (by kernel_rfl) (zj (l:=[]) (by kernel_rfl) trivial) znv zmQ zm3 (by kernel_rfl)
def zdn:Cx ty:={ base with nt:=8 }
def zd1 (s:List Weighted):Bool×List Weighted:=(decide (s.length*56≤zK),s)
def zit:Ab.Spec ty:=zu (cx:=base) (zf (zg (vSl 52)) aNil) fun x=>((zd1 x.1).1,⟨[.own 52 (zd1 x.1).2],[]⟩)
theorem zoR:zix zdn Tryz.f160 (body Tryz.f160) ⟨[.own 52],[]⟩ [.pure (.lit (.slice none 0 0))]=some ⟨[.own 52 []],[]⟩:=by kernel_rfl
theorem zok (p:Addr) (c:Nat):zix zdn Tryz.f160 (body Tryz.f160) ⟨[.own 52],[]⟩ [.pure (.lit (.slice (some p) 0 c))]=some ⟨[.own 52 []],[]⟩:=by kernel_rfl
theorem zov (l:List Weighted):zix zdn Tryz.f160 (body Tryz.f160) ⟨[.own 52],[]⟩ [.pure (.sl 52 l)]=bif !l.isEmpty then bif decide ((([]:List (ty 52)).length+l.length)*56≤zK) then some ⟨[.own 52 l],[]⟩ else none else none:=by kernel_rfl
theorem zog:Sound Tryz.prog base 160 zit:=
 zDL (cx':=zdn) (bytes:=56) zT zD ⟨⟨rfl,rfl,rfl,rfl,rfl,rfl⟩,rfl⟩ (fun g s h=>by cases h) Tryz.call160 Tryz.func160 (c:=body Tryz.f160) (by kernel_rfl) (zj (l:=[]) (by kernel_rfl) trivial) zoR zok zov (by kernel_rfl)
abbrev ttTannotationcopiedAtom0:=Unit×Unit×Int×Int×Unit
abbrev ttTannotationcopiedAtom1:=(Int×Int×Int×Unit×Int×List Weighted×Int×Int×Int×ByteArray×Unit)×(Int×Int×Int×Unit×Int×Unit×Int×Int×Int×ByteArray×Unit)×List (List Term)×Unit
abbrev ttTannotationcopiedAtom2:=Int×Int×Int×Int×List Weighted×Int×Int×Int×ByteArray×Int×Int×Int×Int×Int×Int×Int×ByteArray×List (List Term)
abbrev ttTannotationcopiedAtom3:=(Int×Int×Int×Unit×Int×Unit×Int×Int×Int×ByteArray×Unit)×(Int×Int×Int×Unit×Int×Unit×Int×Int×Int×ByteArray×Unit)×List (List Term)×List Weighted×Unit
abbrev ttTannotationcopiedAtom4:=Int×Int×Int×Int×Int×Int×Int×ByteArray×Int×Int×Int×Int×Int×Int×Int×ByteArray×List (List Term)×List Weighted
def zfq (zJ:List Term→Bool×List Term) (t11:Int) (t12:Int) (x_0:Int) (x_1:Int) (x_2:Int) (x_3:Int) (x_4:List Weighted) (x_5:Int) (x_6:Int) (x_7:Int) (x_8:ByteArray) (t2_0:Int) (t2_1:Int) (t2_2:Int) (t2_3:Int) (t2_4:Int) (t2_5:Int) (t2_6:Int) (t2_7:ByteArray) (b2:List (List Term)):Wy ttTannotationcopiedAtom0 ttTannotationcopiedAtom1 ttTannotationcopiedAtom2:=.i (decide (t12<t11)) (.i (decide (0≤t12)&&decide (t12<Int.ofNat b2.length)) (.bn (zJ (b2.getD t12.toNat default)) fun r0=>.i (decide (0≤t12)&&decide (t12<Int.ofNat b2.length)) (.i (decide (t12.toNat<b2.length)) (.h ((),(),t11,(IntKind.i64.wrap (t12+1)),()) ((x_0,x_1,x_2,(),x_3,x_4,x_5,x_6,x_7,x_8,()),(t2_0,t2_1,t2_2,(),t2_3,(),t2_4,t2_5,t2_6,t2_7,()),(b2.set t12.toNat r0),())) .d) .d) .d) (.k (x_0,x_1,x_2,x_3,x_4,x_5,x_6,x_7,x_8,t2_0,t2_1,t2_2,t2_3,t2_4,t2_5,t2_6,t2_7,b2))
def ziA (zJ:List Term→Bool×List Term) (x:ttTannotationcopiedAtom0) (y:ttTannotationcopiedAtom1):Wy ttTannotationcopiedAtom0 ttTannotationcopiedAtom1 ttTannotationcopiedAtom2:=zfq zJ x.2.2.1 x.2.2.2.1 y.1.1 y.1.2.1 y.1.2.2.1 y.1.2.2.2.2.1 y.1.2.2.2.2.2.1 y.1.2.2.2.2.2.2.1 y.1.2.2.2.2.2.2.2.1 y.1.2.2.2.2.2.2.2.2.1 y.1.2.2.2.2.2.2.2.2.2.1 y.2.1.1 y.2.1.2.1 y.2.1.2.2.1 y.2.1.2.2.2.2.1 y.2.1.2.2.2.2.2.2.1 y.2.1.2.2.2.2.2.2.2.1 y.2.1.2.2.2.2.2.2.2.2.1 y.2.1.2.2.2.2.2.2.2.2.2.1 y.2.2.1
def zqC (zJ:List Term→Bool×List Term) (n:Nat) (t11:Int) (t12:Int) (x_0:Int) (x_1:Int) (x_2:Int) (x_3:Int) (x_4:List Weighted) (x_5:Int) (x_6:Int) (x_7:Int) (x_8:ByteArray) (t2_0:Int) (t2_1:Int) (t2_2:Int) (t2_3:Int) (t2_4:Int) (t2_5:Int) (t2_6:Int) (t2_7:ByteArray) (b2:List (List Term)):Bool×ttTannotationcopiedAtom2:=zQ (ziA zJ) default n ((),(),t11,t12,()) ((x_0,x_1,x_2,(),x_3,x_4,x_5,x_6,x_7,x_8,()),(t2_0,t2_1,t2_2,(),t2_3,(),t2_4,t2_5,t2_6,t2_7,()),b2,())
def zpL (r:ttTannotationcopiedAtom2):LTree ty:=.done (.exit 0) [.ptr 200 0,.ptr 201 0] [.box ([.lit (.int .i64 r.1),.lit (.int .i64 r.2.1),.lit (.int .i64 r.2.2.1),.own 202,.lit (.int .i64 r.2.2.2.1),.sl 52 r.2.2.2.2.1,.lit (.int .i64 r.2.2.2.2.2.1),.lit (.int .i64 r.2.2.2.2.2.2.1),.lit (.int .i64 r.2.2.2.2.2.2.2.1),.lit (.string r.2.2.2.2.2.2.2.2.1)]) false,.box ([.lit (.int .i64 r.2.2.2.2.2.2.2.2.2.1),.lit (.int .i64 r.2.2.2.2.2.2.2.2.2.2.1),.lit (.int .i64 r.2.2.2.2.2.2.2.2.2.2.2.1),.lit (.slice none 0 0),.lit (.int .i64 r.2.2.2.2.2.2.2.2.2.2.2.2.1),.lit (.slice none 0 0),.lit (.int .i64 r.2.2.2.2.2.2.2.2.2.2.2.2.2.1),.lit (.int .i64 r.2.2.2.2.2.2.2.2.2.2.2.2.2.2.1),.lit (.int .i64 r.2.2.2.2.2.2.2.2.2.2.2.2.2.2.2.1),.lit (.string r.2.2.2.2.2.2.2.2.2.2.2.2.2.2.2.2.1)]) false,.arr 23 r.2.2.2.2.2.2.2.2.2.2.2.2.2.2.2.2.2 false]
def zqY:LL ty ttTannotationcopiedAtom0:=zb (zrG 200 0) (zb (zrG 201 0) (zb (lInt .i64) (zb (lInt .i64) zX)))
def zqA:BL ty ttTannotationcopiedAtom1:=bBox (zb (lInt .i64) (zb (lInt .i64) (zb (lInt .i64) (zb (lOwn 202) (zb (lInt .i64) (zb (lSl 52) (zb (lInt .i64) (zb (lInt .i64) (zb (lInt .i64) (zb lStr zX)))))))))) false (bBox (zb (lInt .i64) (zb (lInt .i64) (zb (lInt .i64) (zb lNil (zb (lInt .i64) (zb lNil (zb (lInt .i64) (zb (lInt .i64) (zb (lInt .i64) (zb lStr zX)))))))))) false (bArr 23 false (bNil)))
def zfo (zJ:List Term→Bool×List Term) (t32:Int) (t33:Int) (x_0:Int) (x_1:Int) (x_2:Int) (x_3:Int) (x_4:Int) (x_5:Int) (x_6:Int) (x_7:ByteArray) (t2_0:Int) (t2_1:Int) (t2_2:Int) (t2_3:Int) (t2_4:Int) (t2_5:Int) (t2_6:Int) (t2_7:ByteArray) (b2:List (List Term)) (b3:List Weighted):Wy ttTannotationcopiedAtom0 ttTannotationcopiedAtom3 ttTannotationcopiedAtom4:=.i (decide (t33<t32)) (.i (decide (0≤t33)&&decide (t33<Int.ofNat b3.length)) (.bn (zJ (b3.getD t33.toNat default).Ann) fun r2=>.i (decide (0≤t33)&&decide (t33<Int.ofNat b3.length)) (.i (decide (t33.toNat<b3.length)) (.h ((),(),t32,(IntKind.i64.wrap (t33+1)),()) ((x_0,x_1,x_2,(),x_3,(),x_4,x_5,x_6,x_7,()),(t2_0,t2_1,t2_2,(),t2_3,(),t2_4,t2_5,t2_6,t2_7,()),b2,(b3.set t33.toNat (WeightedOf.mk (b3.getD t33.toNat default).Value r2)),())) .d) .d) .d) (.k (x_0,x_1,x_2,x_3,x_4,x_5,x_6,x_7,t2_0,t2_1,t2_2,t2_3,t2_4,t2_5,t2_6,t2_7,b2,b3))
def ziv (zJ:List Term→Bool×List Term) (x:ttTannotationcopiedAtom0) (y:ttTannotationcopiedAtom3):Wy ttTannotationcopiedAtom0 ttTannotationcopiedAtom3 ttTannotationcopiedAtom4:=zfo zJ x.2.2.1 x.2.2.2.1 y.1.1 y.1.2.1 y.1.2.2.1 y.1.2.2.2.2.1 y.1.2.2.2.2.2.2.1 y.1.2.2.2.2.2.2.2.1 y.1.2.2.2.2.2.2.2.2.1 y.1.2.2.2.2.2.2.2.2.2.1 y.2.1.1 y.2.1.2.1 y.2.1.2.2.1 y.2.1.2.2.2.2.1 y.2.1.2.2.2.2.2.2.1 y.2.1.2.2.2.2.2.2.2.1 y.2.1.2.2.2.2.2.2.2.2.1 y.2.1.2.2.2.2.2.2.2.2.2.1 y.2.2.1 y.2.2.2.1
def zqE (zJ:List Term→Bool×List Term) (n:Nat) (t32:Int) (t33:Int) (x_0:Int) (x_1:Int) (x_2:Int) (x_3:Int) (x_4:Int) (x_5:Int) (x_6:Int) (x_7:ByteArray) (t2_0:Int) (t2_1:Int) (t2_2:Int) (t2_3:Int) (t2_4:Int) (t2_5:Int) (t2_6:Int) (t2_7:ByteArray) (b2:List (List Term)) (b3:List Weighted):Bool×ttTannotationcopiedAtom4:=zQ (ziv zJ) default n ((),(),t32,t33,()) ((x_0,x_1,x_2,(),x_3,(),x_4,x_5,x_6,x_7,()),(t2_0,t2_1,t2_2,(),t2_3,(),t2_4,t2_5,t2_6,t2_7,()),b2,b3,())
def zpK (r:ttTannotationcopiedAtom4):LTree ty:=.done (.exit 2) [.ptr 200 0,.ptr 201 0] [.box ([.lit (.int .i64 r.1),.lit (.int .i64 r.2.1),.lit (.int .i64 r.2.2.1),.own 202,.lit (.int .i64 r.2.2.2.1),.own 203,.lit (.int .i64 r.2.2.2.2.1),.lit (.int .i64 r.2.2.2.2.2.1),.lit (.int .i64 r.2.2.2.2.2.2.1),.lit (.string r.2.2.2.2.2.2.2.1)]) false,.box ([.lit (.int .i64 r.2.2.2.2.2.2.2.2.1),.lit (.int .i64 r.2.2.2.2.2.2.2.2.2.1),.lit (.int .i64 r.2.2.2.2.2.2.2.2.2.2.1),.lit (.slice none 0 0),.lit (.int .i64 r.2.2.2.2.2.2.2.2.2.2.2.1),.lit (.slice none 0 0),.lit (.int .i64 r.2.2.2.2.2.2.2.2.2.2.2.2.1),.lit (.int .i64 r.2.2.2.2.2.2.2.2.2.2.2.2.2.1),.lit (.int .i64 r.2.2.2.2.2.2.2.2.2.2.2.2.2.2.1),.lit (.string r.2.2.2.2.2.2.2.2.2.2.2.2.2.2.2.1)]) false,.arr 23 r.2.2.2.2.2.2.2.2.2.2.2.2.2.2.2.2.1 false,.arr 52 r.2.2.2.2.2.2.2.2.2.2.2.2.2.2.2.2.2 false]
def zqH:LL ty ttTannotationcopiedAtom0:=zb (zrG 200 0) (zb (zrG 201 0) (zb (lInt .i64) (zb (lInt .i64) zX)))
def zqB:BL ty ttTannotationcopiedAtom3:=bBox (zb (lInt .i64) (zb (lInt .i64) (zb (lInt .i64) (zb (lOwn 202) (zb (lInt .i64) (zb (lOwn 203) (zb (lInt .i64) (zb (lInt .i64) (zb (lInt .i64) (zb lStr zX)))))))))) false (bBox (zb (lInt .i64) (zb (lInt .i64) (zb (lInt .i64) (zb lNil (zb (lInt .i64) (zb lNil (zb (lInt .i64) (zb (lInt .i64) (zb (lInt .i64) (zb lStr zX)))))))))) false (bArr 23 false (bArr 52 false (bNil))))
def zpR (x:ttTannotationcopiedAtom0) (y:ttTannotationcopiedAtom1):Nat:=(Int.toNat x.2.2.1+Int.toNat x.2.2.2.1+Int.toNat y.1.1+Int.toNat y.1.2.1+Int.toNat y.1.2.2.1+Int.toNat y.1.2.2.2.2.1+y.1.2.2.2.2.2.1.length+Int.toNat y.1.2.2.2.2.2.2.1+Int.toNat y.1.2.2.2.2.2.2.2.1+Int.toNat y.1.2.2.2.2.2.2.2.2.1+y.1.2.2.2.2.2.2.2.2.2.1.size+Int.toNat y.2.1.1+Int.toNat y.2.1.2.1+Int.toNat y.2.1.2.2.1+Int.toNat y.2.1.2.2.2.2.1+Int.toNat y.2.1.2.2.2.2.2.2.1+Int.toNat y.2.1.2.2.2.2.2.2.2.1+Int.toNat y.2.1.2.2.2.2.2.2.2.2.1+y.2.1.2.2.2.2.2.2.2.2.2.1.size+y.2.2.1.length+1)
def zp3 (x:ttTannotationcopiedAtom0) (y:ttTannotationcopiedAtom3):Nat:=(Int.toNat x.2.2.1+Int.toNat x.2.2.2.1+Int.toNat y.1.1+Int.toNat y.1.2.1+Int.toNat y.1.2.2.1+Int.toNat y.1.2.2.2.2.1+Int.toNat y.1.2.2.2.2.2.2.1+Int.toNat y.1.2.2.2.2.2.2.2.1+Int.toNat y.1.2.2.2.2.2.2.2.2.1+y.1.2.2.2.2.2.2.2.2.2.1.size+Int.toNat y.2.1.1+Int.toNat y.2.1.2.1+Int.toNat y.2.1.2.2.1+Int.toNat y.2.1.2.2.2.2.1+Int.toNat y.2.1.2.2.2.2.2.2.1+Int.toNat y.2.1.2.2.2.2.2.2.2.1+Int.toNat y.2.1.2.2.2.2.2.2.2.2.1+y.2.1.2.2.2.2.2.2.2.2.2.1.size+y.2.2.1.length+y.2.2.2.1.length+1)
def zlJ (zJ:List Term→Bool×List Term):Cx ty:=mkCx base 50 [(61,(zkm zJ)),(159,zgK),(160,zit)] [] [(3,[(1,.keep),(2,.keep),(11,.keep),(12,.keep)]),(9,[(1,.keep),(2,.keep),(32,.keep),(33,.keep)])] [(3,1,[(1,.keep),(2,.keep)]),(9,3,[(1,.keep),(2,.keep)])] [(3,spW zqY zqA (ziA zJ) default zpL zpR),(9,spW zqH zqB (ziv zJ) default zpK zp3)] []
theorem zyN (zJ:List Term→Bool×List Term):zbv (zlJ zJ) (lp (body Tryz.f118) 0):=zbc (id:=3) (V:=zqY) (B:=zqA) (W:=ziA zJ) (z:=default) (tr:=zpL) (m:=zpR)
theorem zyY (zJ:List Term→Bool×List Term):zbv (zlJ zJ) (lp (body Tryz.f118) 1):=zbc (id:=9) (V:=zqH) (B:=zqB) (W:=ziv zJ) (z:=default) (tr:=zpK) (m:=zp3)
def zml (zJ:List Term→Bool×List Term) (x_:Atom):Wy0 (Atom):=.bn (zdh x_.Args) fun r7=>.bn (zqC zJ ((Int.ofNat r7.length).toNat +Int.toNat 0+x_.Kind.toNat +x_.Row.Table.toNat +x_.Row.Seq.toNat +x_.Func.toNat +x_.Items.length+x_.Op.toNat +x_.Bound.Kind.toNat +x_.Bound.Int.toNat +x_.Bound.Text.size+Int.toNat 0+Int.toNat 0+Int.toNat 0+Int.toNat 0+Int.toNat 0+Int.toNat 0+Int.toNat 0+(ByteArray.mk #[]).size+r7.length+1) (Int.ofNat r7.length) 0 x_.Kind x_.Row.Table x_.Row.Seq x_.Func x_.Items x_.Op x_.Bound.Kind x_.Bound.Int x_.Bound.Text 0 0 0 0 0 0 0 (ByteArray.mk #[]) r7) fun r6=>.bn (zd1 r6.2.2.2.2.1) fun r5=>.bn (zqE zJ ((Int.ofNat r5.length).toNat +Int.toNat 0+r6.1.toNat +r6.2.1.toNat +r6.2.2.1.toNat +r6.2.2.2.1.toNat +r6.2.2.2.2.2.1.toNat +r6.2.2.2.2.2.2.1.toNat +r6.2.2.2.2.2.2.2.1.toNat +r6.2.2.2.2.2.2.2.2.1.size+r6.2.2.2.2.2.2.2.2.2.1.toNat +r6.2.2.2.2.2.2.2.2.2.2.1.toNat +r6.2.2.2.2.2.2.2.2.2.2.2.1.toNat +r6.2.2.2.2.2.2.2.2.2.2.2.2.1.toNat +r6.2.2.2.2.2.2.2.2.2.2.2.2.2.1.toNat +r6.2.2.2.2.2.2.2.2.2.2.2.2.2.2.1.toNat +r6.2.2.2.2.2.2.2.2.2.2.2.2.2.2.2.1.toNat +r6.2.2.2.2.2.2.2.2.2.2.2.2.2.2.2.2.1.size+r6.2.2.2.2.2.2.2.2.2.2.2.2.2.2.2.2.2.length+r5.length+1) (Int.ofNat r5.length) 0 r6.1 r6.2.1 r6.2.2.1 r6.2.2.2.1 r6.2.2.2.2.2.1 r6.2.2.2.2.2.2.1 r6.2.2.2.2.2.2.2.1 r6.2.2.2.2.2.2.2.2.1 r6.2.2.2.2.2.2.2.2.2.1 r6.2.2.2.2.2.2.2.2.2.2.1 r6.2.2.2.2.2.2.2.2.2.2.2.1 r6.2.2.2.2.2.2.2.2.2.2.2.2.1 r6.2.2.2.2.2.2.2.2.2.2.2.2.2.1 r6.2.2.2.2.2.2.2.2.2.2.2.2.2.2.1 r6.2.2.2.2.2.2.2.2.2.2.2.2.2.2.2.1 r6.2.2.2.2.2.2.2.2.2.2.2.2.2.2.2.2.1 r6.2.2.2.2.2.2.2.2.2.2.2.2.2.2.2.2.2 r5) fun r4=>.k (⟨r4.1,(⟨r4.2.1,r4.2.2.1⟩:RowID),r4.2.2.2.2.2.2.2.2.2.2.2.2.2.2.2.2.1,r4.2.2.2.1,r4.2.2.2.2.2.2.2.2.2.2.2.2.2.2.2.2.2,r4.2.2.2.2.1,(⟨r4.2.2.2.2.2.1,r4.2.2.2.2.2.2.1,r4.2.2.2.2.2.2.2.1⟩:Value)⟩:Atom)
def zhE (zJ:List Term→Bool×List Term) (x_:Atom):Bool×Atom:=(zml zJ x_).fin default
theorem zwZ (zJ:List Term→Bool×List Term) (zEc:Sound Tryz.prog base 61 (zkm zJ)):Sound Tryz.prog base 118 (zj8 (zhE zJ)):=
 zH (cx':=(zlJ zJ)) zT zD zN (zG ⟨zEc,zmJ,zog,trivial⟩) Tryz.call118 Tryz.func118 (c:=body Tryz.f118) (by kernel_rfl) (zj (l:=[lp (body Tryz.f118) 0,lp (body Tryz.f118) 1]) (by kernel_rfl) ⟨zyN zJ,zyY zJ,trivial⟩) (sg:=⟨[.pure],[]⟩) (A:=ztj) (res:=zru) (W:=fun x=>zml zJ x.1) (z:=default)
def zAP:Nat→(List Term→Bool×List Term)×(Atom→Bool×Atom)
 | 0=>(fun _=>(false,default),fun _=>(false,default))
 | n+1=>(zki ((zAP n).2),zhE ((zAP n).1))
def zkh (n:Nat):List Term→Bool×List Term:=(zAP n).1
def zj5 (n:Nat):Atom→Bool×Atom:=(zAP n).2
theorem zDR (n:Nat):zkh (n+1)=zki (zj5 n):=rfl
theorem zzX (n:Nat):zj5 (n+1)=zhE (zkh n):=rfl
theorem zH1:∀ n,Sound Tryz.prog base 61 (zkm (zkh n))∧Sound Tryz.prog base 118 (zj8 (zj5 n))
 | 0=>⟨zbH Tryz.call61 (fun _=>rfl),zbH Tryz.call118 (fun _=>rfl)⟩
 | n+1=>by
  have ih:=zH1 n
  exact ⟨zAI _ (ih.2),zwZ _ (ih.1)⟩
def zfR:List Term→Bool×List Term:=zkh 1000
def annotation_copied_spec:Ab.Spec ty:=zkm zfR
theorem zhR:Sound Tryz.prog base 61 annotation_copied_spec:=(zH1 1000).1
def zEd:Cx ty:=mkCx base 9 [(61,annotation_copied_spec),(70,zoB)] [] [] [] [] []
def zqm (a:List Term):Wy0 (List Term×Int):=.bn (zjI a) fun r1=>.i (!r1) (.k ([],6)) (.bn (zfR a) fun r0=>.k (r0,0))
def zdQ (a:List Term):Bool×(List Term×Int):=(zqm a).fin default
def zun (r:List Term×Int):ARes ty:=⟨[.own 42 r.1,.pure (.lit (.int .i64 r.2))],[]⟩
def zv0:AL base (List Term×Unit):=zf (zg (vSl 42)) aNil
def zem:Ab.Spec ty:=zu zv0 fun x=>((zdQ x.1).1,zun (zdQ x.1).2)
theorem zeS:Sound Tryz.prog base 53 zem:=
 zH (cx':=zEd) zT zD zN (zG ⟨zhR,ztv,trivial⟩) Tryz.call53 Tryz.func53 (c:=body Tryz.f53) (by kernel_rfl) (zj (l:=[]) (by kernel_rfl) trivial) (sg:=⟨[.own 42,.pure],[]⟩) (A:=zv0) (res:=zun) (W:=fun x=>zqm x.1) (z:=default)
def zq8:Cx ty:=mkCx base 27 [] [] [] [] [] []
def zgl (n_:Int):Wy0 (List Term):=.i (decide (n_<0)) .d (.i (decide (IntKind.i64.wrap (n_ - IntKind.i64.wrap (0 - 0))>0)) (.i (decide (0<IntKind.i64.wrap (n_ - IntKind.i64.wrap (0 - 0)))&&(decide (IntKind.i64.wrap (n_ - IntKind.i64.wrap (0 - 0))*Int.ofNat 32≤Int.ofNat zK)&&(decide (IntKind.i64.wrap (n_ - IntKind.i64.wrap (0 - 0))≤Int.ofNat zK)&& !Nat.beq 2 0))) (.k (List.take (Int.toNat 0 - Int.toNat 0) (List.replicate (IntKind.i64.wrap (n_ - IntKind.i64.wrap (0 - 0))).toNat (TermOf.mk 0 [])))) .d) (.k []))
def zdr (n_:Int):Bool×List Term:=(zgl n_).fin default
def zjQ (r:List Term):ARes ty:=⟨[.own 42 r],[]⟩
def zkB:AL base (Unit×Int×Unit):=zf (zg zTV) (zf (zg (vInt .i64)) aNil)
def zjg:Ab.Spec ty:=zu zkB fun x=>((zdr x.2.1).1,zjQ (zdr x.2.1).2)
theorem zpF:Sound Tryz.prog base 112 zjg:=
 zH (cx':=zq8) zT zD zN (zG trivial) Tryz.call112 Tryz.func112 (c:=body Tryz.f112) (by kernel_rfl) (zj (l:=[]) (by kernel_rfl) trivial) (sg:=⟨[.own 42],[]⟩) (A:=zkB) (res:=zjQ) (W:=fun x=>zgl x.2.1) (z:=default)
abbrev ttTslicesConcatapiAnnotationapiTerm0:=List (List Term)×Int×List (List Term)×Int×Int×Unit
abbrev ttTslicesConcatapiAnnotationapiTerm1:=List (List Term)×Int
abbrev ttTslicesConcatapiAnnotationapiTerm2:=Unit×List (List Term)×Int×Int×Unit
abbrev ttTslicesConcatapiAnnotationapiTerm3:=List Term×Unit
def zcC (slices:List (List Term)) (size:Int) (t9:List (List Term)) (t10:Int) (t11:Int):Wy ttTslicesConcatapiAnnotationapiTerm0 (Unit) ttTslicesConcatapiAnnotationapiTerm1:=.i (decide (t11<t10)) (.i (decide (0≤t11)&&decide (t11<Int.ofNat t9.length)) (.i (decide (IntKind.i64.wrap (size+Int.ofNat (List.length (t9.getD t11.toNat default)))<0)) .d (.h (slices,(IntKind.i64.wrap (size+Int.ofNat (List.length (t9.getD t11.toNat default)))),t9,t10,(IntKind.i64.wrap (t11+1)),()) ())) .d) (.k (slices,size))
def zdK (x:ttTslicesConcatapiAnnotationapiTerm0) (y:Unit):Wy ttTslicesConcatapiAnnotationapiTerm0 (Unit) ttTslicesConcatapiAnnotationapiTerm1:=zcC x.1 x.2.1 x.2.2.1 x.2.2.2.1 x.2.2.2.2.1
def zjo (n:Nat) (slices:List (List Term)) (size:Int) (t9:List (List Term)) (t10:Int) (t11:Int):Bool×ttTslicesConcatapiAnnotationapiTerm1:=zQ (zdK) default n (slices,size,t9,t10,t11,()) ()
def zi6 (r:ttTslicesConcatapiAnnotationapiTerm1):LTree ty:=.done (.exit 0) [.sl 23 r.1,.lit (.int .i64 r.2)] []
def zjs:LL ty ttTslicesConcatapiAnnotationapiTerm0:=zb (lSl 23) (zb (lInt .i64) (zb (lSl 23) (zb (lInt .i64) (zb (lInt .i64) zX))))
def zjy:BL ty (Unit):=bNil
def zcu (t25:List (List Term)) (t26:Int) (t27:Int) (newslice:List Term):Wy ttTslicesConcatapiAnnotationapiTerm2 ttTslicesConcatapiAnnotationapiTerm3 (List Term):=.i (decide (t27<t26)) (.i (decide (0≤t27)&&decide (t27<Int.ofNat t25.length)) (.i (decide ((newslice.length+List.length (t25.getD t27.toNat default))*32≤zK)) (.h ((),t25,t26,(IntKind.i64.wrap (t27+1)),()) ((newslice++t25.getD t27.toNat default),())) .d) .d) (.k newslice)
def zdC (x:ttTslicesConcatapiAnnotationapiTerm2) (y:ttTslicesConcatapiAnnotationapiTerm3):Wy ttTslicesConcatapiAnnotationapiTerm2 ttTslicesConcatapiAnnotationapiTerm3 (List Term):=zcu x.2.1 x.2.2.1 x.2.2.2.1 y.1
def zi2 (n:Nat) (t25:List (List Term)) (t26:Int) (t27:Int) (newslice:List Term):Bool×List Term:=zQ (zdC) default n ((),t25,t26,t27,()) (newslice,())
def ziL (r:List Term):LTree ty:=.done (.exit 2) [.own 144] [.arr 42 r false]
def zi7:LL ty ttTslicesConcatapiAnnotationapiTerm2:=zb (lOwn 144) (zb (lSl 23) (zb (lInt .i64) (zb (lInt .i64) zX)))
def zi9:BL ty ttTslicesConcatapiAnnotationapiTerm3:=bArr 42 false (bNil)
def zi8 (x:ttTslicesConcatapiAnnotationapiTerm0) (y:Unit):Nat:=(x.1.length+Int.toNat x.2.1+x.2.2.1.length+Int.toNat x.2.2.2.1+Int.toNat x.2.2.2.2.1+1)
def ziI (x:ttTslicesConcatapiAnnotationapiTerm2) (y:ttTslicesConcatapiAnnotationapiTerm3):Nat:=(x.2.1.length+Int.toNat x.2.2.1+Int.toNat x.2.2.2.1+y.1.length+1)
def zfe:Cx ty:=mkCx base 36 [(112,zjg)] [] [(3,[(0,.keep),(3,.keep),(9,.keep),(10,.keep),(11,.keep)]),(11,[(6,.keep),(25,.keep),(26,.keep),(27,.keep)])] [(3,1,[(0,.keep),(3,.keep)]),(11,3,[(6,.keep)])] [(3,spW zjs zjy (zdK) default zi6 zi8),(11,spW zi7 zi9 (zdC) default ziL ziI)] [112]
theorem zpC:zbv zfe (lp (body Tryz.f55) 0):=zbc (id:=3) (V:=zjs) (B:=zjy) (W:=zdK) (z:=default) (tr:=zi6) (m:=zi8)
theorem zpo:zbv zfe (lp (body Tryz.f55) 1):=zbc (id:=11) (V:=zi7) (B:=zi9) (W:=zdC) (z:=default) (tr:=ziL) (m:=ziI)
def zft (slices:List (List Term)):Wy0 (List Term):=.bn (zjo (slices.length+Int.toNat 0+slices.length+(Int.ofNat slices.length).toNat +Int.toNat 0+1) slices 0 slices (Int.ofNat slices.length) 0) fun r2=>.bn (zdr r2.2) fun r1=>.bn (zi2 (r2.1.length+(Int.ofNat r2.1.length).toNat +Int.toNat 0+r1.length+1) r2.1 (Int.ofNat r2.1.length) 0 r1) fun r0=>.k r0
def zc4 (slices:List (List Term)):Bool×List Term:=(zft slices).fin default
def zi4 (r:List Term):ARes ty:=⟨[.own 42 r],[]⟩
def zjO:AL base (List (List Term)×Unit):=zf (zg (vSl 23)) aNil
def ziH:Ab.Spec ty:=zu zjO fun x=>((zc4 x.1).1,zi4 (zc4 x.1).2)
theorem zoS:Sound Tryz.prog base 55 ziH:=
 zH (cx':=zfe) zT zD zN (zG ⟨zpF,trivial⟩) Tryz.call55 Tryz.func55 (c:=body Tryz.f55) (by kernel_rfl) (zj (l:=[lp (body Tryz.f55) 0,lp (body Tryz.f55) 1]) (by kernel_rfl) ⟨zpC,zpo,trivial⟩) (sg:=⟨[.own 42],[]⟩) (A:=zjO) (res:=zi4) (W:=fun x=>zft x.1) (z:=default)
def zJd:Cx ty:=mkCx base0 22 [(31,annotation_Valid_spec),(53,zem),(54,znB),(55,ziH)] [] [] [] [] []
def zuS (a:List Term) (b:List Term):Wy0 (List Term×Int):=.bn (zbP a) fun r4=>.i (!r4) (.k ([],1)) (.bn (zbP b) fun r3=>.i (!r3) (.k ([],1)) (.bn (zc4 [a,b]) fun r2=>.bn (zgW r2) fun r1=>.bn (zdQ r1) fun r0=>.k (r0.1,r0.2)))
def zmH (a:List Term) (b:List Term):Bool×(List Term×Int):=(zuS a b).fin default
def zyT (r:List Term×Int):ARes ty:=⟨[.own 42 r.1,.pure (.lit (.int .i64 r.2))],[]⟩
def zCb:AL base0 (List Term×List Term×Unit):=zf (zg (vSl 42)) (zf (zg (vSl 42)) aNil)
def znl:Ab.Spec ty:=zu zCb fun x=>((zmH x.1 x.2.1).1,zyT (zmH x.1 x.2.1).2)
theorem zql:Sound Tryz.prog base0 13 znl:=
 zH (cx':=zJd) zT zh3 zN (zG ⟨zcx.nodr,zeS.nodr,zr3,zoS.nodr,trivial⟩) Tryz.call13 Tryz.func13 (c:=body Tryz.f13) (by kernel_rfl) (zj (l:=[]) (by kernel_rfl) trivial) (sg:=⟨[.own 42,.pure],[]⟩) (A:=zCb) (res:=zyT) (W:=fun x=>zuS x.1 x.2.1) (z:=default)
def zGO:Cx ty:=mkCx base 9 [] [] [] [] [] []
def zsR (n_:Int):Wy0 (List Term):=.i (decide (n_<1)) (.k []) (.k [TermOf.mk (if 1152921504606846976<n_ then 1152921504606846976 else n_) []])
def zm4 (n_:Int):Bool×List Term:=(zsR n_).fin default
def zwz (r:List Term):ARes ty:=⟨[.own 42 r],[]⟩
def zyC:AL base (Int×Unit):=zf (zg (vInt .i64)) aNil
def zpi:Ab.Spec ty:=zu zyC fun x=>((zm4 x.1).1,zwz (zm4 x.1).2)
theorem zuh:Sound Tryz.prog base 25 zpi:=
 zH (cx':=zGO) zT zD zN (zG trivial) Tryz.call25 Tryz.func25 (c:=body Tryz.f25) (by kernel_rfl) (zj (l:=[]) (by kernel_rfl) trivial) (sg:=⟨[.own 42],[]⟩) (A:=zyC) (res:=zwz) (W:=fun x=>zsR x.1) (z:=default)
def zrP:Cx ty:=mkCx base 27 [] [] [] [] [] []
def zgX (n_:Int):Wy0 (List Factor):=.i (decide (n_<0)) .d (.i (decide (IntKind.i64.wrap (n_ - IntKind.i64.wrap (0 - 0))>0)) (.i (decide (0<IntKind.i64.wrap (n_ - IntKind.i64.wrap (0 - 0)))&&(decide (IntKind.i64.wrap (n_ - IntKind.i64.wrap (0 - 0))*Int.ofNat 128≤Int.ofNat zK)&&(decide (IntKind.i64.wrap (n_ - IntKind.i64.wrap (0 - 0))≤Int.ofNat zK)&& !Nat.beq 11 0))) (.k (List.take (Int.toNat 0 - Int.toNat 0) (List.replicate (IntKind.i64.wrap (n_ - IntKind.i64.wrap (0 - 0))).toNat (FactorOf.mk (Atom.mk 0 (RowID.mk 0 0) [] 0 [] 0 (Value.mk 0 0 (ByteArray.mk #[]))) 0)))) .d) (.k []))
def zdH (n_:Int):Bool×List Factor:=(zgX n_).fin default
def zkl (r:List Factor):ARes ty:=⟨[.own 50 r],[]⟩
def zk6:AL base (Unit×Int×Unit):=zf (zg zTV) (zf (zg (vInt .i64)) aNil)
def zjU:Ab.Spec ty:=zu zk6 fun x=>((zdH x.2.1).1,zkl (zdH x.2.1).2)
theorem zp5:Sound Tryz.prog base 158 zjU:=
 zH (cx':=zrP) zT zD zN (zG trivial) Tryz.call158 Tryz.func158 (c:=body Tryz.f158) (by kernel_rfl) (zj (l:=[]) (by kernel_rfl) trivial) (sg:=⟨[.own 50],[]⟩) (A:=zk6) (res:=zkl) (W:=fun x=>zgX x.2.1) (z:=default)
abbrev ttTslicesConcatLapiFactorapiFactor0:=List (List Factor)×Int×List (List Factor)×Int×Int×Unit
abbrev ttTslicesConcatLapiFactorapiFactor1:=List (List Factor)×Int
abbrev ttTslicesConcatLapiFactorapiFactor2:=Unit×List (List Factor)×Int×Int×Unit
abbrev ttTslicesConcatLapiFactorapiFactor3:=List Factor×Unit
def zcH (slices:List (List Factor)) (size:Int) (t9:List (List Factor)) (t10:Int) (t11:Int):Wy ttTslicesConcatLapiFactorapiFactor0 (Unit) ttTslicesConcatLapiFactorapiFactor1:=.i (decide (t11<t10)) (.i (decide (0≤t11)&&decide (t11<Int.ofNat t9.length)) (.i (decide (IntKind.i64.wrap (size+Int.ofNat (List.length (t9.getD t11.toNat default)))<0)) .d (.h (slices,(IntKind.i64.wrap (size+Int.ofNat (List.length (t9.getD t11.toNat default)))),t9,t10,(IntKind.i64.wrap (t11+1)),()) ())) .d) (.k (slices,size))
def zd2 (x:ttTslicesConcatLapiFactorapiFactor0) (y:Unit):Wy ttTslicesConcatLapiFactorapiFactor0 (Unit) ttTslicesConcatLapiFactorapiFactor1:=zcH x.1 x.2.1 x.2.2.1 x.2.2.2.1 x.2.2.2.2.1
def zjT (n:Nat) (slices:List (List Factor)) (size:Int) (t9:List (List Factor)) (t10:Int) (t11:Int):Bool×ttTslicesConcatLapiFactorapiFactor1:=zQ (zd2) default n (slices,size,t9,t10,t11,()) ()
def zjD (r:ttTslicesConcatLapiFactorapiFactor1):LTree ty:=.done (.exit 0) [.sl 40 r.1,.lit (.int .i64 r.2)] []
def zjS:LL ty ttTslicesConcatLapiFactorapiFactor0:=zb (lSl 40) (zb (lInt .i64) (zb (lSl 40) (zb (lInt .i64) (zb (lInt .i64) zX))))
def zjR:BL ty (Unit):=bNil
def zcz (t25:List (List Factor)) (t26:Int) (t27:Int) (newslice:List Factor):Wy ttTslicesConcatLapiFactorapiFactor2 ttTslicesConcatLapiFactorapiFactor3 (List Factor):=.i (decide (t27<t26)) (.i (decide (0≤t27)&&decide (t27<Int.ofNat t25.length)) (.i (decide ((newslice.length+List.length (t25.getD t27.toNat default))*128≤zK)) (.h ((),t25,t26,(IntKind.i64.wrap (t27+1)),()) ((newslice++t25.getD t27.toNat default),())) .d) .d) (.k newslice)
def zdL (x:ttTslicesConcatLapiFactorapiFactor2) (y:ttTslicesConcatLapiFactorapiFactor3):Wy ttTslicesConcatLapiFactorapiFactor2 ttTslicesConcatLapiFactorapiFactor3 (List Factor):=zcz x.2.1 x.2.2.1 x.2.2.2.1 y.1
def zji (n:Nat) (t25:List (List Factor)) (t26:Int) (t27:Int) (newslice:List Factor):Bool×List Factor:=zQ (zdL) default n ((),t25,t26,t27,()) (newslice,())
def zi3 (r:List Factor):LTree ty:=.done (.exit 2) [.own 144] [.arr 50 r false]
def zju:LL ty ttTslicesConcatLapiFactorapiFactor2:=zb (lOwn 144) (zb (lSl 40) (zb (lInt .i64) (zb (lInt .i64) zX)))
def zjp:BL ty ttTslicesConcatLapiFactorapiFactor3:=bArr 50 false (bNil)
def zjE (x:ttTslicesConcatLapiFactorapiFactor0) (y:Unit):Nat:=(x.1.length+Int.toNat x.2.1+x.2.2.1.length+Int.toNat x.2.2.2.1+Int.toNat x.2.2.2.2.1+1)
def zi5 (x:ttTslicesConcatLapiFactorapiFactor2) (y:ttTslicesConcatLapiFactorapiFactor3):Nat:=(x.2.1.length+Int.toNat x.2.2.1+Int.toNat x.2.2.2.1+y.1.length+1)
def zfr:Cx ty:=mkCx base 36 [(158,zjU)] [] [(3,[(0,.keep),(3,.keep),(9,.keep),(10,.keep),(11,.keep)]),(11,[(6,.keep),(25,.keep),(26,.keep),(27,.keep)])] [(3,1,[(0,.keep),(3,.keep)]),(11,3,[(6,.keep)])] [(3,spW zjS zjR (zd2) default zjD zjE),(11,spW zju zjp (zdL) default zi3 zi5)] [158]
theorem zqd:zbv zfr (lp (body Tryz.f114) 0):=zbc (id:=3) (V:=zjS) (B:=zjR) (W:=zd2) (z:=default) (tr:=zjD) (m:=zjE)
theorem zpD:zbv zfr (lp (body Tryz.f114) 1):=zbc (id:=11) (V:=zju) (B:=zjp) (W:=zdL) (z:=default) (tr:=zi3) (m:=zi5)
def zfW (slices:List (List Factor)):Wy0 (List Factor):=.bn (zjT (slices.length+Int.toNat 0+slices.length+(Int.ofNat slices.length).toNat +Int.toNat 0+1) slices 0 slices (Int.ofNat slices.length) 0) fun r2=>.bn (zdH r2.2) fun r1=>.bn (zji (r2.1.length+(Int.ofNat r2.1.length).toNat +Int.toNat 0+r1.length+1) r2.1 (Int.ofNat r2.1.length) 0 r1) fun r0=>.k r0
def zdd (slices:List (List Factor)):Bool×List Factor:=(zfW slices).fin default
def zjf (r:List Factor):ARes ty:=⟨[.own 50 r],[]⟩
def zke:AL base (List (List Factor)×Unit):=zf (zg (vSl 40)) aNil
def zi1:Ab.Spec ty:=zu zke fun x=>((zdd x.1).1,zjf (zdd x.1).2)
theorem zpA:Sound Tryz.prog base 114 zi1:=
 zH (cx':=zfr) zT zD zN (zG ⟨zp5,trivial⟩) Tryz.call114 Tryz.func114 (c:=body Tryz.f114) (by kernel_rfl) (zj (l:=[lp (body Tryz.f114) 0,lp (body Tryz.f114) 1]) (by kernel_rfl) ⟨zqd,zpD,trivial⟩) (sg:=⟨[.own 50],[]⟩) (A:=zke) (res:=zjf) (W:=fun x=>zfW x.1) (z:=default)
abbrev ttTannotationjoin0:=List Factor×List Factor×Unit×Unit
abbrev ttTannotationjoin1:=List Factor×Unit
abbrev ttTannotationjoin2:=List Factor×List Factor×List Factor
def zrW (a:List Factor) (b:List Factor) (out_:List Factor):Wy ttTannotationjoin0 ttTannotationjoin1 ttTannotationjoin2:=.i (decide (Int.ofNat a.length>0)) (.i (decide (Int.ofNat b.length>0)) (.i (decide ((0:Int)≤(0:Int))&&decide (0<Int.ofNat a.length)) (.i (decide ((0:Int)≤(0:Int))&&decide (0<Int.ofNat b.length)) (.bn (zhG (Atom.mk (a.getD (Int.toNat 0) default).Atom.Kind (a.getD (Int.toNat 0) default).Atom.Row (a.getD (Int.toNat 0) default).Atom.Args (a.getD (Int.toNat 0) default).Atom.Func (a.getD (Int.toNat 0) default).Atom.Items (a.getD (Int.toNat 0) default).Atom.Op (a.getD (Int.toNat 0) default).Atom.Bound) (Atom.mk (b.getD (Int.toNat 0) default).Atom.Kind (b.getD (Int.toNat 0) default).Atom.Row (b.getD (Int.toNat 0) default).Atom.Args (b.getD (Int.toNat 0) default).Atom.Func (b.getD (Int.toNat 0) default).Atom.Items (b.getD (Int.toNat 0) default).Atom.Op (b.getD (Int.toNat 0) default).Atom.Bound)) fun r1=>.i (decide (r1<0)) (.i (decide ((0:Int)≤(0:Int))&&decide (0<Int.ofNat a.length)) (.i (decide ((out_.length+[FactorOf.mk (Atom.mk (a.getD (Int.toNat 0) default).Atom.Kind (a.getD (Int.toNat 0) default).Atom.Row (a.getD (Int.toNat 0) default).Atom.Args (a.getD (Int.toNat 0) default).Atom.Func (a.getD (Int.toNat 0) default).Atom.Items (a.getD (Int.toNat 0) default).Atom.Op (a.getD (Int.toNat 0) default).Atom.Bound) (a.getD (Int.toNat 0) default).Exp].length)*128≤zK)) (.i (decide ((0:Int)≤(1:Int))&&decide (1≤Int.ofNat a.length)&&decide (Int.ofNat a.length≤Int.ofNat a.length)) (.h ((List.take ((Int.ofNat a.length).toNat - Int.toNat 1) (List.drop (Int.toNat 1) a)),b,(),()) ((out_++[FactorOf.mk (Atom.mk (a.getD (Int.toNat 0) default).Atom.Kind (a.getD (Int.toNat 0) default).Atom.Row (a.getD (Int.toNat 0) default).Atom.Args (a.getD (Int.toNat 0) default).Atom.Func (a.getD (Int.toNat 0) default).Atom.Items (a.getD (Int.toNat 0) default).Atom.Op (a.getD (Int.toNat 0) default).Atom.Bound) (a.getD (Int.toNat 0) default).Exp]),())) .d) .d) .d) (.i (decide (r1>0)) (.i (decide ((0:Int)≤(0:Int))&&decide (0<Int.ofNat b.length)) (.i (decide ((out_.length+[FactorOf.mk (Atom.mk (b.getD (Int.toNat 0) default).Atom.Kind (b.getD (Int.toNat 0) default).Atom.Row (b.getD (Int.toNat 0) default).Atom.Args (b.getD (Int.toNat 0) default).Atom.Func (b.getD (Int.toNat 0) default).Atom.Items (b.getD (Int.toNat 0) default).Atom.Op (b.getD (Int.toNat 0) default).Atom.Bound) (b.getD (Int.toNat 0) default).Exp].length)*128≤zK)) (.i (decide ((0:Int)≤(1:Int))&&decide (1≤Int.ofNat b.length)&&decide (Int.ofNat b.length≤Int.ofNat b.length)) (.h (a,(List.take ((Int.ofNat b.length).toNat - Int.toNat 1) (List.drop (Int.toNat 1) b)),(),()) ((out_++[FactorOf.mk (Atom.mk (b.getD (Int.toNat 0) default).Atom.Kind (b.getD (Int.toNat 0) default).Atom.Row (b.getD (Int.toNat 0) default).Atom.Args (b.getD (Int.toNat 0) default).Atom.Func (b.getD (Int.toNat 0) default).Atom.Items (b.getD (Int.toNat 0) default).Atom.Op (b.getD (Int.toNat 0) default).Atom.Bound) (b.getD (Int.toNat 0) default).Exp]),())) .d) .d) .d) (.i (decide ((0:Int)≤(0:Int))&&decide (0<Int.ofNat a.length)) (.bn (zeN (Atom.mk (a.getD (Int.toNat 0) default).Atom.Kind (a.getD (Int.toNat 0) default).Atom.Row (a.getD (Int.toNat 0) default).Atom.Args (a.getD (Int.toNat 0) default).Atom.Func (a.getD (Int.toNat 0) default).Atom.Items (a.getD (Int.toNat 0) default).Atom.Op (a.getD (Int.toNat 0) default).Atom.Bound)) fun r0=>.i (!r0) (.i (decide ((0:Int)≤(0:Int))&&decide (0<Int.ofNat b.length)) (.i (decide ((out_.length+[FactorOf.mk (Atom.mk (a.getD (Int.toNat 0) default).Atom.Kind (a.getD (Int.toNat 0) default).Atom.Row (a.getD (Int.toNat 0) default).Atom.Args (a.getD (Int.toNat 0) default).Atom.Func (a.getD (Int.toNat 0) default).Atom.Items (a.getD (Int.toNat 0) default).Atom.Op (a.getD (Int.toNat 0) default).Atom.Bound) (IntKind.i64.wrap ((a.getD (Int.toNat 0) default).Exp+(b.getD (Int.toNat 0) default).Exp))].length)*128≤zK)) (.i (decide ((0:Int)≤(1:Int))&&decide (1≤Int.ofNat a.length)&&decide (Int.ofNat a.length≤Int.ofNat a.length)) (.i (decide ((0:Int)≤(1:Int))&&decide (1≤Int.ofNat b.length)&&decide (Int.ofNat b.length≤Int.ofNat b.length)) (.h ((List.take ((Int.ofNat a.length).toNat - Int.toNat 1) (List.drop (Int.toNat 1) a)),(List.take ((Int.ofNat b.length).toNat - Int.toNat 1) (List.drop (Int.toNat 1) b)),(),()) ((out_++[FactorOf.mk (Atom.mk (a.getD (Int.toNat 0) default).Atom.Kind (a.getD (Int.toNat 0) default).Atom.Row (a.getD (Int.toNat 0) default).Atom.Args (a.getD (Int.toNat 0) default).Atom.Func (a.getD (Int.toNat 0) default).Atom.Items (a.getD (Int.toNat 0) default).Atom.Op (a.getD (Int.toNat 0) default).Atom.Bound) (IntKind.i64.wrap ((a.getD (Int.toNat 0) default).Exp+(b.getD (Int.toNat 0) default).Exp))]),())) .d) .d) .d) .d) (.i (decide ((out_.length+[FactorOf.mk (Atom.mk (a.getD (Int.toNat 0) default).Atom.Kind (a.getD (Int.toNat 0) default).Atom.Row (a.getD (Int.toNat 0) default).Atom.Args (a.getD (Int.toNat 0) default).Atom.Func (a.getD (Int.toNat 0) default).Atom.Items (a.getD (Int.toNat 0) default).Atom.Op (a.getD (Int.toNat 0) default).Atom.Bound) (a.getD (Int.toNat 0) default).Exp].length)*128≤zK)) (.i (decide ((0:Int)≤(1:Int))&&decide (1≤Int.ofNat a.length)&&decide (Int.ofNat a.length≤Int.ofNat a.length)) (.i (decide ((0:Int)≤(1:Int))&&decide (1≤Int.ofNat b.length)&&decide (Int.ofNat b.length≤Int.ofNat b.length)) (.h ((List.take ((Int.ofNat a.length).toNat - Int.toNat 1) (List.drop (Int.toNat 1) a)),(List.take ((Int.ofNat b.length).toNat - Int.toNat 1) (List.drop (Int.toNat 1) b)),(),()) ((out_++[FactorOf.mk (Atom.mk (a.getD (Int.toNat 0) default).Atom.Kind (a.getD (Int.toNat 0) default).Atom.Row (a.getD (Int.toNat 0) default).Atom.Args (a.getD (Int.toNat 0) default).Atom.Func (a.getD (Int.toNat 0) default).Atom.Items (a.getD (Int.toNat 0) default).Atom.Op (a.getD (Int.toNat 0) default).Atom.Bound) (a.getD (Int.toNat 0) default).Exp]),())) .d) .d) .d)) .d))) .d) .d) (.k (a,b,out_))) (.k (a,b,out_))
def zrQ (x:ttTannotationjoin0) (y:ttTannotationjoin1):Wy ttTannotationjoin0 ttTannotationjoin1 ttTannotationjoin2:=zrW x.1 x.2.1 y.1
def zsb (n:Nat) (a:List Factor) (b:List Factor) (out_:List Factor):Bool×ttTannotationjoin2:=zQ (zrQ) default n (a,b,(),()) (out_,())
def zw5 (r:ttTannotationjoin2):LTree ty:=.done (.exit 0) [.sl 50 r.1,.sl 50 r.2.1,.own 300] [.arr 50 r.2.2 false]
def zyw:LL ty ttTannotationjoin0:=zb (lSl 50) (zb (lSl 50) (zb (lOwn 300) zX))
def zyJ:BL ty ttTannotationjoin1:=bArr 50 false (bNil)
def zxi (x:ttTannotationjoin0) (y:ttTannotationjoin1):Nat:=(x.1.length+x.2.1.length+y.1.length+1)
def zyE:Cx ty:=mkCx base 75 [(72,ziz),(73,annotation_compareAtoms_spec),(114,zi1)] [] [(2,[(0,.keep),(1,.keep),(5,.own 50)])] [(2,1,[(0,.keep),(1,.keep),(5,.keep)])] [(2,spW zyw zyJ (zrQ) default zw5 zxi)] []
theorem zGM:zbv zyE (lp (body Tryz.f59) 0):=zbc (id:=2) (V:=zyw) (B:=zyJ) (W:=zrQ) (z:=default) (tr:=zw5) (m:=zxi)
def ztF (a:List Factor) (b:List Factor):Wy0 (List Factor):=.bn (zsb (a.length+b.length+0+1) a b []) fun r5=>.bn (zdd [r5.2.2,r5.1,r5.2.1]) fun r4=>.k r4
def zlo (a:List Factor) (b:List Factor):Bool×List Factor:=(ztF a b).fin default
def zxg (r:List Factor):ARes ty:=⟨[.own 50 r],[]⟩
def zAk:AL base (List Factor×List Factor×Unit):=zf (zg (vSl 50)) (zf (zg (vSl 50)) aNil)
def zwP:Ab.Spec ty:=zu zAk fun x=>((zlo x.1 x.2.1).1,zxg (zlo x.1 x.2.1).2)
theorem zE6:Sound Tryz.prog base 59 zwP:=
 zH (cx':=zyE) zT zD zN (zG ⟨zk8,zoI,zpA,trivial⟩) Tryz.call59 Tryz.func59 (c:=body Tryz.f59) (by kernel_rfl) (zj (l:=[lp (body Tryz.f59) 0]) (by kernel_rfl) ⟨zGM,trivial⟩) (sg:=⟨[.own 50],[]⟩) (A:=zAk) (res:=zxg) (W:=fun x=>ztF x.1 x.2.1) (z:=default)
def zG0:Cx ty:=mkCx base 12 [] [] [] [] [] []
def zsk (a:Int) (b:Int):Wy0 (Int):=.i (!decide (b=0)) (.i (decide (a>IntKind.i64.wrap (Int.tdiv 1152921504606846976 b))) (.k 1152921504606846976) (.k (IntKind.i64.wrap (a*b)))) .d
def zm9 (a:Int) (b:Int):Bool×Int:=(zsk a b).fin default
def zwI (r:Int):ARes ty:=⟨[.pure (.lit (.int .i64 r))],[]⟩
def zzm:AL base (Int×Int×Unit):=zf (zg (vInt .i64)) (zf (zg (vInt .i64)) aNil)
def zvw:Ab.Spec ty:=zu zzm fun x=>((zm9 x.1 x.2.1).1,zwI (zm9 x.1 x.2.1).2)
theorem zD4:Sound Tryz.prog base 58 zvw:=
 zH (cx':=zG0) zT zD zN (zG trivial) Tryz.call58 Tryz.func58 (c:=body Tryz.f58) (by kernel_rfl) (zj (l:=[]) (by kernel_rfl) trivial) (sg:=⟨[.pure],[]⟩) (A:=zzm) (res:=zwI) (W:=fun x=>zsk x.1 x.2.1) (z:=default)
abbrev ttTannotationMul0:=List Term×Unit×Unit×List Term×Int×Int×List Term×Int×Int×Unit
abbrev ttTannotationMul1:=List Term×Term×Unit
abbrev ttTannotationMul2:=List Term×List Term×Int×Int×List Term
abbrev ttTannotationMul3:=List Term×Unit×List Term×Int×Int×Unit
abbrev ttTannotationMul4:=List Term×Unit
def zlV (b:List Term) (t19:List Term) (t20:Int) (t21:Int) (t25:List Term) (t26:Int) (t27:Int) (terms:List Term) (x_:Term):Wy ttTannotationMul0 ttTannotationMul1 ttTannotationMul2:=.i (decide (t27<t26)) (.i (decide (0≤t27)&&decide (t27<Int.ofNat t25.length)) (.bn (zm9 x_.Coeff (t25.getD t27.toNat default).Coeff) fun r5=>.bn (zlo x_.Factors (t25.getD t27.toNat default).Factors) fun r4=>.i (decide ((terms.length+[TermOf.mk r5 r4].length)*32≤zK)) (.h (b,(),(),t19,t20,t21,t25,t26,(IntKind.i64.wrap (t27+1)),()) ((terms++[TermOf.mk r5 r4]),x_,())) .d) .d) (.k (b,t19,t20,t21,terms))
def zoT (x:ttTannotationMul0) (y:ttTannotationMul1):Wy ttTannotationMul0 ttTannotationMul1 ttTannotationMul2:=zlV x.1 x.2.2.2.1 x.2.2.2.2.1 x.2.2.2.2.2.1 x.2.2.2.2.2.2.1 x.2.2.2.2.2.2.2.1 x.2.2.2.2.2.2.2.2.1 y.1 y.2.1
def zAs (n:Nat) (b:List Term) (t19:List Term) (t20:Int) (t21:Int) (t25:List Term) (t26:Int) (t27:Int) (terms:List Term) (x_:Term):Bool×ttTannotationMul2:=zQ (zoT) default n (b,(),(),t19,t20,t21,t25,t26,t27,()) (terms,x_,())
def zzt (r:ttTannotationMul2):LTree ty:=.done (.exit 2) [.sl 42 r.1,.own 208,.sl 42 r.2.1,.lit (.int .i64 r.2.2.1),.lit (.int .i64 r.2.2.2.1)] [.arr 42 r.2.2.2.2 false]
def zAm:LL ty ttTannotationMul0:=zb (lSl 42) (zb (lOwn 208) (zb (zrG 209 0) (zb (lSl 42) (zb (lInt .i64) (zb (lInt .i64) (zb (lSl 42) (zb (lInt .i64) (zb (lInt .i64) zX))))))))
def zAg:BL ty ttTannotationMul1:=bArr 42 false (bBox (zuG (fun x=>(⟨x.1,x.2.1⟩:Term)) (fun x=>(x.Coeff,x.Factors,())) (fun _=>rfl) (zb (lInt .i64) (zb (lSl 50) zX))) false (bNil))
def zl2 (b:List Term) (t19:List Term) (t20:Int) (t21:Int) (terms:List Term):Wy ttTannotationMul3 ttTannotationMul4 (List Term):=.i (decide (t21<t20)) (.i (decide (0≤t21)&&decide (t21<Int.ofNat t19.length)) (.bn (zAs (b.length+t19.length+t20.toNat +t21.toNat +b.length+(Int.ofNat b.length).toNat +Int.toNat 0+terms.length+(t19.getD t21.toNat default).Factors.length+1) b t19 t20 t21 b (Int.ofNat b.length) 0 terms (t19.getD t21.toNat default)) fun r8=>.h ((r8.1),(),(r8.2.1),(r8.2.2.1),(IntKind.i64.wrap (r8.2.2.2.1+1)),()) ((r8.2.2.2.2),())) .d) (.k terms)
def zoW (x:ttTannotationMul3) (y:ttTannotationMul4):Wy ttTannotationMul3 ttTannotationMul4 (List Term):=zl2 x.1 x.2.2.1 x.2.2.2.1 x.2.2.2.2.1 y.1
def ztW (n:Nat) (b:List Term) (t19:List Term) (t20:Int) (t21:Int) (terms:List Term):Bool×List Term:=zQ (zoW) default n (b,(),t19,t20,t21,()) (terms,())
def zyV (r:List Term):LTree ty:=.done (.exit 0) [.own 208] [.arr 42 r false]
def zAt:LL ty ttTannotationMul3:=zb (lSl 42) (zb (lOwn 208) (zb (lSl 42) (zb (lInt .i64) (zb (lInt .i64) zX))))
def zAw:BL ty ttTannotationMul4:=bArr 42 false (bNil)
def zy0 (x:ttTannotationMul0) (y:ttTannotationMul1):Nat:=(x.1.length+x.2.2.2.1.length+Int.toNat x.2.2.2.2.1+Int.toNat x.2.2.2.2.2.1+x.2.2.2.2.2.2.1.length+Int.toNat x.2.2.2.2.2.2.2.1+Int.toNat x.2.2.2.2.2.2.2.2.1+y.1.length+y.2.1.Factors.length+1)
def zyt (x:ttTannotationMul3) (y:ttTannotationMul4):Nat:=(x.1.length+x.2.2.1.length+Int.toNat x.2.2.2.1+Int.toNat x.2.2.2.2.1+y.1.length+1)
def ztO:Cx ty:=mkCx base0 52 [(31,annotation_Valid_spec),(53,zem),(54,znB),(58,zvw),(59,zwP)] [] [(5,[(1,.keep),(6,.own 42),(19,.keep),(20,.keep),(21,.keep)]),(8,[(1,.keep),(6,.own 42),(8,.keep),(19,.keep),(20,.keep),(21,.keep),(25,.keep),(26,.keep),(27,.keep)])] [(5,1,[(6,.keep)]),(8,3,[(1,.keep),(6,.keep),(19,.keep),(20,.keep),(21,.keep)])] [(8,spW zAm zAg (zoT) default zzt zy0),(5,spW zAt zAw (zoW) default zyV zyt)] []
theorem zHS:zbv ztO (lp (body Tryz.f16) 1):=zbc (id:=8) (V:=zAm) (B:=zAg) (W:=zoT) (z:=default) (tr:=zzt) (m:=zy0)
theorem zIw:zbv ztO (lp (body Tryz.f16) 0):=zbc (id:=5) (V:=zAt) (B:=zAw) (W:=zoW) (z:=default) (tr:=zyV) (m:=zyt)
def zuJ (a:List Term) (b:List Term):Wy0 (List Term×Int):=.bn (zbP a) fun r14=>.i (!r14) (.k ([],1)) (.bn (zbP b) fun r13=>.i (!r13) (.k ([],1)) (.bn (ztW (b.length+a.length+(Int.ofNat a.length).toNat +Int.toNat 0+0+1) b a (Int.ofNat a.length) 0 []) fun r12=>.bn (zgW r12) fun r11=>.bn (zdQ r11) fun r10=>.k (r10.1,r10.2)))
def zmN (a:List Term) (b:List Term):Bool×(List Term×Int):=(zuJ a b).fin default
def zyG (r:List Term×Int):ARes ty:=⟨[.own 42 r.1,.pure (.lit (.int .i64 r.2))],[]⟩
def zBV:AL base0 (List Term×List Term×Unit):=zf (zg (vSl 42)) (zf (zg (vSl 42)) aNil)
def znq:Ab.Spec ty:=zu zBV fun x=>((zmN x.1 x.2.1).1,zyG (zmN x.1 x.2.1).2)
theorem zqf:Sound Tryz.prog base0 16 znq:=
 zH (cx':=ztO) zT zh3 zN (zG ⟨zcx.nodr,zeS.nodr,zr3,zD4.nodr,zE6.nodr,trivial⟩) Tryz.call16 Tryz.func16 (c:=body Tryz.f16) (by kernel_rfl) (zj (l:=[lp (body Tryz.f16) 0,lp (body Tryz.f16) 1]) (by kernel_rfl) ⟨zIw,zHS,trivial⟩) (sg:=⟨[.own 42,.pure],[]⟩) (A:=zBV) (res:=zyG) (W:=fun x=>zuJ x.1 x.2.1) (z:=default)
def zwn:Cx ty:=mkCx base 8 [] [] [] [] [] []
def zjZ (b:Binding) (p1:RowID):Wy0 (Bool):=.k (b.Row.Table==p1.Table&&(b.Row.Seq==p1.Seq&&true))
def ze9 (b:Binding) (p1:RowID):Bool×Bool:=(zjZ b p1).fin default
def znz (r:Bool):ARes ty:=⟨[.pure (.lit (.bool r))],[]⟩
def zoP:AL base (Binding×RowID×Unit):=zf (zg (vAgg 69)) (zf (zg (zLt 25)) aNil)
def ziF:Ab.Spec ty:=zu zoP fun x=>((ze9 x.1 x.2.1).1,znz (ze9 x.1 x.2.1).2)
theorem zmD:Sound Tryz.prog base 95 ziF:=
 zH (cx':=zwn) zT zD zN (zG trivial) Tryz.call95 Tryz.func95 (c:=body Tryz.f95) (by kernel_rfl) (zj (l:=[]) (by kernel_rfl) trivial) (sg:=⟨[.pure],[]⟩) (A:=zoP) (res:=znz) (W:=fun x=>zjZ x.1 x.2.1) (z:=default)
def zFr:Cx ty:=mkCx base 8 [] [] [] [] [] []
def zre (x_:Atom):Wy0 (List Term):=.k [TermOf.mk 1 [FactorOf.mk (Atom.mk x_.Kind x_.Row x_.Args x_.Func x_.Items x_.Op x_.Bound) 1]]
def zeK (x_:Atom):Bool×List Term:=(zre x_).fin default
def zvb (r:List Term):ARes ty:=⟨[.own 42 r],[]⟩
def zxe:AL base (Atom×Unit):=zf (zg (vAgg 48)) aNil
def zfA:Ab.Spec ty:=zu zxe fun x=>((zeK x.1).1,zvb (zeK x.1).2)
theorem zhT:Sound Tryz.prog base 62 zfA:=
 zH (cx':=zFr) zT zD zN (zG trivial) Tryz.call62 Tryz.func62 (c:=body Tryz.f62) (by kernel_rfl) (zj (l:=[]) (by kernel_rfl) trivial) (sg:=⟨[.own 42],[]⟩) (A:=zxe) (res:=zvb) (W:=fun x=>zre x.1) (z:=default)
def zJe:Cx ty:=mkCx base 9 [(62,zfA),(69,zoU)] [] [] [] [] []
def zuT (id:RowID):Wy0 (List Term):=.bn (znc id) fun r0=>.i (!r0) (.k []) (.k ((zeK (Atom.mk 0 id [] 0 [] 0 (Value.mk 0 0 (ByteArray.mk #[])))).2))
def zpb (id:RowID):Bool×List Term:=(zuT id).fin default
def zzb (r:List Term):ARes ty:=⟨[.own 42 r],[]⟩
def zB2:AL base (RowID×Unit):=zf (zg (vAgg 25)) aNil
def zrj:Ab.Spec ty:=zu zB2 fun x=>((zpb x.1).1,zzb (zpb x.1).2)
theorem zwG:Sound Tryz.prog base 27 zrj:=
 zH (cx':=zJe) zT zD zN (zG ⟨zhT,zrS,trivial⟩) Tryz.call27 Tryz.func27 (c:=body Tryz.f27) (by kernel_rfl) (zj (l:=[]) (by kernel_rfl) trivial) (sg:=⟨[.own 42],[]⟩) (A:=zB2) (res:=zzb) (W:=fun x=>zuT x.1) (z:=default)
end Go.Proofs.YtnolcogncjijpaaGreatDoor
end
