/- Texts of this claim, joined (the program, its functions in plain words, and what they compute). -/
import Derived.Test.YtoknknbmfmddbaaGreatDoorGC5
set_option autoImplicit false
set_option linter.unusedVariables false
set_option linter.unusedSectionVars false
set_option linter.unusedSimpArgs false
set_option maxRecDepth 1000000
set_option maxHeartbeats 0
noncomputable section
namespace Go.Proofs.YtoknknbmfmddbaaGreatDoor
open Go Go.Ab
open Go.Proofs.Tryz
def zVB:=zbu base 9 []
def zXA (fn:Int):Wy0 (ByteArray):=.i (decide (0<=fn)&&decide (fn<Int.ofNat [ByteArray.mk #[(67:UInt8),(79:UInt8),(85:UInt8),(78:UInt8),(84:UInt8)],ByteArray.mk #[(83:UInt8),(85:UInt8),(77:UInt8)],ByteArray.mk #[(77:UInt8),(73:UInt8),(78:UInt8)],ByteArray.mk #[(77:UInt8),(65:UInt8),(88:UInt8)]].length)) (.k ([ByteArray.mk #[(67:UInt8),(79:UInt8),(85:UInt8),(78:UInt8),(84:UInt8)],ByteArray.mk #[(83:UInt8),(85:UInt8),(77:UInt8)],ByteArray.mk #[(77:UInt8),(73:UInt8),(78:UInt8)],ByteArray.mk #[(77:UInt8),(65:UInt8),(88:UInt8)]].getD fn.toNat default)) .d
def zxj (fn:Int):=(zXA fn).fin default
def zCo:=zh zVL λx=>((zxj x.1).1,zQT (zxj x.1).2)
theorem zOP:SdP 219 zCo:=
 sT (cx':=zVB) (zi trivial) call219 func219 (lOK aN)
def zZW:=zbu base 10 []
def z1h (op:Int):Wy0 (ByteArray):=.i (decide (0<=IntKind.i64.wrap (op - 5))&&decide (IntKind.i64.wrap (op - 5)<Int.ofNat [ByteArray.mk #[(61:UInt8)],ByteArray.mk #[(60:UInt8),(62:UInt8)],ByteArray.mk #[(60:UInt8)],ByteArray.mk #[(60:UInt8),(61:UInt8)],ByteArray.mk #[(62:UInt8)],ByteArray.mk #[(62:UInt8),(61:UInt8)]].length)) (.k ([ByteArray.mk #[(61:UInt8)],ByteArray.mk #[(60:UInt8),(62:UInt8)],ByteArray.mk #[(60:UInt8)],ByteArray.mk #[(60:UInt8),(61:UInt8)],ByteArray.mk #[(62:UInt8)],ByteArray.mk #[(62:UInt8),(61:UInt8)]].getD (IntKind.i64.wrap (op - 5)).toNat default)) .d
def zAx (op:Int):=(z1h op).fin default
def zGh:=zh zVL λx=>((zAx x.1).1,zQT (zAx x.1).2)
theorem zTM:SdP 220 zGh:=
 sT (cx':=zZW) (zi trivial) call220 func220 (lOK aN)
def zX1:=zbu base 12 [(155,zqJ)]
def zKs (id:RowID):Wy0 (ByteArray):=.bn (zd8 id.Table) λr1=>.i (decide ((ByteArray.mk #[(116:UInt8)]).size+r1.size<=9223372036854775807)) (.i (decide ((ByteArray.mk #[(116:UInt8)]++r1).size+(ByteArray.mk #[(46:UInt8)]).size<=9223372036854775807)) (.bn (zd8 id.Seq) λr0=>.i (decide ((ByteArray.mk #[(116:UInt8)]++r1++ByteArray.mk #[(46:UInt8)]).size+r0.size<=9223372036854775807)) (.k (ByteArray.mk #[(116:UInt8)]++r1++ByteArray.mk #[(46:UInt8)]++r0)) .d) .d) .d
def zuy (id:RowID):=(zKs id).fin default
def zEj:=zh z5V λx=>((zuy x.1).1,zQT (zuy x.1).2)
theorem zQG:SdP 218 zEj:=
 sT (cx':=zX1) (zi ⟨zvb,trivial⟩) call218 func218 (lOK aN)
abbrev zrO:=Unit×ByteArray×Int×Unit
abbrev zGa:=ByteArray×At
def zjs (zb0:yB->Bool×ByteArray) (s:ByteArray) (i:Int) (x_:At):Wy zrO (At×Unit) zGa:=.i (decide (i<Int.ofNat x_.Items.length)) (.i (decide (i>0)) (.i (decide (s.size+(ByteArray.mk #[(59:UInt8),(32:UInt8)]).size<=9223372036854775807)) (.i (decide (0<=i)&&decide (i<Int.ofNat x_.Items.length)) (.bn (zjG (x_.Items.getD i.toNat default).Value) λr1=>.i (decide ((s++ByteArray.mk #[(59:UInt8),(32:UInt8)]).size+r1.size<=9223372036854775807)) (.i (decide ((s++ByteArray.mk #[(59:UInt8),(32:UInt8)]++r1).size+(ByteArray.mk #[(58:UInt8),(32:UInt8)]).size<=9223372036854775807)) (.i (decide (0<=i)&&decide (i<Int.ofNat x_.Items.length)) (.bn (zb0 (x_.Items.getD i.toNat default).Ann) λr0=>.i (decide ((s++ByteArray.mk #[(59:UInt8),(32:UInt8)]++r1++ByteArray.mk #[(58:UInt8),(32:UInt8)]).size+r0.size<=9223372036854775807)) (.h ((),(s++ByteArray.mk #[(59:UInt8),(32:UInt8)]++r1++ByteArray.mk #[(58:UInt8),(32:UInt8)]++r0),(IntKind.i64.wrap (i+1)),()) (x_,())) .d) .d) .d) .d) .d) .d) (.i (decide (0<=i)&&decide (i<Int.ofNat x_.Items.length)) (.bn (zjG (x_.Items.getD i.toNat default).Value) λr3=>.i (decide (s.size+r3.size<=9223372036854775807)) (.i (decide ((s++r3).size+(ByteArray.mk #[(58:UInt8),(32:UInt8)]).size<=9223372036854775807)) (.i (decide (0<=i)&&decide (i<Int.ofNat x_.Items.length)) (.bn (zb0 (x_.Items.getD i.toNat default).Ann) λr2=>.i (decide ((s++r3++ByteArray.mk #[(58:UInt8),(32:UInt8)]).size+r2.size<=9223372036854775807)) (.h ((),(s++r3++ByteArray.mk #[(58:UInt8),(32:UInt8)]++r2),(IntKind.i64.wrap (i+1)),()) (x_,())) .d) .d) .d) .d) .d)) (.k (s,x_))
def zt0 (zb0:yB->Bool×ByteArray) (x:zrO) (y:At×Unit):=zjs zb0 x.2.1 x.2.2.1 y.1
def zn4 (zb0:yB->Bool×ByteArray) (n:Nat) (s:ByteArray) (i:Int) (x_:At):=zB (zt0 zb0) default n ((),s,i,()) (x_,())
def zMf (r:zGa):LTree ty:=.done (.exit 1) [.ptr 368 0,.lit (.string r.1)] [.box (base.enc 143 r.2) false]
def zN7:LL ty zrO:=za (zdd 368 0) (za zjj (za zj zl))
def zNU (x:zrO) (y:At×Unit):Nat:=(x.2.1.size+Int.toNat x.2.2.1+y.1.Ag.length+y.1.Items.length+1)
def zCi (zb0:yB->Bool×ByteArray):=zbX base 92 [(96,zx8),(97,(zwc zb0)),(218,zEj),(219,zCo),(220,zGh)] [] [(12,(kpL [1,3,4]))] [(12,2,(kpL [1,3]))] [(12,spW zN7 zTu (zt0 zb0) default zMf zNU)] []
theorem zNS (zb0:yB->Bool×ByteArray):zF (zCi zb0) (lp (body f156) 0):=zn (id:=12) (hl:=rfl)
def zEg (zb0:yB->Bool×ByteArray) (x_:At):Wy0 (ByteArray):=.i (x_.Kind==0) (.bn (zuy x_.Row) λr8=>.k r8) (.i (x_.Kind==1) (.i (decide ((0:Int)<=(0:Int))&&decide (0<Int.ofNat x_.Ag.length)) (.bn (zb0 (x_.Ag.getD (Int.toNat 0) default)) λr10=>.i (decide ((ByteArray.mk #[(109:UInt8),(111:UInt8),(110:UInt8),(117:UInt8),(115:UInt8),(91:UInt8)]).size+r10.size<=9223372036854775807)) (.i (decide ((ByteArray.mk #[(109:UInt8),(111:UInt8),(110:UInt8),(117:UInt8),(115:UInt8),(91:UInt8)]++r10).size+(ByteArray.mk #[(44:UInt8),(32:UInt8)]).size<=9223372036854775807)) (.i (decide ((0:Int)<=(1:Int))&&decide (1<Int.ofNat x_.Ag.length)) (.bn (zb0 (x_.Ag.getD (Int.toNat 1) default)) λr9=>.i (decide ((ByteArray.mk #[(109:UInt8),(111:UInt8),(110:UInt8),(117:UInt8),(115:UInt8),(91:UInt8)]++r10++ByteArray.mk #[(44:UInt8),(32:UInt8)]).size+r9.size<=9223372036854775807)) (.i (decide ((ByteArray.mk #[(109:UInt8),(111:UInt8),(110:UInt8),(117:UInt8),(115:UInt8),(91:UInt8)]++r10++ByteArray.mk #[(44:UInt8),(32:UInt8)]++r9).size+(ByteArray.mk #[(93:UInt8)]).size<=9223372036854775807)) (.k (ByteArray.mk #[(109:UInt8),(111:UInt8),(110:UInt8),(117:UInt8),(115:UInt8),(91:UInt8)]++r10++ByteArray.mk #[(44:UInt8),(32:UInt8)]++r9++ByteArray.mk #[(93:UInt8)])) .d) .d) .d) .d) .d) .d) (.i (x_.Kind==2) (.i (decide ((0:Int)<=(0:Int))&&decide (0<Int.ofNat x_.Ag.length)) (.bn (zb0 (x_.Ag.getD (Int.toNat 0) default)) λr11=>.i (decide ((ByteArray.mk #[(100:UInt8),(101:UInt8),(108:UInt8),(116:UInt8),(97:UInt8),(91:UInt8)]).size+r11.size<=9223372036854775807)) (.i (decide ((ByteArray.mk #[(100:UInt8),(101:UInt8),(108:UInt8),(116:UInt8),(97:UInt8),(91:UInt8)]++r11).size+(ByteArray.mk #[(93:UInt8)]).size<=9223372036854775807)) (.k (ByteArray.mk #[(100:UInt8),(101:UInt8),(108:UInt8),(116:UInt8),(97:UInt8),(91:UInt8)]++r11++ByteArray.mk #[(93:UInt8)])) .d) .d) .d) (.i (x_.Kind==3) (.i (decide ((0:Int)<=(0:Int))&&decide (0<Int.ofNat x_.Ag.length)) (.bn (zb0 (x_.Ag.getD (Int.toNat 0) default)) λr12=>.i (decide ((ByteArray.mk #[(97:UInt8),(98:UInt8),(115:UInt8),(101:UInt8),(110:UInt8),(116:UInt8),(91:UInt8)]).size+r12.size<=9223372036854775807)) (.i (decide ((ByteArray.mk #[(97:UInt8),(98:UInt8),(115:UInt8),(101:UInt8),(110:UInt8),(116:UInt8),(91:UInt8)]++r12).size+(ByteArray.mk #[(93:UInt8)]).size<=9223372036854775807)) (.k (ByteArray.mk #[(97:UInt8),(98:UInt8),(115:UInt8),(101:UInt8),(110:UInt8),(116:UInt8),(91:UInt8)]++r12++ByteArray.mk #[(93:UInt8)])) .d) .d) .d) (.bn (zxj x_.Func) λr16=>.i (decide ((ByteArray.mk #[(116:UInt8),(101:UInt8),(115:UInt8),(116:UInt8),(91:UInt8)]).size+r16.size<=9223372036854775807)) (.i (decide ((ByteArray.mk #[(116:UInt8),(101:UInt8),(115:UInt8),(116:UInt8),(91:UInt8)]++r16).size+(ByteArray.mk #[(123:UInt8)]).size<=9223372036854775807)) (.bn (zn4 zb0 ((ByteArray.mk #[(116:UInt8),(101:UInt8),(115:UInt8),(116:UInt8),(91:UInt8)]++r16++ByteArray.mk #[(123:UInt8)]).size+Int.toNat 0+x_.Ag.length+x_.Items.length+1) (ByteArray.mk #[(116:UInt8),(101:UInt8),(115:UInt8),(116:UInt8),(91:UInt8)]++r16++ByteArray.mk #[(123:UInt8)]) 0 (At.mk x_.Kind x_.Row x_.Ag x_.Func x_.Items x_.Op x_.Bd)) λr15=>.i (decide (r15.1.size+(ByteArray.mk #[(125:UInt8),(32:UInt8)]).size<=9223372036854775807)) (.bn (zAx r15.2.Op) λr14=>.i (decide ((r15.1++ByteArray.mk #[(125:UInt8),(32:UInt8)]).size+r14.size<=9223372036854775807)) (.i (decide ((r15.1++ByteArray.mk #[(125:UInt8),(32:UInt8)]++r14).size+(ByteArray.mk #[(32:UInt8)]).size<=9223372036854775807)) (.bn (zjG r15.2.Bd) λr13=>.i (decide ((r15.1++ByteArray.mk #[(125:UInt8),(32:UInt8)]++r14++ByteArray.mk #[(32:UInt8)]).size+r13.size<=9223372036854775807)) (.i (decide ((r15.1++ByteArray.mk #[(125:UInt8),(32:UInt8)]++r14++ByteArray.mk #[(32:UInt8)]++r13).size+(ByteArray.mk #[(93:UInt8)]).size<=9223372036854775807)) (.k (r15.1++ByteArray.mk #[(125:UInt8),(32:UInt8)]++r14++ByteArray.mk #[(32:UInt8)]++r13++ByteArray.mk #[(93:UInt8)])) .d) .d) .d) .d) .d) .d) .d))))
def zoH (zb0:yB->Bool×ByteArray) (x_:At):=(zEg zb0 x_).fin default
theorem zLE (zb0:yB->Bool×ByteArray) (z1o:SdP 97 (zwc zb0)):SdP 156 (ztn (zoH zb0)):=
 sT (cx':=(zCi zb0)) (zi ⟨zD3,z1o,zQG,zOP,zTM,trivial⟩) call156 func156 (lOK (aC (zNS zb0) aN))
abbrev zyP:=yB×ByteArray×Int×ByteArray×Int×Unit
abbrev zQq:=yB×ByteArray×Int×ByteArray
abbrev zyM:=yB×ByteArray×Int×Unit
def zoQ (zS:At->Bool×ByteArray) (a:yB) (s:ByteArray) (i:Int) (t:ByteArray) (k:Int):Wy zyP Unit zQq:=.i (decide (0<=i)&&decide (i<Int.ofNat a.length)) (.i (decide (k<Int.ofNat (a.getD i.toNat default).Fs.length)) (.i (!t.toList==(ByteArray.mk #[]).toList) (.i (decide (t.size+(ByteArray.mk #[(42:UInt8)]).size<=9223372036854775807)) (.i (decide (0<=i)&&decide (i<Int.ofNat a.length)) (.i (decide (0<=k)&&decide (k<Int.ofNat (a.getD i.toNat default).Fs.length)) (.bn (zS (At.mk ((a.getD i.toNat default).Fs.getD k.toNat default).At.Kind ((a.getD i.toNat default).Fs.getD k.toNat default).At.Row ((a.getD i.toNat default).Fs.getD k.toNat default).At.Ag ((a.getD i.toNat default).Fs.getD k.toNat default).At.Func ((a.getD i.toNat default).Fs.getD k.toNat default).At.Items ((a.getD i.toNat default).Fs.getD k.toNat default).At.Op ((a.getD i.toNat default).Fs.getD k.toNat default).At.Bd)) λr1=>.i (decide ((t++ByteArray.mk #[(42:UInt8)]).size+r1.size<=9223372036854775807)) (.i (decide (0<=i)&&decide (i<Int.ofNat a.length)) (.i (decide (0<=k)&&decide (k<Int.ofNat (a.getD i.toNat default).Fs.length)) (.i (((a.getD i.toNat default).Fs.getD k.toNat default).Exp != 1) (.i (decide ((t++ByteArray.mk #[(42:UInt8)]++r1).size+(ByteArray.mk #[(94:UInt8)]).size<=9223372036854775807)) (.i (decide (0<=i)&&decide (i<Int.ofNat a.length)) (.i (decide (0<=k)&&decide (k<Int.ofNat (a.getD i.toNat default).Fs.length)) (.bn (zd8 ((a.getD i.toNat default).Fs.getD k.toNat default).Exp) λr0=>.i (decide ((t++ByteArray.mk #[(42:UInt8)]++r1++ByteArray.mk #[(94:UInt8)]).size+r0.size<=9223372036854775807)) (.h (a,s,i,(t++ByteArray.mk #[(42:UInt8)]++r1++ByteArray.mk #[(94:UInt8)]++r0),(IntKind.i64.wrap (k+1)),()) ()) .d) .d) .d) .d) (.h (a,s,i,(t++ByteArray.mk #[(42:UInt8)]++r1),(IntKind.i64.wrap (k+1)),()) ())) .d) .d) .d) .d) .d) .d) (.i (decide (0<=i)&&decide (i<Int.ofNat a.length)) (.i (decide (0<=k)&&decide (k<Int.ofNat (a.getD i.toNat default).Fs.length)) (.bn (zS (At.mk ((a.getD i.toNat default).Fs.getD k.toNat default).At.Kind ((a.getD i.toNat default).Fs.getD k.toNat default).At.Row ((a.getD i.toNat default).Fs.getD k.toNat default).At.Ag ((a.getD i.toNat default).Fs.getD k.toNat default).At.Func ((a.getD i.toNat default).Fs.getD k.toNat default).At.Items ((a.getD i.toNat default).Fs.getD k.toNat default).At.Op ((a.getD i.toNat default).Fs.getD k.toNat default).At.Bd)) λr3=>.i (decide (t.size+r3.size<=9223372036854775807)) (.i (decide (0<=i)&&decide (i<Int.ofNat a.length)) (.i (decide (0<=k)&&decide (k<Int.ofNat (a.getD i.toNat default).Fs.length)) (.i (((a.getD i.toNat default).Fs.getD k.toNat default).Exp != 1) (.i (decide ((t++r3).size+(ByteArray.mk #[(94:UInt8)]).size<=9223372036854775807)) (.i (decide (0<=i)&&decide (i<Int.ofNat a.length)) (.i (decide (0<=k)&&decide (k<Int.ofNat (a.getD i.toNat default).Fs.length)) (.bn (zd8 ((a.getD i.toNat default).Fs.getD k.toNat default).Exp) λr2=>.i (decide ((t++r3++ByteArray.mk #[(94:UInt8)]).size+r2.size<=9223372036854775807)) (.h (a,s,i,(t++r3++ByteArray.mk #[(94:UInt8)]++r2),(IntKind.i64.wrap (k+1)),()) ()) .d) .d) .d) .d) (.h (a,s,i,(t++r3),(IntKind.i64.wrap (k+1)),()) ())) .d) .d) .d) .d) .d)) (.k (a,s,i,t))) .d
def zyS (zS:At->Bool×ByteArray) (x:zyP) (y:Unit):=zoQ zS x.1 x.2.1 x.2.2.1 x.2.2.2.1 x.2.2.2.2.1
def ziM (zS:At->Bool×ByteArray) (n:Nat) (a:yB) (s:ByteArray) (i:Int) (t:ByteArray) (k:Int):=zB (zyS zS) default n (a,s,i,t,k,()) ()
def zVo (r:zQq):LTree ty:=.done (.exit 2) [.sl 107 r.1,.lit (.string r.2.1),.lit (.int .i64 r.2.2.1),.lit (.string r.2.2.2)] []
def zXj:LL ty zyP:=za (lSl 107) (za zjj (za zj (za zjj (za zj zl))))
def zqH (zS:At->Bool×ByteArray) (a:yB) (s:ByteArray) (i:Int):Wy zyM Unit (ByteArray):=.i (decide (i<Int.ofNat a.length)) (.i (decide (i>0)) (.i (decide (s.size+(ByteArray.mk #[(32:UInt8),(43:UInt8),(32:UInt8)]).size<=9223372036854775807)) (.i (decide (0<=i)&&decide (i<Int.ofNat a.length)) (.i ((a.getD i.toNat default).Cf != 1) (.i (decide (0<=i)&&decide (i<Int.ofNat a.length)) (.bn (zd8 (a.getD i.toNat default).Cf) λr9=>.bn (ziM zS ((a.length+(s++ByteArray.mk #[(32:UInt8),(43:UInt8),(32:UInt8)]).size+i.toNat +r9.size+Int.toNat 0+1)+zd3 a) a (s++ByteArray.mk #[(32:UInt8),(43:UInt8),(32:UInt8)]) i r9 0) λr8=>.i (decide (r8.2.1.size+r8.2.2.2.size<=9223372036854775807)) (.h ((r8.1),(r8.2.1++r8.2.2.2),(IntKind.i64.wrap (r8.2.2.1+1)),()) ()) .d) .d) (.i (decide (0<=i)&&decide (i<Int.ofNat a.length)) (.i (Int.ofNat (a.getD i.toNat default).Fs.length==0) (.i (decide (0<=i)&&decide (i<Int.ofNat a.length)) (.bn (zd8 (a.getD i.toNat default).Cf) λr11=>.bn (ziM zS ((a.length+(s++ByteArray.mk #[(32:UInt8),(43:UInt8),(32:UInt8)]).size+i.toNat +r11.size+Int.toNat 0+1)+zd3 a) a (s++ByteArray.mk #[(32:UInt8),(43:UInt8),(32:UInt8)]) i r11 0) λr10=>.i (decide (r10.2.1.size+r10.2.2.2.size<=9223372036854775807)) (.h ((r10.1),(r10.2.1++r10.2.2.2),(IntKind.i64.wrap (r10.2.2.1+1)),()) ()) .d) .d) (.bn (ziM zS ((a.length+(s++ByteArray.mk #[(32:UInt8),(43:UInt8),(32:UInt8)]).size+i.toNat +(ByteArray.mk #[]).size+Int.toNat 0+1)+zd3 a) a (s++ByteArray.mk #[(32:UInt8),(43:UInt8),(32:UInt8)]) i (ByteArray.mk #[]) 0) λr12=>.i (decide (r12.2.1.size+r12.2.2.2.size<=9223372036854775807)) (.h ((r12.1),(r12.2.1++r12.2.2.2),(IntKind.i64.wrap (r12.2.2.1+1)),()) ()) .d)) .d)) .d) .d) (.i (decide (0<=i)&&decide (i<Int.ofNat a.length)) (.i ((a.getD i.toNat default).Cf != 1) (.i (decide (0<=i)&&decide (i<Int.ofNat a.length)) (.bn (zd8 (a.getD i.toNat default).Cf) λr14=>.bn (ziM zS ((a.length+s.size+i.toNat +r14.size+Int.toNat 0+1)+zd3 a) a s i r14 0) λr13=>.i (decide (r13.2.1.size+r13.2.2.2.size<=9223372036854775807)) (.h ((r13.1),(r13.2.1++r13.2.2.2),(IntKind.i64.wrap (r13.2.2.1+1)),()) ()) .d) .d) (.i (decide (0<=i)&&decide (i<Int.ofNat a.length)) (.i (Int.ofNat (a.getD i.toNat default).Fs.length==0) (.i (decide (0<=i)&&decide (i<Int.ofNat a.length)) (.bn (zd8 (a.getD i.toNat default).Cf) λr16=>.bn (ziM zS ((a.length+s.size+i.toNat +r16.size+Int.toNat 0+1)+zd3 a) a s i r16 0) λr15=>.i (decide (r15.2.1.size+r15.2.2.2.size<=9223372036854775807)) (.h ((r15.1),(r15.2.1++r15.2.2.2),(IntKind.i64.wrap (r15.2.2.1+1)),()) ()) .d) .d) (.bn (ziM zS ((a.length+s.size+i.toNat +(ByteArray.mk #[]).size+Int.toNat 0+1)+zd3 a) a s i (ByteArray.mk #[]) 0) λr17=>.i (decide (r17.2.1.size+r17.2.2.2.size<=9223372036854775807)) (.h ((r17.1),(r17.2.1++r17.2.2.2),(IntKind.i64.wrap (r17.2.2.1+1)),()) ()) .d)) .d)) .d)) (.k s)
def zBB (zS:At->Bool×ByteArray) (x:zyM) (y:Unit):=zqH zS x.1 x.2.1 x.2.2.1
def zKi (zS:At->Bool×ByteArray) (n:Nat) (a:yB) (s:ByteArray) (i:Int):=zB (zBB zS) default n (a,s,i,()) ()
def zYT:LL ty zyM:=za (lSl 107) (za zjj (za zj zl))
def zVk (x:zyP) (y:Unit):Nat:=((x.1.length+x.2.1.size+Int.toNat x.2.2.1+x.2.2.2.1.size+Int.toNat x.2.2.2.2.1+1)+zd3 x.1)
def zWY (x:zyM) (y:Unit):Nat:=((x.1.length+x.2.1.size+Int.toNat x.2.2.1+1)+zd3 x.1)
def zAU (zS:At->Bool×ByteArray):=zbX base 94 [(155,zqJ),(156,(ztn zS))] [] [(5,(kpL [0,3,4])),(13,(kpL [0,3,4,5,6]))] [(5,1,(kpL [3])),(13,3,(kpL [0,3,4,5]))] [(13,spW zXj z3q (zyS zS) default zVo zVk),(5,spW zYT z3q (zBB zS) default zVw zWY)] []
theorem zU9 (zS:At->Bool×ByteArray):zF (zAU zS) (lp (body f97) 1):=zn (id:=13) (hl:=rfl)
theorem zXJ (zS:At->Bool×ByteArray):zF (zAU zS) (lp (body f97) 0):=zn (id:=5) (hl:=rfl)
def zN2 (zS:At->Bool×ByteArray) (a:yB):Wy0 (ByteArray):=.i (Int.ofNat a.length==0) (.k (ByteArray.mk #[(48:UInt8)])) (.bn (zKi zS ((a.length+(ByteArray.mk #[]).size+Int.toNat 0+1)+zd3 a) a (ByteArray.mk #[]) 0) λr28=>.k r28)
def zwY (zS:At->Bool×ByteArray) (a:yB):=(zN2 zS a).fin default
theorem zUl (zS:At->Bool×ByteArray) (zS5:SdP 156 (ztn zS)):SdP 97 (zwc (zwY zS)):=
 sT (cx':=(zAU zS)) (zi ⟨zvb,zS5,trivial⟩) call97 func97 (lOK (aC (zXJ zS) (aC (zU9 zS) aN)))
def zKw:Nat->(yB->Bool×ByteArray)×(At->Bool×ByteArray)
 | 0=>(λ_=>(false,default),λ_=>(false,default))
 | n+1=>(zwY ((zKw n).2),zoH ((zKw n).1))
def zwv (n:Nat):yB->Bool×ByteArray:=(zKw n).1
def ztV (n:Nat):At->Bool×ByteArray:=(zKw n).2
theorem z0z (n:Nat):zwv (n+1)=zwY (ztV n):=rfl
theorem zQ7 (n:Nat):ztV (n+1)=zoH (zwv n):=rfl
theorem zWm:∀ n,SdP 97 (zwc (zwv n))/\SdP 156 (ztn (ztV n))
 | 0=>⟨z8 call97 (λ_=>rfl),z8 call156 (λ_=>rfl)⟩
 | n+1=>by
  have ih:=zWm n;exact ⟨zUl _ (ih.2),zLE _ (ih.1)⟩
def zOD:yB->Bool×ByteArray:=zwv 1000
def zKC:Ab.Spec ty:=zwc zOD
theorem zXz:SdP 97 zKC:=(zWm 1000).1
def z0i:=zbu base 8 [(56,zzp),(97,zKC)]
def zNi (a:yB):Wy0 (ByteArray):=.bn (zyr a) λr1=>.i (!r1) (.k (ByteArray.mk #[])) (.bn (zOD a) λr0=>.k r0)
def zwp (a:yB):=(zNi a).fin default
def zGm:=zh zSC λx=>((zwp x.1).1,zQT (zwp x.1).2)
theorem zSn:SdP 49 zGm:=
 sT (cx':=z0i) (zi ⟨zF1,zXz,trivial⟩) call49 func49 (lOK aN)
def zV3:=zbu base 10 []
def zXE (kind:Int):Wy0 (ByteArray):=.i (kind==0) (.k (ByteArray.mk #[(73:UInt8),(78:UInt8),(84:UInt8),(69:UInt8),(71:UInt8),(69:UInt8),(82:UInt8)])) (.i (kind==1) (.k (ByteArray.mk #[(84:UInt8),(69:UInt8),(88:UInt8),(84:UInt8)])) (.i (kind==2) (.k (ByteArray.mk #[(66:UInt8),(79:UInt8),(79:UInt8),(76:UInt8),(69:UInt8),(65:UInt8),(78:UInt8)])) (.k (ByteArray.mk #[]))))
def zr0 (kind:Int):=(zXE kind).fin default
def zCb:=zh zVL λx=>((zr0 x.1).1,zQT (zr0 x.1).2)
theorem zOR:SdP 95 zCb:=
 sT (cx':=zV3) (zi trivial) call95 func95 (lOK aN)
abbrev zvX:=yH×ByteArray×Int×Unit
def zq5 (l:yH) (s:ByteArray) (i:Int):Wy zvX Unit (ByteArray):=.i (decide (i<Int.ofNat l.length)) (.i (decide (i>0)) (.i (decide (s.size+(ByteArray.mk #[(44:UInt8),(32:UInt8)]).size<=9223372036854775807)) (.i (decide (0<=i)&&decide (i<Int.ofNat l.length)) (.i (decide ((s++ByteArray.mk #[(44:UInt8),(32:UInt8)]).size+(l.getD i.toNat default).Name.size<=9223372036854775807)) (.i (decide ((s++ByteArray.mk #[(44:UInt8),(32:UInt8)]++(l.getD i.toNat default).Name).size+(ByteArray.mk #[(32:UInt8)]).size<=9223372036854775807)) (.i (decide (0<=i)&&decide (i<Int.ofNat l.length)) (.bn (zr0 (l.getD i.toNat default).Type_) λr0=>.i (decide ((s++ByteArray.mk #[(44:UInt8),(32:UInt8)]++(l.getD i.toNat default).Name++ByteArray.mk #[(32:UInt8)]).size+r0.size<=9223372036854775807)) (.h (l,(s++ByteArray.mk #[(44:UInt8),(32:UInt8)]++(l.getD i.toNat default).Name++ByteArray.mk #[(32:UInt8)]++r0),(IntKind.i64.wrap (i+1)),()) ()) .d) .d) .d) .d) .d) .d) (.i (decide (0<=i)&&decide (i<Int.ofNat l.length)) (.i (decide (s.size+(l.getD i.toNat default).Name.size<=9223372036854775807)) (.i (decide ((s++(l.getD i.toNat default).Name).size+(ByteArray.mk #[(32:UInt8)]).size<=9223372036854775807)) (.i (decide (0<=i)&&decide (i<Int.ofNat l.length)) (.bn (zr0 (l.getD i.toNat default).Type_) λr1=>.i (decide ((s++(l.getD i.toNat default).Name++ByteArray.mk #[(32:UInt8)]).size+r1.size<=9223372036854775807)) (.h (l,(s++(l.getD i.toNat default).Name++ByteArray.mk #[(32:UInt8)]++r1),(IntKind.i64.wrap (i+1)),()) ()) .d) .d) .d) .d) .d)) (.k s)
def zBF (x:zvX) (y:Unit):=zq5 x.1 x.2.1 x.2.2.1
def zKz (n:Nat) (l:yH) (s:ByteArray) (i:Int):=zB (zBF) default n (l,s,i,()) ()
def z0l:LL ty zvX:=za (lSl 75) (za zjj (za zj zl))
def zXY (x:zvX) (y:Unit):Nat:=(x.1.length+x.2.1.size+Int.toNat x.2.2.1+1)
def zKo:=zbX base 31 [(95,zCb)] [] [(3,(kpL [0,3,4]))] [(3,1,(kpL [3]))] [(3,spW z0l z3q (zBF) default zVw zXY)] []
theorem zXe:zF zKo (lp (body f47) 0):=zn (id:=3) (hl:=rfl)
def zNm (l:yH):Wy0 (ByteArray):=.bn (zKz (l.length+(ByteArray.mk #[]).size+Int.toNat 0+1) l (ByteArray.mk #[]) 0) λr4=>.k r4
def zwP (l:yH):=(zNm l).fin default
def zGc:=zh zJG λx=>((zwP x.1).1,zQT (zwP x.1).2)
theorem zRX:SdP 47 zGc:=
 sT (cx':=zKo) (zi ⟨zOR,trivial⟩) call47 func47 (lOK (aC zXe aN))
abbrev zrN:=yG×ByteArray×Int×Unit
def zxR (l:yG) (s:ByteArray) (i:Int):Wy zrN Unit (ByteArray):=.i (decide (i<Int.ofNat l.length)) (.i (decide (i>0)) (.i (decide (s.size+(ByteArray.mk #[(44:UInt8),(32:UInt8)]).size<=9223372036854775807)) (.i (decide (0<=i)&&decide (i<Int.ofNat l.length)) (.bn (zjG (l.getD i.toNat default)) λr0=>.i (decide ((s++ByteArray.mk #[(44:UInt8),(32:UInt8)]).size+r0.size<=9223372036854775807)) (.h (l,(s++ByteArray.mk #[(44:UInt8),(32:UInt8)]++r0),(IntKind.i64.wrap (i+1)),()) ()) .d) .d) .d) (.i (decide (0<=i)&&decide (i<Int.ofNat l.length)) (.bn (zjG (l.getD i.toNat default)) λr1=>.i (decide (s.size+r1.size<=9223372036854775807)) (.h (l,(s++r1),(IntKind.i64.wrap (i+1)),()) ()) .d) .d)) (.k s)
def zxS (x:zrN) (y:Unit):=zxR x.1 x.2.1 x.2.2.1
def zFZ (n:Nat) (l:yG) (s:ByteArray) (i:Int):=zB (zxS) default n (l,s,i,()) ()
def zVm:LL ty zrN:=za (lSl 79) (za zjj (za zj zl))
def zR1 (x:zrN) (y:Unit):Nat:=(x.1.length+x.2.1.size+Int.toNat x.2.2.1+1)
def zGg:=zbX base 23 [(96,zx8)] [] [(3,(kpL [0,3,4]))] [(3,1,(kpL [3]))] [(3,spW zVm z3q (zxS) default zVw zR1)] []
theorem zSh:zF zGg (lp (body f48) 0):=zn (id:=3) (hl:=rfl)
def zH4 (l:yG):Wy0 (ByteArray):=.bn (zFZ (l.length+(ByteArray.mk #[]).size+Int.toNat 0+1) l (ByteArray.mk #[]) 0) λr4=>.k r4
def zsc (l:yG):=(zH4 l).fin default
def zXR:AL base (yG×Unit):=zd (zg (vSl 79)) zq
def zCe:=zh zXR λx=>((zsc x.1).1,zQT (zsc x.1).2)
theorem zPZ:SdP 48 zCe:=
 sT (cx':=zGg) (zi ⟨zD3,trivial⟩) call48 func48 (lOK (aC zSh aN))
abbrev zmq:=yG×yG×Int×Unit
abbrev zz5:=Int⊕(yG×yG)
def ztp (a:yG) (b:yG) (i:Int):Wy zmq Unit zz5:=.i (decide (i<Int.ofNat a.length)) (.i (decide (i<Int.ofNat b.length)) (.i (decide (0<=i)&&decide (i<Int.ofNat a.length)) (.i (decide (0<=i)&&decide (i<Int.ofNat b.length)) (.bn (ziE (a.getD i.toNat default) (b.getD i.toNat default)) λr0=>.i (r0 != 0) (.k (.inl (r0))) (.h (a,b,(IntKind.i64.wrap (i+1)),()) ())) .d) .d) (.k (.inr (a,b)))) (.k (.inr (a,b)))
def zBu (x:zmq) (y:Unit):=ztp x.1 x.2.1 x.2.2.1
def ztO (n:Nat) (a:yG) (b:yG) (i:Int):=zB (zBu) (.inl default) n (a,b,i,()) ()
def zNE (r:zz5):LTree ty:=.ite (isL r) (.done .ret [.lit (.int .i64 (getL r))] []) (.done (.exit 0) [.sl 79 (getR r).1,.sl 79 (getR r).2] [])
def zOd:LL ty zmq:=za (lSl 79) (za (lSl 79) (za zj zl))
def zNG (x:zmq) (y:Unit):Nat:=(x.1.length+x.2.1.length+Int.toNat x.2.2.1+1)
def zAL:=zbX base 42 [(113,zqT),(114,zAX)] [] [(2,(kpL [0,1,5]))] [(2,1,(kpL [0,1])),(2,0,(kpL [4]))] [(2,spW zOd z3q (zBu) (.inl default) zNE zNG)] []
theorem zNX:zF zAL (lp (body f57) 0):=zn (id:=2) (hl:=rfl)
def zCu (a:yG) (b:yG):Wy0 (Int):=.bn (ztO (a.length+b.length+Int.toNat 0+1) a b 0) λr3=>.i (isL r3) (.k (getL r3)) (.i (Int.ofNat (getR r3).1.length==Int.ofNat (getR r3).2.length) (.k 0) (.bn (zq9 (decide (Int.ofNat (getR r3).1.length<Int.ofNat (getR r3).2.length))) λr2=>.k r2))
def zj0 (a:yG) (b:yG):=(zCu a b).fin default
def zry:=zh zRe λx=>((zj0 x.1 x.2.1).1,zLH (zj0 x.1 x.2.1).2)
theorem zxK:SdP 57 zry:=
 sT (cx':=zAL) (zi ⟨zu2,zIf,trivial⟩) call57 func57 (lOK (aC zNX aN))
abbrev zza:=yH×Int×Unit
abbrev zIn:=Bool⊕yH
def zyV (l:yH) (i:Int):Wy zza Unit zIn:=.i (decide (i<Int.ofNat l.length)) (.i (decide (0<=i)&&decide (i<Int.ofNat l.length)) (.i (decide ((l.getD i.toNat default).Type_<0)) (.k (.inl false)) (.i (decide (0<=i)&&decide (i<Int.ofNat l.length)) (.i (decide ((l.getD i.toNat default).Type_>2)) (.k (.inl false)) (.h (l,(IntKind.i64.wrap (i+1)),()) ())) .d)) .d) (.k (.inr l))
def zy0 (x:zza) (y:Unit):=zyV x.1 x.2.1
def zIg (n:Nat) (l:yH) (i:Int):=zB (zy0) (.inl default) n (l,i,()) ()
def zVS (r:zIn):LTree ty:=.ite (isL r) (.done .ret [.lit (.bool (getL r))] []) (.done (.exit 0) [.sl 75 (getR r)] [])
def zX5:LL ty zza:=za (lSl 75) (za zj zl)
def zHM:=zbX base 27 [] [] [(2,(kpL [0,3]))] [(2,1,(kpL [0])),(2,0,(kpL [2]))] [(2,spW zX5 z3q (zy0) (.inl default) zVS λx y=>(x.1.length+Int.toNat x.2.1+1))] []
theorem zVa:zF zHM (lp (body f54) 0):=zn (id:=2) (hl:=rfl)
def zKG (l:yH):Wy0 (Bool):=.bn (zIg (l.length+Int.toNat 0+1) l 0) λr0=>.i (isL r0) (.k (getL r0)) (.k (decide (Int.ofNat (getR r0).length<=16)))
def zua (l:yH):=(zKG l).fin default
def zEC:=zh zJG λx=>((zua x.1).1,zQK (zua x.1).2)
theorem zRd:SdP 54 zEC:=
 sT (cx':=zHM) (zi trivial) call54 func54 (lOK (aC zVa aN))
abbrev zyN:=yH×yG×Int×Unit
def zuE (l:yH) (row:yG) (i:Int):Wy zyN Unit (Bool⊕Unit):=.i (decide (i<Int.ofNat l.length)) (.i (decide (0<=i)&&decide (i<Int.ofNat row.length)) (.bn (zoe (row.getD i.toNat default)) λr0=>.i (!r0) (.k (.inl false)) (.i (decide (0<=i)&&decide (i<Int.ofNat row.length)) (.i (decide (0<=i)&&decide (i<Int.ofNat l.length)) (.i ((row.getD i.toNat default).Kind != (l.getD i.toNat default).Type_) (.k (.inl false)) (.h (l,row,(IntKind.i64.wrap (i+1)),()) ())) .d) .d)) .d) (.k (.inr ()))
def zFw (x:zyN) (y:Unit):=zuE x.1 x.2.1 x.2.2.1
def zQa (n:Nat) (l:yH) (row:yG) (i:Int):=zB (zFw) (.inl default) n (l,row,i,()) ()
def z2V:LL ty zyN:=za (lSl 75) (za (lSl 79) (za zj zl))
def z1n (x:zyN) (y:Unit):Nat:=(x.1.length+x.2.1.length+Int.toNat x.2.2.1+1)
def zQd:=zbX base 36 [(108,ztN)] [] [(4,(kpL [0,1,5]))] [(4,1,[]),(4,0,(kpL [4]))] [(4,spW z2V z3q (zFw) (.inl default) zlC z1n)] []
theorem z1M:zF zQd (lp (body f55) 0):=zn (id:=4) (hl:=rfl)
def zTq (l:yH) (row:yG):Wy0 (Bool):=.i (Int.ofNat l.length != Int.ofNat row.length) (.k false) (.bn (zQa (l.length+row.length+Int.toNat 0+1) l row 0) λr2=>.i (isL r2) (.k (getL r2)) (.k true))
def zBe (l:yH) (row:yG):=(zTq l row).fin default
def zKQ:=zh z0Q λx=>((zBe x.1 x.2.1).1,zQK (zBe x.1 x.2.1).2)
theorem zYo:SdP 55 zKQ:=
 sT (cx':=zQd) (zi ⟨zxW,trivial⟩) call55 func55 (lOK (aC z1M aN))
abbrev zxf:=Unit×Int×Unit
abbrev zsG:=Relation×Unit
def zsu (i:Int) (r:Relation):Wy zxf zsG (Bool⊕Unit):=.i (decide (i<Int.ofNat r.Rows.length)) (.i (decide (0<=i)&&decide (i<Int.ofNat r.Rows.length)) (.bn (zBe r.Columns (r.Rows.getD i.toNat default).Values) λr2=>.i (!r2) (.k (.inl false)) (.i (Int.ofNat (r.Rows.getD i.toNat default).Ann.length==0) (.k (.inl false)) (.bn (zyr (r.Rows.getD i.toNat default).Ann) λr1=>.i (!r1) (.k (.inl false)) (.i (decide (i>0)) (.i (decide (0<=IntKind.i64.wrap (i - 1))&&decide (IntKind.i64.wrap (i - 1)<Int.ofNat r.Rows.length)) (.bn (zj0 (r.Rows.getD (IntKind.i64.wrap (i - 1)).toNat default).Values (r.Rows.getD i.toNat default).Values) λr0=>.i (decide (r0≥0)) (.k (.inl false)) (.h ((),(IntKind.i64.wrap (i+1)),()) (r,()))) .d) (.h ((),(IntKind.i64.wrap (i+1)),()) (r,())))))) .d) (.k (.inr ()))
def zDg (x:zxf) (y:zsG):=zsu x.2.1 y.1
def zMZ (n:Nat) (i:Int) (r:Relation):=zB (zDg) (.inl default) n ((),i,()) (r,())
def z0M:LL ty zxf:=za (zdd 248 0) (za zj zl)
def z12:BL ty zsG:=zeq (zdO (λx=>(⟨x.1,x.2.1⟩:Relation)) (λx=>(x.Columns,x.Rows,())) (λ_=>rfl) (za (lSl 75) (za (lSl 54) zl))) false (zbb)
def z0y (x:zxf) (y:zsG):Nat:=(Int.toNat x.2.1+y.1.Columns.length+y.1.Rows.length+1)
def zN1:=zbX base 62 [(54,zEC),(55,zKQ),(56,zzp),(57,zry)] [] [(4,(kpL [1,3]))] [(4,1,[]),(4,0,(kpL [2]))] [(4,spW z0M z12 (zDg) (.inl default) zlC z0y)] []
theorem zZN:zF zN1 (lp (body f15) 0):=zn (id:=4) (hl:=rfl)
def zQz (r:Relation):Wy0 (Bool):=.bn (zua r.Columns) λr7=>.i (!r7) (.k false) (.i (decide (Int.ofNat r.Rows.length>1024)) (.k false) (.bn (zMZ (Int.toNat 0+r.Columns.length+r.Rows.length+1) 0 r) λr6=>.i (isL r6) (.k (getL r6)) (.k true)))
def zuS (r:Relation):=(zQz r).fin default
def z3t:AL base zsG:=zd (zg (zcb 25)) zq
def zyY:=zh z3t λx=>((zuS x.1).1,zQK (zuS x.1).2)
theorem zGb:SdP 15 zyY:=
 sT (cx':=zN1) (zi ⟨zRd,zYo,zF1,zxK,trivial⟩) call15 func15 (lOK (aC zZN aN))
abbrev zvJ:=Unit×Unit×Int×Unit
abbrev zvY:=Relation×List ByteArray×Unit
def zqL (i:Int) (r:Relation) (out_:List ByteArray):Wy zvJ zvY (List ByteArray):=.i (decide (i<Int.ofNat r.Rows.length)) (.i (decide (0<=i)&&decide (i<Int.ofNat r.Rows.length)) (.bn (zsc (r.Rows.getD i.toNat default).Values) λr1=>.i (decide (r1.size+(ByteArray.mk #[(32:UInt8),(124:UInt8),(32:UInt8)]).size<=9223372036854775807)) (.i (decide (0<=i)&&decide (i<Int.ofNat r.Rows.length)) (.bn (zwp (r.Rows.getD i.toNat default).Ann) λr0=>.i (decide ((r1++ByteArray.mk #[(32:UInt8),(124:UInt8),(32:UInt8)]).size+r0.size<=9223372036854775807)) (.i (decide ((out_.length+[r1++ByteArray.mk #[(32:UInt8),(124:UInt8),(32:UInt8)]++r0].length)*16<=zbh)) (.h ((),(),(IntKind.i64.wrap (i+1)),()) (r,(out_++[r1++ByteArray.mk #[(32:UInt8),(124:UInt8),(32:UInt8)]++r0]),())) .d) .d) .d) .d) .d) (.k out_)
def zBP (x:zvJ) (y:zvY):=zqL x.2.2.1 y.1 y.2.1
def zKc (n:Nat) (i:Int) (r:Relation) (out_:List ByteArray):=zB (zBP) default n ((),(),i,()) (r,out_,())
def zXp (r:List ByteArray):LTree ty:=.done (.exit 0) [.own 156] [.arr 9 r false]
def zY5:LL ty zvJ:=za (zdd 156 0) (za (zeJ 157) (za zj zl))
def zZi:BL ty zvY:=zeq (zdO (λx=>(⟨x.1,x.2.1⟩:Relation)) (λx=>(x.Columns,x.Rows,())) (λ_=>rfl) (za (lSl 75) (za (lSl 54) zl))) false (zeE 9 false (zbb))
def zXu (x:zvJ) (y:zvY):Nat:=(Int.toNat x.2.2.1+y.1.Columns.length+y.1.Rows.length+y.2.1.length+1)
def zKJ:=zbX base 39 [(15,zyY),(47,zGc),(48,zCe),(49,zGm)] [] [(5,(kpL [1,3,4]))] [(5,1,(kpL [3]))] [(5,spW zY5 zZi (zBP) default zXp zXu)] []
theorem zXt:zF zKJ (lp (body f13) 0):=zn (id:=5) (hl:=rfl)
def zNh (r:Relation):Wy0 (List ByteArray):=.bn (zuS r) λr6=>.i (!r6) (.k []) (.bn (zwP r.Columns) λr5=>.bn (zKc (Int.toNat 0+r.Columns.length+r.Rows.length+[r5].length+1) 0 r [r5]) λr4=>.k r4)
def zww (r:Relation):=(zNh r).fin default
def z1U:AL base (Relation×Unit):=zd (zg (zcb 25)) zq
def zF9:=zh z1U λx=>((zww x.1).1,zIc (zww x.1).2)
theorem zS8:SdP 13 zF9:=
 sT (cx':=zKJ) (zi ⟨zGb,zRX,zPZ,zSn,trivial⟩) call13 func13 (lOK (aC zXt aN)) (sg:=⟨[.own 9],[]⟩)
abbrev znE:=yH×yH×Int×Unit
def zjJ (a:yH) (b:yH) (i:Int):Wy znE Unit (Bool⊕Unit):=.i (decide (i<Int.ofNat a.length)) (.i (decide (0<=i)&&decide (i<Int.ofNat a.length)) (.i (decide (0<=i)&&decide (i<Int.ofNat b.length)) (.i (!((a.getD i.toNat default).Name.toList==(b.getD i.toNat default).Name.toList&&((a.getD i.toNat default).Type_==(b.getD i.toNat default).Type_&&true))) (.k (.inl false)) (.h (a,b,(IntKind.i64.wrap (i+1)),()) ())) .d) .d) (.k (.inr ()))
def zty (x:znE) (y:Unit):=zjJ x.1 x.2.1 x.2.2.1
def zBM (n:Nat) (a:yH) (b:yH) (i:Int):=zB (zty) (.inl default) n (a,b,i,()) ()
def zN5:LL ty znE:=za (lSl 75) (za (lSl 75) (za zj zl))
def zMm (x:znE) (y:Unit):Nat:=(x.1.length+x.2.1.length+Int.toNat x.2.2.1+1)
def zBf:=zbX base 26 [] [] [(4,(kpL [0,1,5]))] [(4,1,[]),(4,0,(kpL [4]))] [(4,spW zN5 z3q (zty) (.inl default) zlC zMm)] []
theorem zNj:zF zBf (lp (body f23) 0):=zn (id:=4) (hl:=rfl)
def zCj (a:yH) (b:yH):Wy0 (Bool):=.i (Int.ofNat a.length != Int.ofNat b.length) (.k false) (.bn (zBM (a.length+b.length+Int.toNat 0+1) a b 0) λr0=>.i (isL r0) (.k (getL r0)) (.k true))
def zmR (a:yH) (b:yH):=(zCj a b).fin default
def zyg:=zh zwa λx=>((zmR x.1 x.2.1).1,zQK (zmR x.1 x.2.1).2)
theorem zJL:SdP 23 zyg:=
 sT (cx':=zBf) (zi trivial) call23 func23 (lOK (aC zNj aN))
def z3u:=zbu base 9 [(57,zry)]
def zTF (a:yG) (b:yG):Wy0 (Bool):=.bn (zj0 a b) λr0=>.k (r0==0)
def zBG (a:yG) (b:yG):=(zTF a b).fin default
def zKl:=zh zRe λx=>((zBG x.1 x.2.1).1,zQK (zBG x.1 x.2.1).2)
theorem zW9:SdP 31 zKl:=
 sT (cx':=z3u) (zi ⟨zxK,trivial⟩) call31 func31 (lOK aN)
abbrev zrh:=yF×yF×Int×Unit
def znh (a:yF) (b:yF) (i:Int):Wy zrh Unit (Bool⊕Unit):=.i (decide (i<Int.ofNat a.length)) (.i (decide (0<=i)&&decide (i<Int.ofNat a.length)) (.i (decide (0<=i)&&decide (i<Int.ofNat b.length)) (.bn (zBG (a.getD i.toNat default).Values (b.getD i.toNat default).Values) λr1=>.i (!r1) (.k (.inl false)) (.i (decide (0<=i)&&decide (i<Int.ofNat a.length)) (.i (decide (0<=i)&&decide (i<Int.ofNat b.length)) (.bn (zrg (a.getD i.toNat default).Ann (b.getD i.toNat default).Ann) λr0=>.i (!r0) (.k (.inl false)) (.h (a,b,(IntKind.i64.wrap (i+1)),()) ())) .d) .d)) .d) .d) (.k (.inr ()))
def zxO (x:zrh) (y:Unit):=znh x.1 x.2.1 x.2.2.1
def zGe (n:Nat) (a:yF) (b:yF) (i:Int):=zB (zxO) (.inl default) n (a,b,i,()) ()
def zU2:LL ty zrh:=za (lSl 54) (za (lSl 54) (za zj zl))
def zTV (x:zrh) (y:Unit):Nat:=(x.1.length+x.2.1.length+Int.toNat x.2.2.1+1)
def zGk:=zbX base 43 [(31,zKl),(33,zAJ)] [] [(4,(kpL [0,1,5]))] [(4,1,[]),(4,0,(kpL [4]))] [(4,spW zU2 z3q (zxO) (.inl default) zlC zTV)] []
theorem zUr:zF zGk (lp (body f24) 0):=zn (id:=4) (hl:=rfl)
def zH2 (a:yF) (b:yF):Wy0 (Bool):=.i (Int.ofNat a.length != Int.ofNat b.length) (.k false) (.bn (zGe (a.length+b.length+Int.toNat 0+1) a b 0) λr4=>.i (isL r4) (.k (getL r4)) (.k true))
def zsA (a:yF) (b:yF):=(zH2 a b).fin default
def zXa:AL base (yF×yF×Unit):=zd (zg (vSl 54)) (zd (zg (vSl 54)) zq)
def zCh:=zh zXa λx=>((zsA x.1 x.2.1).1,zQK (zsA x.1 x.2.1).2)
theorem zOC:SdP 24 zCh:=
 sT (cx':=zGk) (zi ⟨zW9,zIV,trivial⟩) call24 func24 (lOK (aC zUr aN))
def z28:=zbu base 17 [(23,zyg),(24,zCh)]
def zTn (a:Relation) (b:Relation):Wy0 (Bool):=.bn (zmR a.Columns b.Columns) λr1=>.i (r1) (.bn (zsA a.Rows b.Rows) λr0=>.k r0) (.k false)
def zAA (a:Relation) (b:Relation):=(zTn a b).fin default
def zKr:=zh zYw λx=>((zAA x.1 x.2.1).1,zQK (zAA x.1 x.2.1).2)
theorem zXc:SdP 17 zKr:=
 sT (cx':=z28) (zi ⟨zJL,zOC,trivial⟩) call17 func17 (lOK aN)
abbrev zi4:=Unit×Unit×Unit×Unit×Int×Unit
abbrev zdC:=Relation×Relation×List ByteArray×List ByteArray×Unit
abbrev zvE:=Bool⊕(Relation×Relation)
abbrev znA:=Unit×Unit×Unit×Unit×Unit
abbrev zeA:=Unit×Unit×Unit
abbrev zdD:=Relation×Relation×Unit
def znV (i:Int) (a:Relation) (b:Relation) (l:List ByteArray) (m:List ByteArray):Wy zi4 zdC zvE:=.i (decide (i<Int.ofNat l.length)) (.i (decide (0<=i)&&decide (i<Int.ofNat l.length)) (.i (decide (0<=i)&&decide (i<Int.ofNat m.length)) (.i (!ByteArray.toList (l.getD i.toNat default)==ByteArray.toList (m.getD i.toNat default)) (.k (.inl false)) (.h ((),(),(),(),(IntKind.i64.wrap (i+1)),()) (a,b,l,m,()))) .d) .d) (.k (.inr (a,b)))
def znt (x:zi4) (y:zdC):=znV x.2.2.2.2.1 y.1 y.2.1 y.2.2.1 y.2.2.2.1
def zn1 (n:Nat) (i:Int) (a:Relation) (b:Relation) (l:List ByteArray) (m:List ByteArray):=zB (znt) (.inl default) n ((),(),(),(),i,()) (a,b,l,m,())
def zFv (r:zvE):LTree ty:=.ite (isL r) (.done .ret [.lit (.bool (getL r))] []) (.done (.exit 0) [.ptr 232 0,.ptr 233 0] [.box (base.enc 25 (getR r).1) false,.box (base.enc 25 (getR r).2) false])
def zGO:LL ty zi4:=za (zdd 232 0) (za (zdd 233 0) (za (zeJ 234) (za (zeJ 235) (za zj zl))))
def zHc:BL ty zdC:=zeq (zdO (λx=>(⟨x.1,x.2.1⟩:Relation)) (λx=>(x.Columns,x.Rows,())) (λ_=>rfl) (za (lSl 75) (za (lSl 54) zl))) false (zeq (zdO (λx=>(⟨x.1,x.2.1⟩:Relation)) (λx=>(x.Columns,x.Rows,())) (λ_=>rfl) (za (lSl 75) (za (lSl 54) zl))) false (zeE 9 false (zeE 9 false (zbb))))
def znp (a:Relation) (b:Relation) (l:List ByteArray) (m:List ByteArray):Wy znA zdC (Bool):=.bn (zn1 (Int.toNat 0+a.Columns.length+a.Rows.length+b.Columns.length+b.Rows.length+l.length+m.length+1000) 0 a b l m) λr5=>.i (isL r5) (.k (getL r5)) (.bn (zom (getR r5).1) λr4=>.bn (zuS (getR r5).1) λr3=>.i (r4==r3) (.bn (zkR (getR r5).1 (getR r5).2) λr2=>.bn (zAA (getR r5).1 (getR r5).2) λr1=>.i (r2==r1) (.bn (zkR (getR r5).1 (getR r5).1) λr0=>.k r0) (.k false)) (.k false))
def znn (x:znA) (y:zdC):=znp y.1 y.2.1 y.2.2.1 y.2.2.2.1
def zvZ (n:Nat) (a:Relation) (b:Relation) (l:List ByteArray) (m:List ByteArray):=zB (znn) default n ((),(),(),(),()) (a,b,l,m,())
def zFo (r:Bool):LTree ty:=.done .ret [.lit (.bool r)] []
def zGT:LL ty znA:=za (zdd 232 0) (za (zdd 233 0) (za (zeJ 234) (za (zeJ 235) zl)))
def znP (a:Relation) (b:Relation):Wy zeA zdD (Bool):=.bn (zri a) λr14=>.bn (zww a) λr13=>.i (Int.ofNat r14.length != Int.ofNat r13.length) (.k false) (.bn (zvZ 1 a b r14 r13) λr12=>.k r12)
def znK (x:zeA) (y:zdD):=znP y.1 y.2.1
def zvQ (n:Nat) (a:Relation) (b:Relation):=zB (znK) default n ((),(),()) (a,b,())
def zGt:LL ty zeA:=za (zdd 232 0) (za (zdd 233 0) zl)
def zGP:BL ty zdD:=zeq (zdO (λx=>(⟨x.1,x.2.1⟩:Relation)) (λx=>(x.Columns,x.Rows,())) (λ_=>rfl) (za (lSl 75) (za (lSl 54) zl))) false (zeq (zdO (λx=>(⟨x.1,x.2.1⟩:Relation)) (λx=>(x.Columns,x.Rows,())) (λ_=>rfl) (za (lSl 75) (za (lSl 54) zl))) false (zbb))
def znx (a:Relation) (b:Relation):Wy zeA zdD (Bool):=.bn (zzR 8 30 [a,b]) λr19=>.i (!r19) (.k true) (.bn (zvQ 1 a b) λr18=>.k r18)
def znN (x:zeA) (y:zdD):=znx y.1 y.2.1
def zvN (n:Nat) (a:Relation) (b:Relation):=zB (znN) default n ((),(),()) (a,b,())
def zFj (x:zi4) (y:zdC):Nat:=(Int.toNat x.2.2.2.2.1+y.1.Columns.length+y.1.Rows.length+y.2.1.Columns.length+y.2.1.Rows.length+y.2.2.1.length+y.2.2.2.1.length+1000)
def zgs:=z7R zbD 58 [(10,zHx),(11,zMr),(12,zts),(13,zF9),(14,zps),(15,zyY),(16,zu1),(17,zKr)] [] [(9,(kpL [2,3,5,6,7])),(3,(kpL [2,3])),(5,(kpL [2,3])),(8,(kpL [2,3,5,6]))] [(9,1,(kpL [2,3])),(9,0,(kpL [4])),(3,0,(kpL [4])),(5,0,(kpL [4])),(8,0,(kpL [4]))] [(9,spW zGO zHc (znt) (.inl default) zFv zFj)] [] [(8,spW zGT zHc (znn) default zFo λx y=>(1)),(5,spW zGt zGP (znK) default zFo λx y=>(1)),(3,spW zGt zGP (znN) default zFo λx y=>(1))]
theorem zFC:zF zgs (lp (body f3) 0):=zn (id:=9) (hl:=rfl)
theorem zE2:zMM zgs (jn (body f3) 8):=zXs (id:=8) (hl:=rfl)
theorem zFU:zMM zgs (jn (body f3) 5):=zXs (id:=5) (hl:=rfl)
theorem zFX:zMM zgs (jn (body f3) 3):=zXs (id:=3) (hl:=rfl)
def zwb (a:Relation) (b:Relation):Wy0 (Bool):=.bn (zvN 1 a b) λr22=>.k r22
def zf5 (a:Relation) (b:Relation):=(zwb a b).fin default
def zHO:AL zbD zdD:=zd (zg (zcb 25)) (zd (zg (zcb 25)) zq)
def zlH:=zh zHO λx=>((zf5 x.1 x.2.1).1,zQK (zf5 x.1 x.2.1).2)
theorem zCZ:Sound Tryz.prog zbD 3 zlH:=
 z0S (cx':=zgs) zyG zPX zbaV (z9B ⟨zVh,zYO.nodr,zzD,zS8.nodr,ztU.nodr,zGb.nodr,zAy.nodr,zXc.nodr,trivial⟩) call3 func3 (c:=body f3) (by kernel_rfl) (z3c (l:=[lp (body f3) 0]) (by kernel_rfl) ⟨zFC,trivial⟩ (js:=[jn (body f3) 3,jn (body f3) 5,jn (body f3) 8]) (by kernel_rfl) ⟨zFX,zFU,zE2,trivial⟩) (sg:=⟨[.pure],[]⟩)
def trV (v:Value):TT:=.l [.i v.Kind,.i v.Int,trB v.Text]
mutual
def zeC:At->TT
 | ⟨k,r,a,f,i,o,b⟩=>.l [.i k,.i r.Table,.i r.Seq,.l (zuo a),.i f,.l (zgM i),.i o,trV b]
def zpk:Fc->TT
 | ⟨x,e⟩=>.l [zeC x,.i e]
def zbT:yC->List TT
 | []=>[]
 | x::r=>zpk x::zbT r
def zwO:Term->TT
 | ⟨c,fs⟩=>.l [.l (zbT fs),.i c]
def zc1:yB->List TT
 | []=>[]
 | x::r=>zwO x::zc1 r
def zuo:yA->List TT
 | []=>[]
 | x::r=>.l (zc1 x)::zuo r
def zfI:Wd->TT
 | ⟨v,a⟩=>.l [trV v,.l (zc1 a)]
def zgM:yD->List TT
 | []=>[]
 | x::r=>zfI x::zgM r
end
theorem zuO:∀ l,zbT l=l.map zpk
 | []=>by rw [zbT]; rfl
 | x::r=>by rw [zbT,zuO r]; rfl
theorem zEx:∀ l,zc1 l=l.map zwO
 | []=>by rw [zc1]; rfl
 | x::r=>by rw [zc1,zEx r]; rfl
theorem zAI:∀ l,zuo l=l.map λx=>.l (zc1 x)
 | []=>by rw [zuo]; rfl
 | x::r=>by rw [zuo,zAI r]; rfl
theorem zrB:∀ l,zgM l=l.map zfI
 | []=>by rw [zgM]; rfl
 | x::r=>by rw [zgM,zrB r]; rfl
theorem zFR:∀ a b:List UInt8,(a.map λx=>TT.i (x.toNat:Int))=(b.map λx=>TT.i (x.toNat:Int))->a=b
 | [],[]=>λ_=>rfl
 | [],_::_=>λh=>by simp at h
 | _::_,[]=>λh=>by simp at h
 | x::a,y::b=>λh=>by
  simp only [List.map,qj,TT.i.injEq] at h;rw [zFR a b h.2,UInt8.toNat_inj.1 (Int.ofNat.inj h.1)]
theorem z1e {a b:Value} (h:trV a=trV b):a=b:=by
 obtain ⟨k,n,s⟩:=a; obtain ⟨k',n',s'⟩:=b;simp only [trV,trB,TT.l.injEq,qj,TT.i.injEq,and_true] at h;obtain ⟨rfl,rfl,h⟩:=h;have:=zFR _ _ h;obtain ⟨⟨l⟩⟩:=s; obtain ⟨⟨l'⟩⟩:=s';simp only at this; subst this; rfl
mutual
theorem zZY:∀ a b:At,zeC a=zeC b->a=b
 | ⟨k,r,a,f,i,o,v⟩,⟨k',r',a',f',i',o',v'⟩=>λh=>by
  simp only [zeC,TT.l.injEq,qj,TT.i.injEq,and_true] at h;obtain ⟨rfl,h1,h2,h3,rfl,h4,rfl,h5⟩:=h;obtain ⟨t,s⟩:=r; obtain ⟨t',s'⟩:=r';simp only at h1 h2; subst h1 h2;rw [zZC a a' h3,zWc i i' h4,z1e h5]
theorem z3Z:∀ a b:Fc,zpk a=zpk b->a=b
 | ⟨x,e⟩,⟨x',e'⟩=>λh=>by
  simp only [zpk,TT.l.injEq,qj,TT.i.injEq,and_true] at h;rw [zZY x x' h.1,h.2]
theorem zFe:∀ a b:yC,zbT a=zbT b->a=b
 | [],[]=>λ_=>rfl
 | [],_::_=>λh=>by simp [zbT] at h
 | _::_,[]=>λh=>by simp [zbT] at h
 | x::a,y::b=>λh=>by
  simp only [zbT,qj] at h;rw [z3Z x y h.1,zFe a b h.2]
theorem z6V:∀ a b:Term,zwO a=zwO b->a=b
 | ⟨c,l⟩,⟨c',l'⟩=>λh=>by
  simp only [zwO,TT.l.injEq,qj,TT.i.injEq,and_true] at h;rw [zFe l l' h.1,h.2]
theorem zDH:∀ a b:yB,zc1 a=zc1 b->a=b
 | [],[]=>λ_=>rfl
 | [],_::_=>λh=>by simp [zc1] at h
 | _::_,[]=>λh=>by simp [zc1] at h
 | x::a,y::b=>λh=>by
  simp only [zc1,qj] at h;rw [z6V x y h.1,zDH a b h.2]
theorem zZC:∀ a b:yA,zuo a=zuo b->a=b
 | [],[]=>λ_=>rfl
 | [],_::_=>λh=>by simp [zuo] at h
 | _::_,[]=>λh=>by simp [zuo] at h
 | x::a,y::b=>λh=>by
  simp only [zuo,qj,TT.l.injEq] at h;rw [zDH x y h.1,zZC a b h.2]
theorem z7i:∀ a b:Wd,zfI a=zfI b->a=b
 | ⟨c,l⟩,⟨c',l'⟩=>λh=>by
  simp only [zfI,TT.l.injEq,qj,and_true] at h;rw [z1e h.1,zDH l l' h.2]
theorem zWc:∀ a b:yD,zgM a=zgM b->a=b
 | [],[]=>λ_=>rfl
 | [],_::_=>λh=>by simp [zgM] at h
 | _::_,[]=>λh=>by simp [zgM] at h
 | x::a,y::b=>λh=>by
  simp only [zgM,qj] at h;rw [z7i x y h.1,zWc a b h.2]
end
def zd2 (P:yB->Prop) (x:At):Prop:=
 (x.Ag.length<=1000000/\x.Items.length<=1000000/\x.Bd.Text.size<=1000000000000)/\(∀ a∈x.Ag,P a)/\∀ w∈x.Items,w.Value.Text.size<=1000000000000/\P w.Ann
def zhf (P:yB->Prop) (l:yC):Prop:=l.length<=1000000/\∀ f∈l,zd2 P f.At
def zG:Nat->yB->Prop
 | 0,_=>False
 | n+1,a=>a.length<=1000000/\∀ t∈a,zhf (zG n) t.Fs
theorem zd2.imp {P Q:yB->Prop} (h:∀ a,P a->Q a) {x:At} (hx:zd2 P x):zd2 Q x:=⟨hx.1,λa ha=>h a (hx.2.1 a ha),λw hw=>⟨(hx.2.2 w hw).1,h _ (hx.2.2 w hw).2⟩⟩
theorem zG.succ:∀ (n:Nat) (a:yB),zG n a->zG (n+1) a
 | 0,_,h=>h.elim
 | n+1,a,h=>⟨h.1,λt ht=>⟨(h.2 t ht).1,λf hf=>((h.2 t ht).2 f hf).imp (zG.succ n)⟩⟩
theorem zG.mono {n m:Nat} {a:yB} (h:zG n a) (hm:n<=m):zG m a:=by
 obtain ⟨k,rfl⟩:=Nat.exists_eq_add_of_le hm;clear hm;induction k with
 | zero=>exact h
 | succ k ih=>exact zG.succ _ _ ih
theorem zmL:∀ {l:yC},zrc l->∀ x∈l,ztK x
 | [],_,x,hx=>by cases hx
 | y::r,h,x,hx=>by
  unfold zrc at h;rcases qd.1 hx with rfl | hx
  ·exact h.1
  ·exact zmL h.2 x hx
theorem zqw:∀ {l:yB},zfd l->∀ x∈l,zyB x
 | [],_,x,hx=>by cases hx
 | y::r,h,x,hx=>by
  unfold zfd at h;rcases qd.1 hx with rfl | hx
  ·exact h.1
  ·exact zqw h.2 x hx
theorem zjM:∀ {l:yA},zwx l->∀ x∈l,zfd x/\x.length<=z6
 | [],_,x,hx=>by cases hx
 | y::r,h,x,hx=>by
  unfold zwx at h;rcases qd.1 hx with rfl | hx
  ·exact h.1
  ·exact zjM h.2 x hx
theorem zjo:∀ {l:yD},zsj l->∀ x∈l,zKW x.Value/\zfd x.Ann/\x.Ann.length<=z6
 | [],_,x,hx=>by cases hx
 | y::r,h,x,hx=>by
  unfold zsj at h;rcases qd.1 hx with rfl | hx
  ·have:=h.1; unfold zEe at this; exact ⟨this.1,this.2.1,this.2.2⟩
  ·exact zjo h.2 x hx
theorem ztX {t:Term} (h:zyB t):wf2 t.Cf/\zrc t.Fs/\t.Fs.length<=z6:=by
 unfold zyB at h; exact ⟨h.1,h.2.1,h.2.2⟩
theorem zpe {t:Fc} (h:ztK t):zfP t.At/\wf3 t.Exp:=by
 unfold ztK at h; exact h
theorem zqv {x:At} (h:zfP x):(zwx x.Ag/\x.Ag.length<=z6)/\(zsj x.Items/\x.Items.length<=z6)/\zKW x.Bd/\wf3 x.Kind/\z1S x.Row/\wf3 x.Func/\wf3 x.Op:=by
 obtain ⟨k,r,a,f,i,o,b⟩:=x; unfold zfP at h; exact ⟨h.2.2.1,h.2.2.2.2.1,h.2.2.2.2.2.2,h.1,h.2.1,h.2.2.2.1,h.2.2.2.2.2.1⟩
theorem zou {z:Int} (h0: -4611686018427387904<=z) (h:z<4611686018427387904):IntKind.i64.wrap z=z:=zUO (by omega) (by omega)
mutual
def zCM:At->Nat
 | ⟨_,_,a,_,i,_,b⟩=>i.length+a.length+b.Text.size+zor a+zjX i
def zgx:yC->Nat
 | []=>0
 | ⟨x,_⟩::r=>zCM x+zgx r
def zdH:yB->Nat
 | []=>0
 | ⟨_,fs⟩::r=>1+fs.length+zgx fs+zdH r
def zor:yA->Nat
 | []=>0
 | a::r=>zdH a+zor r
def zjX:yD->Nat
 | []=>0
 | ⟨v,a⟩::r=>v.Text.size+zdH a+zjX r
end
theorem zZv (x:At):zCM x=x.Items.length+x.Ag.length+x.Bd.Text.size+zor x.Ag+zjX x.Items:=by cases x; rw [zCM]
theorem zKe (f:Fc) (r:yC):zgx (f::r)=zCM f.At+zgx r:=by cases f; rw [zgx]
theorem zLY (t:Term) (r:yB):zdH (t::r)=1+t.Fs.length+zgx t.Fs+zdH r:=by cases t; rw [zdH]
theorem zUv (a:yB) (r:yA):zor (a::r)=zdH a+zor r:=by rw [zor]
theorem zFA (w:Wd) (r:yD):zjX (w::r)=w.Value.Text.size+zdH w.Ann+zjX r:=by cases w; rw [zjX]
theorem z5W:zor []=0:=by rw [zor]
theorem z4X:zjX []=0:=by rw [zjX]
theorem z17:zgx []=0:=by rw [zgx]
theorem z7z:zdH []=0:=by rw [zdH]
section
variable (g:yB->Int->Int->Bool×Int) (a:yB) (limit d:Nat) (hl:limit<=1000) (hd:d<=100) (B:Nat) (hB:B<=1152921504606846976) (P:yB->Prop)
include hl hd hB
theorem w14 (x:At) (i k:Int) (hlen:x.Ag.length<=z6) (hg:∀ y∈x.Ag,∀ l:Nat,l<=1000->∃ w:Nat,g y l d=(true,(w:Int))/\w<=B/\(w<=l->P y/\zdH y<=w)):
  ∀ (fuel j n:Nat),x.Ag.length<j+fuel->j<=x.Ag.length->n<=2305843009213693952->∃ n':Nat,zw0 g fuel a limit (d+1:Nat) n i k j x=(true,(a,(limit:Int),((d+1:Nat):Int),(n':Int),i,k,x))/\n<=n'/\n'<=max n (limit+B)/\(n'<=limit->(∀ y∈x.Ag.drop j,P y)/\n+zor (x.Ag.drop j)<=n')
 | 0,j,n,h1,h2,h3=>by omega
 | fuel+1,j,n,h1,h2,h3=>by
  show ∃ n':Nat,(zwf g a limit (d+1:Nat) n i k j x).ev (λx y=>zw0 g fuel x.1 x.2.1 x.2.2.1 x.2.2.2.1 x.2.2.2.2.1 x.2.2.2.2.2.1 x.2.2.2.2.2.2.2.1 y.1) (λr=>(true,r)) (false,default)=_/\_
  unfold zwf;have hml:z6=140737488351232:=rfl;by_cases hj:j<x.Ag.length
  ·by_cases hn:n<=limit
   ·have e1:IntKind.i64.wrap ((limit:Int) - (n:Int))=((limit - n:Nat):Int):=by rw [zou (by omega) (by omega)]; omega
    obtain ⟨w,hw,hwB,hwP⟩:=hg _ (zL hj) (limit - n) (by omega)
    have ed:IntKind.i64.wrap (((d+1:Nat):Int) - 1)=(d:Int):=by rw [zou (by omega) (by omega)]; omega
    simp only [Wy.ev_i,Wy.ev_k,Wy.ev_h,Wy.ev_bn,Wy.ev_d,tT,hj,zsH,hn,e1,ed,hw];have e3:IntKind.i64.wrap ((n:Int)+(w:Int))=((n+w:Nat):Int):=by rw [zou (by omega) (by omega)]; omega
    rw [e3,zX (by omega)]
    obtain ⟨n',h4,h5,h6,h7⟩:=w14 x i k hlen hg fuel (j+1) (n+w) (by omega) (by omega) (by omega)
    refine ⟨n',h4,by omega,by omega,λhn'=> ?_⟩
    obtain ⟨h8,h9⟩:=h7 hn';obtain ⟨p1,p2⟩:=hwP (by omega)
    rw [zbH hj,zUv];refine ⟨λy hy=> ?_,by omega⟩
    rcases qd.1 hy with rfl | hy
    ·exact p1
    ·exact h8 y hy
   ·simp only [Wy.ev_i,Wy.ev_k,Wy.ev_h,Wy.ev_bn,Wy.ev_d,tT,hj,zsH,hn];exact ⟨n,rfl,Nat.le_refl _,by omega,λh=>absurd h hn⟩
  ·simp only [Wy.ev_i,Wy.ev_k,Wy.ev_h,Wy.ev_bn,Wy.ev_d,tT,hj];exact ⟨n,rfl,Nat.le_refl _,by omega,λ_=>by rw [zdn hj,z5W]; exact ⟨λy hy=>(by cases hy),Nat.le_refl _⟩⟩
theorem w18 (x:At) (i k:Int) (hlen:x.Items.length<=z6) (hg:∀ y∈x.Items,y.Value.Text.size<=z6/\∀ l:Nat,l<=1000->∃ w:Nat,g y.Ann l d=(true,(w:Int))/\w<=B/\(w<=l->P y.Ann/\zdH y.Ann<=w)):
  ∀ (fuel j n:Nat),x.Items.length<j+fuel->j<=x.Items.length->n<=2305843009213693952->∃ n':Nat,zw3 g fuel a limit (d+1:Nat) n i k j x=(true,(a,(limit:Int),((d+1:Nat):Int),(n':Int),i,k))/\n<=n'/\n'<=max n (limit+z6+B)/\(n'<=limit->(∀ y∈x.Items.drop j,y.Value.Text.size<=1000/\P y.Ann)/\n+zjX (x.Items.drop j)<=n')
 | 0,j,n,h1,h2,h3=>by omega
 | fuel+1,j,n,h1,h2,h3=>by
  show ∃ n':Nat,(zwh g a limit (d+1:Nat) n i k j x).ev (λx y=>zw3 g fuel x.1 x.2.1 x.2.2.1 x.2.2.2.1 x.2.2.2.2.1 x.2.2.2.2.2.1 x.2.2.2.2.2.2.2.1 y.1) (λr=>(true,r)) (false,default)=_/\_
  unfold zwh;have hml:z6=140737488351232:=rfl;by_cases hj:j<x.Items.length
  ·by_cases hn:n<=limit
   ·have e1:IntKind.i64.wrap ((limit:Int) - (n:Int))=((limit - n:Nat):Int):=by rw [zou (by omega) (by omega)]; omega
    obtain ⟨ht,hgy⟩:=hg _ (zL hj);obtain ⟨w,hw,hwB,hwP⟩:=hgy (limit - n) (by omega)
    have ed:IntKind.i64.wrap (((d+1:Nat):Int) - 1)=(d:Int):=by rw [zou (by omega) (by omega)]; omega
    simp only [Wy.ev_i,Wy.ev_k,Wy.ev_h,Wy.ev_bn,Wy.ev_d,tT,hj,zsH,hn,e1,ed,hw];generalize hsz:(x.Items.getD j default).Value.Text.size=sz at *;have e3:IntKind.i64.wrap (IntKind.i64.wrap ((n:Int)+(sz:Int))+(w:Int))=((n+sz+w:Nat):Int):=by rw [zou (z:=(n:Int)+(sz:Int)) (by omega) (by omega),zou (by omega) (by omega)]; omega
    rw [e3,zX (by omega)]
    obtain ⟨n',h4,h5,h6,h7⟩:=w18 x i k hlen hg fuel (j+1) (n+sz+w) (by omega) (by omega) (by omega)
    refine ⟨n',h4,by omega,by omega,λhn'=> ?_⟩
    obtain ⟨h8,h9⟩:=h7 hn';obtain ⟨p1,p2⟩:=hwP (by omega)
    rw [zbH hj,zFA];refine ⟨λy hy=> ?_,by omega⟩
    rcases qd.1 hy with rfl | hy
    ·exact ⟨by omega,p1⟩
    ·exact h8 y hy
   ·simp only [Wy.ev_i,Wy.ev_k,Wy.ev_h,Wy.ev_bn,Wy.ev_d,tT,hj,zsH,hn];exact ⟨n,rfl,Nat.le_refl _,by omega,λh=>absurd h hn⟩
  ·simp only [Wy.ev_i,Wy.ev_k,Wy.ev_h,Wy.ev_bn,Wy.ev_d,tT,hj];exact ⟨n,rfl,Nat.le_refl _,by omega,λ_=>by rw [zdn hj,z4X]; exact ⟨λy hy=>(by cases hy),Nat.le_refl _⟩⟩
theorem w9 (i:Nat) (hi:i<a.length) (hla:(a.getD i default).Fs.length<=z6) (hg:∀ f∈(a.getD i default).Fs,f.At.Ag.length<=z6/\f.At.Items.length<=z6/\f.At.Bd.Text.size<=z6/\(∀ y∈f.At.Ag,∀ l:Nat,l<=1000->∃ w:Nat,g y l d=(true,(w:Int))/\w<=B/\(w<=l->P y/\zdH y<=w))/\
   ∀ y∈f.At.Items,y.Value.Text.size<=z6/\∀ l:Nat,l<=1000->∃ w:Nat,g y.Ann l d=(true,(w:Int))/\w<=B/\(w<=l->P y.Ann/\zdH y.Ann<=w)):
  ∀ (fuel k n:Nat),(a.getD i default).Fs.length<k+fuel->k<=(a.getD i default).Fs.length->n<=2305843009213693952->∃ n':Nat,zxY g fuel a limit (d+1:Nat) n i k=(true,(a,(limit:Int),((d+1:Nat):Int),(n':Int),(i:Int)))/\n<=n'/\n'<=max n (limit+4*z6+B)/\
   (n'<=limit->(∀ f∈(a.getD i default).Fs.drop k,(f.At.Ag.length<=1000/\f.At.Items.length<=1000/\f.At.Bd.Text.size<=1000)/\(∀ y∈f.At.Ag,P y)/\∀ y∈f.At.Items,y.Value.Text.size<=1000/\P y.Ann)/\n+zgx ((a.getD i default).Fs.drop k)<=n')
 | 0,k,n,h1,h2,h3=>by omega
 | fuel+1,k,n,h1,h2,h3=>by
  show ∃ n':Nat,(zx9 g a limit (d+1:Nat) n i k).ev (λx y=>zxY g fuel x.1 x.2.1 x.2.2.1 x.2.2.2.1 x.2.2.2.2.1 x.2.2.2.2.2.1) (λr=>(true,r)) (false,default)=_/\_
  unfold zx9;have hml:z6=140737488351232:=rfl;by_cases hk:k<(a.getD i default).Fs.length
  ·by_cases hn:n<=limit
   ·simp only [Wy.ev_i,Wy.ev_k,Wy.ev_h,Wy.ev_bn,Wy.ev_d,tT,hi,hk,zsH,hn,At.eta];obtain ⟨ha1,ha2,ha3,hgA,hgI⟩:=hg _ (zL hk);generalize hf:((a.getD i default).Fs.getD k default)=f at *
    have e0:IntKind.i64.wrap (IntKind.i64.wrap (IntKind.i64.wrap ((n:Int)+(f.At.Items.length:Int))+(f.At.Ag.length:Int))+(f.At.Bd.Text.size:Int))=((n+f.At.Items.length+f.At.Ag.length+f.At.Bd.Text.size:Nat):Int):=by
     rw [zou (z:=(n:Int)+(f.At.Items.length:Int)) (by omega) (by omega),zou (z:=(n:Int)+(f.At.Items.length:Int)+(f.At.Ag.length:Int)) (by omega) (by omega),zou (by omega) (by omega)]; omega
    rw [e0];obtain ⟨n1,q1,q2,q3,q4⟩:=w14 g a limit d hl hd B hB P f.At i k ha1 hgA (a.length+limit+(d+1)+((n+f.At.Items.length+f.At.Ag.length+f.At.Bd.Text.size:Nat):Int).toNat +i+k+Int.toNat 0+f.At.Ag.length+f.At.Items.length+1) 0 (n+f.At.Items.length+f.At.Ag.length+f.At.Bd.Text.size) (by omega) (by omega) (by omega)
    rw [show ((0:Nat):Int)=(0:Int) from rfl] at q1
    rw [q1];simp only [cond_true,At.eta,Int.toNat_natCast];obtain ⟨n2,r1,r2,r3,r4⟩:=w18 g a limit d hl hd B hB P f.At i k ha2 hgI (a.length+limit+(d+1)+n1+i+k+Int.toNat 0+f.At.Ag.length+f.At.Items.length+1) 0 n1 (by omega) (by omega) (by omega)
    rw [show ((0:Nat):Int)=(0:Int) from rfl] at r1
    rw [r1];simp only [cond_true];rw [zX (by omega)]
    obtain ⟨n',h4,h5,h6,h7⟩:=w9 i hi hla hg fuel (k+1) n2 (by omega) (by omega) (by omega)
    refine ⟨n',h4,by omega,by omega,λhn'=> ?_⟩
    obtain ⟨h8,h9⟩:=h7 hn';obtain ⟨q5,q6⟩:=q4 (by omega)
    obtain ⟨r5,r6⟩:=r4 (by omega)
    rw [List.drop_zero] at q5 q6 r5 r6;rw [zbH hk,zKe,hf,zZv];refine ⟨λy hy=> ?_,by omega⟩
    rcases qd.1 hy with rfl | hy
    ·exact ⟨⟨by omega,by omega,by omega⟩,q5,r5⟩
    ·exact h8 y hy
   ·simp only [Wy.ev_i,Wy.ev_k,Wy.ev_h,Wy.ev_bn,Wy.ev_d,tT,hi,hk,zsH,hn];exact ⟨n,rfl,Nat.le_refl _,by omega,λh=>absurd h hn⟩
  ·simp only [Wy.ev_i,Wy.ev_k,Wy.ev_h,Wy.ev_bn,Wy.ev_d,tT,hi,hk];exact ⟨n,rfl,Nat.le_refl _,by omega,λ_=>by rw [zdn hk,z17]; exact ⟨λy hy=>(by cases hy),Nat.le_refl _⟩⟩
theorem w5 (hla:∀ t∈a,t.Fs.length<=z6) (hg:∀ t∈a,∀ f∈t.Fs,f.At.Ag.length<=z6/\f.At.Items.length<=z6/\f.At.Bd.Text.size<=z6/\(∀ y∈f.At.Ag,∀ l:Nat,l<=1000->∃ w:Nat,g y l d=(true,(w:Int))/\w<=B/\(w<=l->P y/\zdH y<=w))/\
   ∀ y∈f.At.Items,y.Value.Text.size<=z6/\∀ l:Nat,l<=1000->∃ w:Nat,g y.Ann l d=(true,(w:Int))/\w<=B/\(w<=l->P y.Ann/\zdH y.Ann<=w)) (hlen:a.length<=z6):
  ∀ (fuel i n:Nat),a.length<i+fuel->i<=a.length->n<=2305843009213693952->∃ n':Nat,zxV g fuel a limit (d+1:Nat) n i=(true,(n':Int))/\n<=n'/\n'<=max n (limit+6*z6+B)/\
   (n'<=limit->(n+(a.length - i)<=n'/\n+zdH (a.drop i)<=n')/\∀ t∈a.drop i,t.Fs.length<=1000/\∀ f∈t.Fs,(f.At.Ag.length<=1000/\f.At.Items.length<=1000/\f.At.Bd.Text.size<=1000)/\(∀ y∈f.At.Ag,P y)/\∀ y∈f.At.Items,y.Value.Text.size<=1000/\P y.Ann)
 | 0,i,n,h1,h2,h3=>by omega
 | fuel+1,i,n,h1,h2,h3=>by
  show ∃ n':Nat,(zx4 g a limit (d+1:Nat) n i).ev (λx y=>zxV g fuel x.1 x.2.1 x.2.2.1 x.2.2.2.1 x.2.2.2.2.1) (λr=>(true,r)) (false,default)=_/\_
  unfold zx4;have hml:z6=140737488351232:=rfl;by_cases hi:i<a.length
  ·by_cases hn:n<=limit
   ·simp only [Wy.ev_i,Wy.ev_k,Wy.ev_h,Wy.ev_bn,Wy.ev_d,tT,hi,zsH,hn];have hla':=hla _ (zL hi)
    have e0:IntKind.i64.wrap (IntKind.i64.wrap ((n:Int)+1)+((a.getD i default).Fs.length:Int))=((n+1+(a.getD i default).Fs.length:Nat):Int):=by
     rw [zX (by omega),zou (by omega) (by omega)]; omega
    rw [e0];obtain ⟨n1,q1,q2,q3,q4⟩:=w9 g a limit d hl hd B hB P i hi hla' (hg _ (zL hi)) (a.length+limit+(d+1)+((n+1+(a.getD i default).Fs.length:Nat):Int).toNat +i+Int.toNat 0+1) 0 (n+1+(a.getD i default).Fs.length) (by omega) (by omega) (by omega)
    rw [show ((0:Nat):Int)=(0:Int) from rfl] at q1
    rw [q1];simp only [cond_true];rw [zX (by omega)]
    obtain ⟨n',h4,h5,h6,h7⟩:=w5 hla hg hlen fuel (i+1) n1 (by omega) (by omega) (by omega)
    refine ⟨n',h4,by omega,by omega,λhn'=> ?_⟩
    obtain ⟨⟨h8,h10⟩,h9⟩:=h7 hn';obtain ⟨q5,q6⟩:=q4 (by omega)
    rw [List.drop_zero] at q5 q6;rw [zbH hi,zLY];refine ⟨⟨by omega,by omega⟩,λy hy=> ?_⟩
    rcases qd.1 hy with rfl | hy
    ·exact ⟨by omega,q5⟩
    ·exact h9 y hy
   ·simp only [Wy.ev_i,Wy.ev_k,Wy.ev_h,Wy.ev_bn,Wy.ev_d,tT,hi,zsH,hn];exact ⟨n,rfl,Nat.le_refl _,by omega,λh=>absurd h hn⟩
  ·simp only [Wy.ev_i,Wy.ev_k,Wy.ev_h,Wy.ev_bn,Wy.ev_d,tT,hi];exact ⟨n,rfl,Nat.le_refl _,by omega,λ_=>by rw [zdn hi,z7z]; exact ⟨⟨by omega,Nat.le_refl _⟩,λy hy=>(by cases hy)⟩⟩
end
theorem z2b:∀ (d N:Nat),d<N->d<=12->∀ (l:Nat),l<=1000->∀ a,zfd a->a.length<=z6->∃ w:Nat,zoy N a l d=(true,(w:Int))/\w<=(d+1)*4503599627370496/\(w<=l->zG d a/\zdH a<=w)
 | _,0,h,_,_,_,_,_,_=>by omega
 | 0,N+1,_,_,l,hl,a,hw,hlen=>by
  rw [zGs];unfold zsB zyU;refine ⟨l+1, ?_,by omega,λh=>by omega⟩
  simp only [Wy.fin_i,Wy.fin_k];rw [zX (by omega)]; rfl
 | d+1,N+1,hN,hd,l,hl,a,hw,hlen=>by
  rw [zGs];unfold zsB zyU;have hml:z6=140737488351232:=rfl;have ih:=λy (h1:zfd y) (h2:y.length<=z6) l hl=>z2b d N (by omega) (by omega) l hl y h1 h2
  have e0:(((d+1:Nat):Int)==(0:Int))=false:=by
   rw [beq_eq_false_iff_ne]; omega
  obtain ⟨n',h1,h2,h3,h4⟩:=w5 (zoy N) a l d hl (by omega) ((d+1)*4503599627370496) (by omega) (zG d) (λt ht=>(ztX (zqw hw t ht)).2.2) (λt ht f hf=>by
   have hx:=zqv (zpe (zmL (ztX (zqw hw t ht)).2.1 f hf)).1;refine ⟨hx.1.2,hx.2.1.2,hx.2.2.1.2.2,λy hy l hl=> ?_,λy hy=> ?_⟩
   ·have:=zjM hx.1.1 y hy;exact ih y this.1 this.2 l hl
   ·have:=zjo hx.2.1.1 y hy;exact ⟨this.1.2.2,λl hl=>ih y.Ann this.2.1 this.2.2 l hl⟩) hlen (a.length+l+(d+1)+Int.toNat 0+Int.toNat 0+1) 0 0 (by omega) (by omega) (by omega)
  rw [show ((0:Nat):Int)=(0:Int) from rfl] at h1
  refine ⟨n', ?_,by omega,λhn=> ?_⟩
  ·simp only [Wy.fin_i,Wy.fin_k,Wy.fin_bn,e0,cond_false,Int.toNat_natCast,h1,cond_true]
  ·obtain ⟨⟨h5,h12⟩,h6⟩:=h4 hn;rw [List.drop_zero] at h12;refine ⟨⟨by omega,λt ht=> ?_⟩,by omega⟩
   obtain ⟨h7,h8⟩:=h6 t (by simpa using ht)
   refine ⟨by omega,λf hf=> ?_⟩
   obtain ⟨h9,h10,h11⟩:=h8 f hf;exact ⟨⟨by omega,by omega,by omega⟩,h10,λw hw=>⟨by have:=(h11 w hw).1; omega,(h11 w hw).2⟩⟩
theorem z41 (limit:Nat) (hl:limit<=1000) (l:yA) (hll:l.length<=1000) (hw:∀ a∈l,zfd a/\a.length<=z6):∀ (n i:Nat),l.length<i+n->i<=l.length->∃ r,zHU n limit l i=(true,r)/\((r=.inl false)\/(r=.inr ()/\∀ a∈l.drop i,zG 12 a/\zdH a<=limit))
 | 0,i,h1,h2=>by omega
 | n+1,i,h1,h2=>by
  show ∃ r,(zIp limit l i).ev (λx y=>zHU n x.1 x.2.1 x.2.2.1) (λr=>(true,r)) (false,.inl default)=(true,r)/\_
  unfold zIp;by_cases hi:i<l.length
  ·obtain ⟨w,q1,q2,q3⟩:=z2b 12 1000 (by omega) (by omega) limit hl _ (hw _ (zL hi)).1 (hw _ (zL hi)).2
   have q1':zIm (l.getD i default) (limit:Int) 12=(true,(w:Int)):=q1;simp only [Wy.ev_i,Wy.ev_k,Wy.ev_h,Wy.ev_bn,Wy.ev_d,tT,hi,q1',ziv];by_cases hg:limit<w
   ·simp only [hg,decide_true,cond_true];exact ⟨_,rfl,.inl rfl⟩
   ·simp only [hg,decide_false,cond_false];rw [zX (by omega)]
    obtain ⟨r,h3,h4⟩:=z41 limit hl l hll hw n (i+1) (by omega) (by omega)
    refine ⟨r,h3, ?_⟩;rcases h4 with h4 | ⟨h4,h5⟩
    ·exact .inl h4
    ·refine .inr ⟨h4,λa ha=> ?_⟩
     rw [zbH hi] at ha;rcases qd.1 ha with rfl | ha
     ·exact ⟨(q3 (by omega)).1,by have:=(q3 (by omega)).2; omega⟩
     ·exact h5 a ha
  ·simp only [Wy.ev_i,Wy.ev_k,Wy.ev_h,Wy.ev_bn,Wy.ev_d,tT,hi];exact ⟨_,rfl,.inr ⟨rfl,λa ha=>by rw [zdn hi] at ha; cases ha⟩⟩
theorem zbcK (limit:Nat) (hl:limit<=1000) (l:yA) (hll:l.length<=1000) (hw:∀ a∈l,zfd a/\a.length<=z6):∃ b,zzK limit l=(true,b)/\(b=true->∀ a∈l,zG 12 a/\zdH a<=limit):=by
 unfold zzK zWu;obtain ⟨r,h1,h2⟩:=z41 limit hl l hll hw (limit+l.length+Int.toNat 0+1) 0 (by omega) (by omega)
 rw [show ((0:Nat):Int)=(0:Int) from rfl] at h1
 rw [Wy.fin_bn];simp only [Int.toNat_natCast,h1,cond_true];rcases h2 with rfl | ⟨rfl,h2⟩
 ·exact ⟨false,rfl,λh=>by cases h⟩
 ·exact ⟨true,rfl,λ_ a ha=>h2 a (by simpa using ha)⟩
mutual
def zeB:At->Nat
 | ⟨_,_,a,_,i,_,_⟩=>zer a+zcQ i
def zbw:yC->Nat
 | []=>0
 | ⟨x,_⟩::r=>zeB x+zbw r
def zP:yB->Nat
 | []=>0
 | ⟨_,fs⟩::r=>1+fs.length+zbw fs+zP r
def zer:yA->Nat
 | []=>0
 | a::r=>zP a+zer r
def zcQ:yD->Nat
 | []=>0
 | ⟨_,a⟩::r=>1+zP a+zcQ r
end
theorem zgy (x:At):zeB x=zer x.Ag+zcQ x.Items:=by cases x; rw [zeB]
theorem zdQ (f:Fc) (r:yC):zbw (f::r)=zeB f.At+zbw r:=by cases f; rw [zbw]
theorem zhh (t:Term) (r:yB):zP (t::r)=1+t.Fs.length+zbw t.Fs+zP r:=by cases t; rw [zP]
theorem zeh (a:yB) (r:yA):zer (a::r)=zP a+zer r:=by rw [zer]
theorem zhi (w:Wd) (r:yD):zcQ (w::r)=1+zP w.Ann+zcQ r:=by cases w; rw [zcQ]
theorem zhg:zer []=0:=by rw [zer]
theorem zfQ:zcQ []=0:=by rw [zcQ]
theorem zoj:zbw []=0:=by rw [zbw]
theorem zA2:zP []=0:=by rw [zP]
theorem zYJ (l:yA):∀ n:Nat,l.foldl (λs t=>s+zP t) n=n+zer l:=by
 induction l with
 | nil=>intro n; rw [zhg]; rfl
 | cons a r ih=>intro n; rw [List.foldl_cons,ih,zeh]; omega
theorem zWA (l:yD):∀ n:Nat,l.foldl (λs t=>s+1+zP t.Ann) n=n+zcQ l:=by
 induction l with
 | nil=>intro n; rw [zfQ]; rfl
 | cons a r ih=>intro n; rw [List.foldl_cons,ih,zhi]; omega
theorem z2Z (l:yC):∀ n:Nat,l.foldl (λs t=>s+zeB t.At) n=n+zbw l:=by
 induction l with
 | nil=>intro n; rw [zoj]; rfl
 | cons a r ih=>intro n; rw [List.foldl_cons,ih,zdQ]; omega
theorem z19 (l:yB):∀ n:Nat,l.foldl (λs t=>s+1+t.Fs.length+zbw t.Fs) n=n+zP l:=by
 induction l with
 | nil=>intro n; rw [zA2]; rfl
 | cons a r ih=>intro n; rw [List.foldl_cons,ih,zhh]; omega
theorem zrD {n m:Nat} (h:n+m<=4611686018427387904):IntKind.i64.wrap ((n:Int)+(m:Int))=((n+m:Nat):Int):=by
 rw [zUO (by omega) (by omega)]; omega
theorem zfZ {i:Nat} (h:i<4611686018427387904):IntKind.i64.wrap ((i:Int)+1)=((i+1:Nat):Int):=zX h
section
variable (g:yB->Bool×Int)
theorem zba6 (l:yA) (hl:l.length<=1000000) (hg:∀ y∈l,g y=(true,(zP y:Int))) (t12:yB) (t13 t14:Int) (t25:yC) (t26 t27:Int) (f:Fc) (fuel n:Nat) (hf:l.length<fuel) (hn:n+zer l<=4611686018427387904):
  zzM g fuel n t12 t13 t14 t25 t26 t27 l l.length 0 f=(true,(((n+zer l:Nat):Int),t12,t13,t14,t25,t26,t27,f)):=by
 have h:=zfn (W:=zsb g) (z:=default) (l:=l) (λi (n:Nat)=>((n:Int),(),t12,t13,t14,t25,t26,t27,l,(l.length:Int),(i:Int),())) (λ_ _=>(f,())) (λy n=>.inl (n+zP y)) (λn=>((n:Int),t12,t13,t14,t25,t26,t27,f)) (λi n=>n+zer (l.drop i)<=4611686018427387904)
  (λi n hi hI=>.inl ⟨_,rfl,by rw [zbH hi,zeh] at hI; omega,λH K D=>by
   rw [zbH hi,zeh] at hI;show (ziT g n t12 t13 t14 t25 t26 t27 l l.length i f).ev H K D=_;unfold ziT;simp only [Wy.ev_i,Wy.ev_k,Wy.ev_h,Wy.ev_bn,Wy.ev_d,tT,hi,hg _ (zL hi)];rw [zrD (by omega),zfZ (by omega)]⟩)
  (λn hI H K D=>by
   show (ziT g n t12 t13 t14 t25 t26 t27 l l.length l.length f).ev H K D=_;unfold ziT;simp only [Wy.ev_i,Wy.ev_k,tT,Nat.lt_irrefl]) fuel 0 n (by omega) (Nat.zero_le _) (by simpa using hn)
 rw [List.drop_zero,zfg,zYJ] at h;exact h
theorem zbbf (l:yD) (hl:l.length<=1000000) (hg:∀ y∈l,g y.Ann=(true,(zP y.Ann:Int))) (t12:yB) (t13 t14:Int) (t25:yC) (t26 t27:Int) (fuel n:Nat) (hf:l.length<fuel) (hn:n+zcQ l<=4611686018427387904):
  zzI g fuel n t12 t13 t14 t25 t26 t27 l l.length 0=(true,(((n+zcQ l:Nat):Int),t12,t13,t14,t25,t26,t27)):=by
 have h:=zfn (W:=zsq g) (z:=default) (l:=l) (λi (n:Nat)=>((n:Int),t12,t13,t14,t25,t26,t27,l,(l.length:Int),(i:Int),())) (λ_ _=>()) (λy n=>.inl (n+1+zP y.Ann)) (λn=>((n:Int),t12,t13,t14,t25,t26,t27)) (λi n=>n+zcQ (l.drop i)<=4611686018427387904)
  (λi n hi hI=>.inl ⟨_,rfl,by rw [zbH hi,zhi] at hI; omega,λH K D=>by
   rw [zbH hi,zhi] at hI;show (ziQ g n t12 t13 t14 t25 t26 t27 l l.length i).ev H K D=_;unfold ziQ;simp only [Wy.ev_i,Wy.ev_k,Wy.ev_h,Wy.ev_bn,Wy.ev_d,tT,hi,hg _ (zL hi)];rw [zfZ (by omega),show (1:Int)=((1:Nat):Int) from rfl,zrD (by omega),zrD (by omega), <- Nat.add_assoc]⟩)
  (λn hI H K D=>by
   show (ziQ g n t12 t13 t14 t25 t26 t27 l l.length l.length).ev H K D=_;unfold ziQ;simp only [Wy.ev_i,Wy.ev_k,tT,Nat.lt_irrefl]) fuel 0 n (by omega) (Nat.zero_le _) (by simpa using hn)
 rw [List.drop_zero,zfg,zWA] at h;exact h
theorem zbcU (l:yC) (hl:l.length<=1000000) (hg:∀ f∈l,(f.At.Ag.length<=1000000/\f.At.Items.length<=1000000)/\(∀ y∈f.At.Ag,g y=(true,(zP y:Int)))/\∀ y∈f.At.Items,g y.Ann=(true,(zP y.Ann:Int))) (t12:yB) (t13 t14:Int) (fuel n:Nat) (hf:l.length<fuel) (hn:n+zbw l<=4611686018427387904):
  zBI g fuel n t12 t13 t14 l l.length 0=(true,(((n+zbw l:Nat):Int),t12,t13,t14)):=by
 have h:=zfn (W:=ztL g) (z:=default) (l:=l) (λi (n:Nat)=>((n:Int),t12,t13,t14,l,(l.length:Int),(i:Int),())) (λ_ _=>()) (λy n=>.inl (n+zeB y.At)) (λn=>((n:Int),t12,t13,t14)) (λi n=>n+zbw (l.drop i)<=4611686018427387904)
  (λi n hi hI=>.inl ⟨_,rfl,by rw [zbH hi,zdQ] at hI; omega,λH K D=>by
   rw [zbH hi,zdQ,zgy] at hI;obtain ⟨⟨h1,h2⟩,h3,h4⟩:=hg _ (zL hi);show (zjU g n t12 t13 t14 l l.length i).ev H K D=_;unfold zjU;simp only [Wy.ev_i,Wy.ev_k,Wy.ev_h,Wy.ev_bn,Wy.ev_d,tT,hi,At.eta];rw [zba6 g _ h1 h3 _ _ _ _ _ _ _ _ _ (by omega) (by omega)]
   simp only [cond_true,Int.toNat_natCast];rw [zbbf g _ h2 h4 _ _ _ _ _ _ _ _ (by omega) (by omega)]
   simp only [cond_true];rw [zfZ (by omega),zgy,Nat.add_assoc]⟩)
  (λn hI H K D=>by
   show (zjU g n t12 t13 t14 l l.length l.length).ev H K D=_;unfold zjU;simp only [Wy.ev_i,Wy.ev_k,tT,Nat.lt_irrefl]) fuel 0 n (by omega) (Nat.zero_le _) (by simpa using hn)
 rw [List.drop_zero,zfg,z2Z] at h;exact h
theorem zbde (l:yB) (hl:l.length<=1000000) (hg:∀ t∈l,t.Fs.length<=1000000/\∀ f∈t.Fs,(f.At.Ag.length<=1000000/\f.At.Items.length<=1000000)/\(∀ y∈f.At.Ag,g y=(true,(zP y:Int)))/\∀ y∈f.At.Items,g y.Ann=(true,(zP y.Ann:Int))) (fuel n:Nat) (hf:l.length<fuel) (hn:n+zP l<=4611686018427387904):
  zAY g fuel n l l.length 0=(true,((n+zP l:Nat):Int)):=by
 have h:=zfn (W:=ztC g) (z:=default) (l:=l) (λi (n:Nat)=>((n:Int),l,(l.length:Int),(i:Int),())) (λ_ _=>()) (λy n=>.inl (n+1+y.Fs.length+zbw y.Fs)) (λn=>(n:Int)) (λi n=>n+zP (l.drop i)<=4611686018427387904)
  (λi n hi hI=>.inl ⟨_,rfl,by rw [zbH hi,zhh] at hI; omega,λH K D=>by
   rw [zbH hi,zhh] at hI;obtain ⟨h1,h3⟩:=hg _ (zL hi);show (zjr g n l l.length i).ev H K D=_;unfold zjr;simp only [Wy.ev_i,Wy.ev_k,Wy.ev_h,Wy.ev_bn,Wy.ev_d,tT,hi,At.eta];rw [show (1:Int)=((1:Nat):Int) from rfl,zrD (n:=1) (by omega),zrD (by omega)]
   rw [zbcU g _ h1 h3 _ _ _ _ _ (by omega) (by omega)]
   simp only [cond_true];rw [show ((1:Nat):Int)=(1:Int) from rfl,zfZ (by omega),Nat.add_assoc n 1]⟩)
  (λn hI H K D=>by
   show (zjr g n l l.length l.length).ev H K D=_;unfold zjr;simp only [Wy.ev_i,Wy.ev_k,tT,Nat.lt_irrefl]) fuel 0 n (by omega) (Nat.zero_le _) (by simpa using hn)
 rw [List.drop_zero,zfg,z19] at h;exact h
theorem z95 (x:At) (hl:x.Ag.length<=1000000) (hg:∀ y∈x.Ag,g y=(true,(zP y:Int))) (a:yB) (i k:Int) (fuel n:Nat) (hf:x.Ag.length<fuel) (hn:n+zer x.Ag<=4611686018427387904):
  zIY g fuel a n i k 0 x=(true,(a,((n+zer x.Ag:Nat):Int),i,k,x)):=by
 have h:=zfn (W:=zzn g) (z:=default) (l:=x.Ag) (λj (n:Nat)=>(a,(n:Int),i,k,(),(j:Int),())) (λ_ _=>(x,())) (λy n=>.inl (n+zP y)) (λn=>(a,(n:Int),i,k,x)) (λi n=>n+zer (x.Ag.drop i)<=4611686018427387904)
  (λj n hi hI=>.inl ⟨_,rfl,by rw [zbH hi,zeh] at hI; omega,λH K D=>by
   rw [zbH hi,zeh] at hI;show (zoK g a n i k j x).ev H K D=_;unfold zoK;simp only [Wy.ev_i,Wy.ev_k,Wy.ev_h,Wy.ev_bn,Wy.ev_d,tT,hi,hg _ (zL hi)];rw [zrD (by omega),zfZ (by omega)]⟩)
  (λn hI H K D=>by
   show (zoK g a n i k x.Ag.length x).ev H K D=_;unfold zoK;simp only [Wy.ev_i,Wy.ev_k,tT,Nat.lt_irrefl]) fuel 0 n (by omega) (Nat.zero_le _) (by simpa using hn)
 rw [List.drop_zero,zfg,zYJ] at h;exact h
theorem z9D (x:At) (hl:x.Items.length<=1000000) (hg:∀ y∈x.Items,g y.Ann=(true,(zP y.Ann:Int))) (a:yB) (i k:Int) (fuel n:Nat) (hf:x.Items.length<fuel) (hn:n+zcQ x.Items<=4611686018427387904):
  zJa g fuel a n i k 0 x=(true,(a,((n+zcQ x.Items:Nat):Int),i,k)):=by
 have h:=zfn (W:=zzv g) (z:=default) (l:=x.Items) (λj (n:Nat)=>(a,(n:Int),i,k,(),(j:Int),())) (λ_ _=>(x,())) (λy n=>.inl (n+1+zP y.Ann)) (λn=>(a,(n:Int),i,k)) (λi n=>n+zcQ (x.Items.drop i)<=4611686018427387904)
  (λj n hi hI=>.inl ⟨_,rfl,by rw [zbH hi,zhi] at hI; omega,λH K D=>by
   rw [zbH hi,zhi] at hI;show (zoW g a n i k j x).ev H K D=_;unfold zoW;simp only [Wy.ev_i,Wy.ev_k,Wy.ev_h,Wy.ev_bn,Wy.ev_d,tT,hi,hg _ (zL hi)];rw [zfZ (i:=j) (by omega),zfZ (i:=n) (by omega),zrD (by omega)]⟩)
  (λn hI H K D=>by
   show (zoW g a n i k x.Items.length x).ev H K D=_;unfold zoW;simp only [Wy.ev_i,Wy.ev_k,tT,Nat.lt_irrefl]) fuel 0 n (by omega) (Nat.zero_le _) (by simpa using hn)
 rw [List.drop_zero,zfg,zWA] at h;exact h
theorem zI0:∀ (a:yB) (i:Nat),i<a.length->(a.getD i default).Fs.length<=zd3 a
 | [],i,h=>by simp at h
 | t::r,0,h=>by
  have:∀ l:yC,l.length<=z73 l:=λl=>by
   induction l with
   | nil=>exact Nat.le_refl _
   | cons f r ih=>simp only [z73,qf]; omega
  have:=this t.Fs;simp only [zd3,List.getD_cons_zero]; omega
 | t::r,i+1,h=>by
  have:=zI0 r i (by simpa using h)
  simp only [zd3,List.getD_cons_succ]; omega
theorem foldl_factors' (l:yC):∀ n:Nat,l.foldl (λs t=>s+1+zeB t.At) n=n+l.length+zbw l:=by
 induction l with
 | nil=>intro n; rw [zoj]; rfl
 | cons a r ih=>intro n; rw [List.foldl_cons,ih,zdQ,qf]; omega
theorem zba9 (a:yB) (i:Nat) (hi:i<a.length) (hla:a.length<=1000000) (l:yC) (el:(a.getD i default).Fs=l) (hl:l.length<=1000000) (hg:∀ f∈l,(f.At.Ag.length<=1000000/\f.At.Items.length<=1000000)/\(∀ y∈f.At.Ag,g y=(true,(zP y:Int)))/\∀ y∈f.At.Items,g y.Ann=(true,(zP y.Ann:Int))) (fuel n:Nat) (hf:l.length<fuel) (hn:n+l.length+zbw l<=4611686018427387904):
  zKL g fuel a n i 0=(true,(a,((n+l.length+zbw l:Nat):Int),(i:Int))):=by
 have h:=zfn (W:=zBD g) (z:=default) (l:=l) (λk (n:Nat)=>(a,(n:Int),(i:Int),(k:Int),())) (λ_ _=>()) (λy n=>.inl (n+1+zeB y.At)) (λn=>(a,(n:Int),(i:Int))) (λk n=>n+(l.drop k).length+zbw (l.drop k)<=4611686018427387904)
  (λk n hk hI=>.inl ⟨_,rfl,by rw [zbH hk,zdQ,qf] at hI; omega,λH K D=>by
   rw [zbH hk,zdQ,zgy,qf] at hI;obtain ⟨⟨h1,h2⟩,h3,h4⟩:=hg _ (zL hk);show (zq4 g a n i k).ev H K D=_;unfold zq4;simp only [Wy.ev_i,Wy.ev_k,Wy.ev_h,Wy.ev_bn,Wy.ev_d,tT,hi,el,hk,At.eta];rw [zfZ (i:=n) (by omega)]
   rw [z95 g _ h1 h3 _ _ _ _ _ (by omega) (by omega)]
   simp only [cond_true,Int.toNat_natCast,At.eta];rw [z9D g _ h2 h4 _ _ _ _ _ (by omega) (by omega)]
   simp only [cond_true];rw [zfZ (by omega),zgy,Nat.add_assoc (n+1)]⟩)
  (λn hI H K D=>by
   show (zq4 g a n i l.length).ev H K D=_;unfold zq4;simp only [Wy.ev_i,Wy.ev_k,tT,hi,el,Nat.lt_irrefl]) fuel 0 n (by omega) (Nat.zero_le _) (by simpa using hn)
 rw [List.drop_zero,zfg,foldl_factors'] at h;exact h
theorem zbbj (l:yB) (hl:l.length<=1000000) (hg:∀ t∈l,t.Fs.length<=1000000/\∀ f∈t.Fs,(f.At.Ag.length<=1000000/\f.At.Items.length<=1000000)/\(∀ y∈f.At.Ag,g y=(true,(zP y:Int)))/\∀ y∈f.At.Items,g y.Ann=(true,(zP y.Ann:Int))) (fuel n:Nat) (hf:l.length<fuel) (hn:n+zP l<=4611686018427387904):
  zJ9 g fuel l n 0=(true,((n+zP l:Nat):Int)):=by
 have h:=zfn (W:=zBn g) (z:=default) (l:=l) (λi (n:Nat)=>(l,(n:Int),(i:Int),())) (λ_ _=>()) (λy n=>.inl (n+1+y.Fs.length+zbw y.Fs)) (λn=>(n:Int)) (λi n=>n+zP (l.drop i)<=4611686018427387904)
  (λi n hi hI=>.inl ⟨_,rfl,by rw [zbH hi,zhh] at hI; omega,λH K D=>by
   rw [zbH hi,zhh] at hI;obtain ⟨h1,h3⟩:=hg _ (zL hi);have hz:=zI0 l i hi;show (zq6 g l n i).ev H K D=_;unfold zq6;simp only [Wy.ev_i,Wy.ev_k,Wy.ev_h,Wy.ev_bn,Wy.ev_d,tT,hi,At.eta];rw [zfZ (i:=n) (by omega)]
   rw [zba9 g l i hi hl _ rfl h1 h3 _ _ (by omega) (by omega)]
   simp only [cond_true];rw [zfZ (by omega)]⟩)
  (λn hI H K D=>by
   show (zq6 g l n l.length).ev H K D=_;unfold zq6;simp only [Wy.ev_i,Wy.ev_k,tT,Nat.lt_irrefl]) fuel 0 n (by omega) (Nat.zero_le _) (by simpa using hn)
 rw [List.drop_zero,zfg,z19] at h;exact h
end
theorem z5G {l:yA} {y:yB} (h:y∈l):zP y<=zer l:=by
 induction l with
 | nil=>cases h
 | cons a r ih=>
  rw [zeh];rcases qd.1 h with rfl | h
  ·omega
  ·have:=ih h; omega
theorem z4D {l:yD} {y:Wd} (h:y∈l):zP y.Ann<=zcQ l:=by
 induction l with
 | nil=>cases h
 | cons a r ih=>
  rw [zhi];rcases qd.1 h with rfl | h
  ·omega
  ·have:=ih h; omega
theorem zM3 {l:yC} {y:Fc} (h:y∈l):zeB y.At<=zbw l:=by
 induction l with
 | nil=>cases h
 | cons a r ih=>
  rw [zdQ];rcases qd.1 h with rfl | h
  ·omega
  ·have:=ih h; omega
theorem z6Y {l:yB} {y:Term} (h:y∈l):zbw y.Fs<=zP l:=by
 induction l with
 | nil=>cases h
 | cons a r ih=>
  rw [zhh];rcases qd.1 h with rfl | h
  ·omega
  ·have:=ih h; omega
theorem zUJ {a:yB} {t:Term} {f:Fc} (ht:t∈a) (hf:f∈t.Fs):zer f.At.Ag+zcQ f.At.Items<=zP a:=by
 have h1:=z6Y ht; have h2:=zM3 hf; rw [zgy] at h2; omega
theorem zL2 {d:Nat} {a:yB} (h:zG (d+1) a) {t:Term} (ht:t∈a):t.Fs.length<=1000000/\∀ f∈t.Fs,(f.At.Ag.length<=1000000/\f.At.Items.length<=1000000)/\(∀ y∈f.At.Ag,zG d y)/\∀ y∈f.At.Items,zG d y.Ann:=
 ⟨(h.2 t ht).1,λf hf=>have q:=(h.2 t ht).2 f hf; ⟨⟨q.1.1,q.1.2.1⟩,q.2.1,λy hy=>(q.2.2 y hy).2⟩⟩
theorem zYt:∀ (n d:Nat) (a:yB),zG d a->d<=n->zP a<=4611686018427387904->zj1 n a=(true,(zP a:Int))/\zsC n a=(true,(zP a:Int))
 | n,0,a,h,hd,hs=>h.elim
 | 0,d+1,a,h,hd,hs=>by omega
 | n+1,d+1,a,h,hd,hs=>by
  have hg:=λy (hy:zG d y) (hs:zP y<=4611686018427387904)=>zYt n d y hy (by omega) hs
  have hsub:∀ t∈a,t.Fs.length<=1000000/\∀ f∈t.Fs,(f.At.Ag.length<=1000000/\f.At.Items.length<=1000000)/\(∀ y∈f.At.Ag,zG d y/\zP y<=4611686018427387904)/\∀ y∈f.At.Items,zG d y.Ann/\zP y.Ann<=4611686018427387904:=λt ht=>by
   obtain ⟨h1,h2⟩:=zL2 h ht;refine ⟨h1,λf hf=> ?_⟩
   obtain ⟨h3,h4,h5⟩:=h2 f hf;have h6:=zUJ ht hf;exact ⟨h3,λy hy=>⟨h4 y hy,by have:=z5G hy; omega⟩,λy hy=>⟨h5 y hy,by have:=z4D hy; omega⟩⟩
  constructor
  ·rw [zPK];unfold zrW zCx
   have h1:=zbde (zj1 n) a h.1 (λt ht=>⟨(hsub t ht).1,λf hf=>⟨((hsub t ht).2 f hf).1,λy hy=>(hg y (((hsub t ht).2 f hf).2.1 y hy).1 (((hsub t ht).2 f hf).2.1 y hy).2).1,λy hy=>(hg _ (((hsub t ht).2 f hf).2.2 y hy).1 (((hsub t ht).2 f hf).2.2 y hy).2).1⟩⟩)
    (Int.toNat 0+a.length+(Int.ofNat a.length).toNat +Int.toNat 0+1) 0 (by omega) (by omega)
   rw [show ((0:Nat):Int)=(0:Int) from rfl,Nat.zero_add] at h1
   rw [Wy.fin_bn,show Int.ofNat a.length=(a.length:Int) from rfl] at *
   rw [h1]; rfl
  ·rw [zY8];unfold zAz zNZ
   have h1:=zbbj (zsC n) a h.1 (λt ht=>⟨(hsub t ht).1,λf hf=>⟨((hsub t ht).2 f hf).1,λy hy=>(hg y (((hsub t ht).2 f hf).2.1 y hy).1 (((hsub t ht).2 f hf).2.1 y hy).2).2,λy hy=>(hg _ (((hsub t ht).2 f hf).2.2 y hy).1 (((hsub t ht).2 f hf).2.2 y hy).2).2⟩⟩)
    (a.length+Int.toNat 0+Int.toNat 0+1+zd3 a) 0 (by omega) (by omega)
   rw [show ((0:Nat):Int)=(0:Int) from rfl,Nat.zero_add] at h1
   rw [Wy.fin_bn,h1]; rfl
mutual
def zmc:At->Nat
 | ⟨k,_,a,_,i,_,_⟩=>if k=0 then 0 else 1+max (zkP a) (zjY i)
def zcV:yC->Nat
 | []=>0
 | ⟨x,_⟩::r=>max (zmc x) (zcV r)
def zbq:yB->Nat
 | []=>0
 | ⟨_,fs⟩::r=>max (zcV fs) (zbq r)
def zkP:yA->Nat
 | []=>0
 | a::r=>max (zbq a) (zkP r)
def zjY:yD->Nat
 | []=>0
 | ⟨_,a⟩::r=>max (zbq a) (zjY r)
end
theorem zBL (x:At):zmc x=if x.Kind=0 then 0 else 1+max (zkP x.Ag) (zjY x.Items):=by cases x; rw [zmc]
theorem zrl (f:Fc) (r:yC):zcV (f::r)=max (zmc f.At) (zcV r):=by cases f; rw [zcV]
theorem zLy (t:Term) (r:yB):zbq (t::r)=max (zcV t.Fs) (zbq r):=by cases t; rw [zbq]
theorem zAQ (a:yB) (r:yA):zkP (a::r)=max (zbq a) (zkP r):=by rw [zkP]
theorem zyJ (w:Wd) (r:yD):zjY (w::r)=max (zbq w.Ann) (zjY r):=by cases w; rw [zjY]
theorem zMd:zkP []=0:=by rw [zkP]
theorem zH5:zjY []=0:=by rw [zjY]
theorem zDc:zcV []=0:=by rw [zcV]
theorem zZs:zbq []=0:=by rw [zbq]
theorem z7a (l:yA):∀ n:Nat,l.foldl (λs t=>max s (zbq t)) n=max n (zkP l):=by
 induction l with
 | nil=>intro n; rw [zMd]; exact (Nat.max_zero n).symm
 | cons a r ih=>intro n; rw [List.foldl_cons,ih,zAQ]; omega
theorem z5I (l:yD):∀ n:Nat,l.foldl (λs t=>max s (zbq t.Ann)) n=max n (zjY l):=by
 induction l with
 | nil=>intro n; rw [zH5]; exact (Nat.max_zero n).symm
 | cons a r ih=>intro n; rw [List.foldl_cons,ih,zyJ]; omega
theorem z5A (l:yA):∀ n:Nat,l.foldl (λs t=>max s (1+zbq t)) (1+n)=1+max n (zkP l):=by
 induction l with
 | nil=>intro n; rw [zMd]; simp
 | cons a r ih=>intro n; rw [List.foldl_cons,show max (1+n) (1+zbq a)=1+max n (zbq a) by omega,ih,zAQ]; omega
theorem z4b (l:yD):∀ n:Nat,l.foldl (λs t=>max s (1+zbq t.Ann)) (1+n)=1+max n (zjY l):=by
 induction l with
 | nil=>intro n; rw [zH5]; simp
 | cons a r ih=>intro n; rw [List.foldl_cons,show max (1+n) (1+zbq a.Ann)=1+max n (zbq a.Ann) by omega,ih,zyJ]; omega
theorem zQg (l:yC):∀ n:Nat,l.foldl (λs t=>max s (zmc t.At)) n=max n (zcV l):=by
 induction l with
 | nil=>intro n; rw [zDc]; exact (Nat.max_zero n).symm
 | cons a r ih=>intro n; rw [List.foldl_cons,ih,zrl]; omega
theorem z2u (l:yB):∀ n:Nat,l.foldl (λs t=>max s (zcV t.Fs)) n=max n (zbq l):=by
 induction l with
 | nil=>intro n; rw [zZs]; exact (Nat.max_zero n).symm
 | cons a r ih=>intro n; rw [List.foldl_cons,ih,zLy]; omega
theorem zUC (a b:Nat):(if (a:Int)>(b:Int) then (a:Int) else (b:Int))=((max b a:Nat):Int):=by split <;>omega
theorem zYV {d:Nat}:∀ l:yA,(∀ y∈l,zbq y<=d)->zkP l<=d:=λl=>by
 induction l with
 | nil=>intro _; rw [zMd]; omega
 | cons y r ih=>intro hy; rw [zAQ]; have h1:=hy y (by simp); have h2:=ih λz hz=>hy z (by simp [hz]); omega
theorem zWL {d:Nat}:∀ l:yD,(∀ y∈l,zbq y.Ann<=d)->zjY l<=d:=λl=>by
 induction l with
 | nil=>intro _; rw [zH5]; omega
 | cons y r ih=>intro hy; rw [zyJ]; have h1:=hy y (by simp); have h2:=ih λz hz=>hy z (by simp [hz]); omega
theorem z2O {d:Nat}:∀ l:yC,(∀ y∈l,zmc y.At<=d)->zcV l<=d:=λl=>by
 induction l with
 | nil=>intro _; rw [zDc]; omega
 | cons y r ih=>intro hy; rw [zrl]; have h1:=hy y (by simp); have h2:=ih λz hz=>hy z (by simp [hz]); omega
theorem z8w {d:Nat}:∀ l:yB,(∀ y∈l,zcV y.Fs<=d)->zbq l<=d:=λl=>by
 induction l with
 | nil=>intro _; rw [zZs]; omega
 | cons y r ih=>intro hy; rw [zLy]; have h1:=hy y (by simp); have h2:=ih λz hz=>hy z (by simp [hz]); omega
theorem zOS:∀ (d:Nat) (a:yB),zG d a->zbq a<=d
 | 0,a,h=>h.elim
 | d+1,a,h=>z8w a λt ht=>z2O _ λf hf=>by
  obtain ⟨_,h2⟩:=zL2 h ht;obtain ⟨_,h4,h5⟩:=h2 f hf;have q1:=zYV f.At.Ag λy hy=>zOS d y (h4 y hy)
  have q2:=zWL f.At.Items λy hy=>zOS d y.Ann (h5 y hy)
  rw [zBL]; split <;>omega
section
variable (g:yB->Bool×Int)
theorem zbcF (l:yA) (hl:l.length<=1000000) (hg:∀ y∈l,g y=(true,(zbq y:Int))) (nn:Int) (t13:yB) (t14 t15:Int) (t20:yC) (t21 t22:Int) (f:Fc) (fuel n:Nat) (hf:l.length<fuel):
  zwW g fuel nn n t13 t14 t15 t20 t21 t22 l l.length 0 f=(true,(nn,((max n (zkP l):Nat):Int),t13,t14,t15,t20,t21,t22,f)):=by
 have h:=zfn (W:=zo9 g) (z:=default) (l:=l) (λi (n:Nat)=>(nn,(),(n:Int),t13,t14,t15,t20,t21,t22,l,(l.length:Int),(i:Int),())) (λ_ _=>(f,())) (λy n=>.inl (max n (zbq y))) (λn=>(nn,(n:Int),t13,t14,t15,t20,t21,t22,f)) (λi n=>True)
  (λi n hi hI=>.inl ⟨_,rfl,trivial,λH K D=>by
   show (zg6 g nn n t13 t14 t15 t20 t21 t22 l l.length i f).ev H K D=_;unfold zg6;simp only [Wy.ev_i,Wy.ev_k,Wy.ev_h,Wy.ev_bn,Wy.ev_d,tT,hi,hg _ (zL hi),zUC];rw [zfZ (by omega)]⟩)
  (λn hI H K D=>by
   show (zg6 g nn n t13 t14 t15 t20 t21 t22 l l.length l.length f).ev H K D=_;unfold zg6;simp only [Wy.ev_i,Wy.ev_k,tT,Nat.lt_irrefl]) fuel 0 n (by omega) (Nat.zero_le _) trivial
 rw [List.drop_zero,zfg,z7a] at h;exact h
theorem zbct (l:yD) (hl:l.length<=1000000) (hg:∀ y∈l,g y.Ann=(true,(zbq y.Ann:Int))) (nn:Int) (t13:yB) (t14 t15:Int) (t20:yC) (t21 t22:Int) (fuel n:Nat) (hf:l.length<fuel):
  zwQ g fuel nn n t13 t14 t15 t20 t21 t22 l l.length 0=(true,(nn,((max n (zjY l):Nat):Int),t13,t14,t15,t20,t21,t22)):=by
 have h:=zfn (W:=zoO g) (z:=default) (l:=l) (λi (n:Nat)=>(nn,(n:Int),t13,t14,t15,t20,t21,t22,l,(l.length:Int),(i:Int),())) (λ_ _=>()) (λy n=>.inl (max n (zbq y.Ann))) (λn=>(nn,(n:Int),t13,t14,t15,t20,t21,t22)) (λi n=>True)
  (λi n hi hI=>.inl ⟨_,rfl,trivial,λH K D=>by
   show (zgW g nn n t13 t14 t15 t20 t21 t22 l l.length i).ev H K D=_;unfold zgW;simp only [Wy.ev_i,Wy.ev_k,Wy.ev_h,Wy.ev_bn,Wy.ev_d,tT,hi,hg _ (zL hi),zUC];rw [zfZ (by omega)]⟩)
  (λn hI H K D=>by
   show (zgW g nn n t13 t14 t15 t20 t21 t22 l l.length l.length).ev H K D=_;unfold zgW;simp only [Wy.ev_i,Wy.ev_k,tT,Nat.lt_irrefl]) fuel 0 n (by omega) (Nat.zero_le _) trivial
 rw [List.drop_zero,zfg,z5I] at h;exact h
def zPj (x:At):Prop:=(x.Ag.length<=1000000/\x.Items.length<=1000000)/\(zmc x<=1000/\(∀ y∈x.Ag,zbq y<=1000)/\∀ y∈x.Items,zbq y.Ann<=1000)/\(∀ y∈x.Ag,g y=(true,(zbq y:Int)))/\∀ y∈x.Items,g y.Ann=(true,(zbq y.Ann:Int))
theorem zbdh (l:yC) (hl:l.length<=1000000) (hg:∀ f∈l,zPj g f.At) (t13:yB) (t14 t15:Int) (fuel n:Nat) (hf:l.length<fuel):
  zxx g fuel n t13 t14 t15 l l.length 0=(true,(((max n (zcV l):Nat):Int),t13,t14,t15)):=by
 have h:=zfn (W:=zqc g) (z:=default) (l:=l) (λi (n:Nat)=>((n:Int),t13,t14,t15,l,(l.length:Int),(i:Int),())) (λ_ _=>()) (λy n=>.inl (max n (zmc y.At))) (λn=>((n:Int),t13,t14,t15)) (λi n=>True)
  (λi n hi hI=>.inl ⟨_,rfl,trivial,λH K D=>by
   obtain ⟨⟨h1,h2⟩,⟨h5,_,_⟩,h3,h4⟩:=hg _ (zL hi);show (zhK g n t13 t14 t15 l l.length i).ev H K D=_;unfold zhK;simp only [Wy.ev_i,Wy.ev_k,Wy.ev_h,Wy.ev_bn,Wy.ev_d,tT,hi,At.eta];generalize l.getD i default=f at *;rw [zBL] at h5 ⊢;by_cases hk:f.At.Kind=0
   ·have e:(f.At.Kind==0)=true:=by simp [hk]
    simp only [e,cond_true];rw [if_pos hk,Nat.max_zero,zfZ (by omega)]
   ·have e:(f.At.Kind==0)=false:=by simp [hk]
    simp only [e,cond_false];rw [if_neg hk] at h5 ⊢;have q:=λfuel hf=>zbcF g _ h1 h3 n t13 t14 t15 l l.length i f fuel 0 hf
    rw [Nat.zero_max,show ((0:Nat):Int)=(0:Int) from rfl] at q
    rw [q _ (by omega)]
    simp only [cond_true,Int.toNat_natCast];rw [zbct g _ h2 h4 n t13 t14 t15 l l.length i _ _ (by omega)]
    simp only [cond_true];rw [zfZ (by omega),show (1:Int)=((1:Nat):Int) from rfl,zrD (n:=1) (by omega),zUC]⟩)
  (λn hI H K D=>by
   show (zhK g n t13 t14 t15 l l.length l.length).ev H K D=_;unfold zhK;simp only [Wy.ev_i,Wy.ev_k,tT,Nat.lt_irrefl]) fuel 0 n (by omega) (Nat.zero_le _) trivial
 rw [List.drop_zero,zfg,zQg] at h;exact h
theorem zbdJ (l:yB) (hl:l.length<=1000000) (hg:∀ t∈l,t.Fs.length<=1000000/\∀ f∈t.Fs,zPj g f.At) (fuel n:Nat) (hf:l.length<fuel):
  zxv g fuel n l l.length 0=(true,((max n (zbq l):Nat):Int)):=by
 have h:=zfn (W:=zqh g) (z:=default) (l:=l) (λi (n:Nat)=>((n:Int),l,(l.length:Int),(i:Int),())) (λ_ _=>()) (λy n=>.inl (max n (zcV y.Fs))) (λn=>(n:Int)) (λi n=>True)
  (λi n hi hI=>.inl ⟨_,rfl,trivial,λH K D=>by
   obtain ⟨h1,h3⟩:=hg _ (zL hi);show (zhP g n l l.length i).ev H K D=_;unfold zhP;simp only [Wy.ev_i,Wy.ev_k,Wy.ev_h,Wy.ev_bn,Wy.ev_d,tT,hi,At.eta];rw [zbdh g _ h1 h3 _ _ _ _ _ (by omega)]
   simp only [cond_true];rw [zfZ (by omega)]⟩)
  (λn hI H K D=>by
   show (zhP g n l l.length l.length).ev H K D=_;unfold zhP;simp only [Wy.ev_i,Wy.ev_k,tT,Nat.lt_irrefl]) fuel 0 n (by omega) (Nat.zero_le _) trivial
 rw [List.drop_zero,zfg,z2u] at h;exact h
theorem zbbU (x:At) (hx:zPj g x) (a:yB) (most i k:Int) (fuel n:Nat) (hf:x.Ag.length<fuel):
  zvi g fuel a most i k ((1+n:Nat):Int) 0 x=(true,(a,most,i,k,((1+max n (zkP x.Ag):Nat):Int),x)):=by
 obtain ⟨⟨h1,h2⟩,⟨h5,h6,h7⟩,h3,h4⟩:=hx
 have h:=zfn (W:=zvm g) (z:=default) (l:=x.Ag) (λj (n:Nat)=>(a,most,i,k,(),(n:Int),(j:Int),())) (λ_ _=>(x,())) (λy n=>.inl (max n (1+zbq y))) (λn=>(a,most,i,k,(n:Int),x)) (λi n=>True)
  (λj n hi hI=>.inl ⟨_,rfl,trivial,λH K D=>by
   have h8:=h6 _ (zL hi);show (zkI g a most i k n j x).ev H K D=_;unfold zkI;simp only [Wy.ev_i,Wy.ev_k,Wy.ev_h,Wy.ev_bn,Wy.ev_d,tT,hi,h3 _ (zL hi)];rw [zfZ (by omega),show (1:Int)=((1:Nat):Int) from rfl,zrD (n:=1) (by omega),zUC]⟩)
  (λn hI H K D=>by
   show (zkI g a most i k n x.Ag.length x).ev H K D=_;unfold zkI;simp only [Wy.ev_i,Wy.ev_k,tT,Nat.lt_irrefl]) fuel 0 (1+n) (by omega) (Nat.zero_le _) trivial
 rw [List.drop_zero,zfg,z5A] at h;exact h
theorem zbbt (x:At) (hx:zPj g x) (a:yB) (most i k:Int) (fuel n:Nat) (hf:x.Items.length<fuel):
  zCp g fuel a most i k ((1+n:Nat):Int) 0 x=(true,(a,most,i,k,((1+max n (zjY x.Items):Nat):Int))):=by
 obtain ⟨⟨h1,h2⟩,⟨h5,h6,h7⟩,h3,h4⟩:=hx
 have h:=zfn (W:=zu5 g) (z:=default) (l:=x.Items) (λj (n:Nat)=>(a,most,i,k,(),(n:Int),(j:Int),())) (λ_ _=>(x,())) (λy n=>.inl (max n (1+zbq y.Ann))) (λn=>(a,most,i,k,(n:Int))) (λi n=>True)
  (λj n hi hI=>.inl ⟨_,rfl,trivial,λH K D=>by
   have h8:=h7 _ (zL hi);show (zkL g a most i k n j x).ev H K D=_;unfold zkL;simp only [Wy.ev_i,Wy.ev_k,Wy.ev_h,Wy.ev_bn,Wy.ev_d,tT,hi,h4 _ (zL hi)];rw [zfZ (by omega),show (1:Int)=((1:Nat):Int) from rfl,zrD (n:=1) (by omega),zUC]⟩)
  (λn hI H K D=>by
   show (zkL g a most i k n x.Items.length x).ev H K D=_;unfold zkL;simp only [Wy.ev_i,Wy.ev_k,tT,Nat.lt_irrefl]) fuel 0 (1+n) (by omega) (Nat.zero_le _) trivial
 rw [List.drop_zero,zfg,z4b] at h;exact h
theorem RNes_12' (x:At) (hx:zPj g x) (a:yB) (most i k:Int) (fuel:Nat) (hf:x.Ag.length<fuel):zvi g fuel a most i k 1 0 x=(true,(a,most,i,k,((1+zkP x.Ag:Nat):Int),x)):=by
 have h:=zbbU g x hx a most i k fuel 0 hf;rw [Nat.zero_max] at h; exact h
theorem zbb8 (a:yB) (i:Nat) (hi:i<a.length) (hla:a.length<=1000000) (l:yC) (el:(a.getD i default).Fs=l) (hl:l.length<=1000000) (hg:∀ f∈l,zPj g f.At) (fuel n:Nat) (hf:l.length<fuel):
  zEF g fuel a n i 0=(true,(a,((max n (zcV l):Nat):Int),(i:Int))):=by
 have h:=zfn (W:=zwH g) (z:=default) (l:=l) (λk (n:Nat)=>(a,(n:Int),(i:Int),(k:Int),())) (λ_ _=>()) (λy n=>.inl (max n (zmc y.At))) (λn=>(a,(n:Int),(i:Int))) (λk n=>True)
  (λk n hk hI=>.inl ⟨_,rfl,trivial,λH K D=>by
   have hx:=hg _ (zL hk);have h5:=hx.2.1.1;show (zlR g a n i k).ev H K D=_;unfold zlR;simp only [Wy.ev_i,Wy.ev_k,Wy.ev_h,Wy.ev_bn,Wy.ev_d,tT,hi,el,hk,At.eta];generalize l.getD k default=f at *;rw [zBL] at h5 ⊢;by_cases hz:f.At.Kind=0
   ·have e:(f.At.Kind==0)=true:=by simp [hz]
    simp only [e,cond_true];rw [if_pos hz,Nat.max_zero,zfZ (by omega)]
   ·have e:(f.At.Kind==0)=false:=by simp [hz]
    have hx1:=hx.1;simp only [e,cond_false];rw [if_neg hz] at h5 ⊢;rw [RNes_12' g _ hx _ _ _ _ _ (by omega)]
    simp only [cond_true,Int.toNat_natCast,At.eta];rw [zbbt g _ hx _ _ _ _ _ _ (by omega)]
    simp only [cond_true];rw [zfZ (by omega),zUC]⟩)
  (λn hI H K D=>by
   show (zlR g a n i l.length).ev H K D=_;unfold zlR;simp only [Wy.ev_i,Wy.ev_k,tT,hi,el,Nat.lt_irrefl]) fuel 0 n (by omega) (Nat.zero_le _) trivial
 rw [List.drop_zero,zfg,zQg] at h;exact h
theorem zbcm (l:yB) (hl:l.length<=1000000) (hg:∀ t∈l,t.Fs.length<=1000000/\∀ f∈t.Fs,zPj g f.At) (fuel n:Nat) (hf:l.length<fuel):
  zDE g fuel l n 0=(true,((max n (zbq l):Nat):Int)):=by
 have h:=zfn (W:=zws g) (z:=default) (l:=l) (λi (n:Nat)=>(l,(n:Int),(i:Int),())) (λ_ _=>()) (λy n=>.inl (max n (zcV y.Fs))) (λn=>(n:Int)) (λi n=>True)
  (λi n hi hI=>.inl ⟨_,rfl,trivial,λH K D=>by
   obtain ⟨h1,h3⟩:=hg _ (zL hi);have hz:=zI0 l i hi;show (zlL g l n i).ev H K D=_;unfold zlL;simp only [Wy.ev_i,Wy.ev_k,Wy.ev_h,Wy.ev_bn,Wy.ev_d,tT,hi,At.eta];rw [zbb8 g l i hi hl _ rfl h1 h3 _ _ (by omega)]
   simp only [cond_true];rw [zfZ (by omega)]⟩)
  (λn hI H K D=>by
   show (zlL g l n l.length).ev H K D=_;unfold zlL;simp only [Wy.ev_i,Wy.ev_k,tT,Nat.lt_irrefl]) fuel 0 n (by omega) (Nat.zero_le _) trivial
 rw [List.drop_zero,zfg,z2u] at h;exact h
end
theorem z06:∀ (n d:Nat) (a:yB),zG d a->d<=n->d<=100->zfx n a=(true,(zbq a:Int))/\zjV n a=(true,(zbq a:Int))
 | n,0,a,h,hd,hs=>h.elim
 | 0,d+1,a,h,hd,hs=>by omega
 | n+1,d+1,a,h,hd,hs=>by
  have hg:=λy (hy:zG d y)=>z06 n d y hy (by omega) (by omega)
  have hsub:∀ t∈a,t.Fs.length<=1000000/\∀ f∈t.Fs,zPj (zfx n) f.At/\zPj (zjV n) f.At:=λt ht=>by
   obtain ⟨h1,h2⟩:=zL2 h ht;refine ⟨h1,λf hf=> ?_⟩
   obtain ⟨h3,h4,h5⟩:=h2 f hf;have q1:∀ y∈f.At.Ag,zbq y<=d:=λy hy=>zOS d y (h4 y hy)
   have q2:∀ y∈f.At.Items,zbq y.Ann<=d:=λy hy=>zOS d y.Ann (h5 y hy)
   have q3:zmc f.At<=1000:=by
    have r1:=zYV _ q1; have r2:=zWL _ q2;rw [zBL]; split <;>omega
   have q4:zmc f.At<=1000/\(∀ y∈f.At.Ag,zbq y<=1000)/\∀ y∈f.At.Items,zbq y.Ann<=1000:=⟨q3,λy hy=>by have:=q1 y hy; omega,λy hy=>by have:=q2 y hy; omega⟩
   exact ⟨⟨h3,q4,λy hy=>(hg y (h4 y hy)).1,λy hy=>(hg _ (h5 y hy)).1⟩,⟨h3,q4,λy hy=>(hg y (h4 y hy)).2,λy hy=>(hg _ (h5 y hy)).2⟩⟩
  constructor
  ·rw [zJi];unfold znG zyx;have h1:=zbdJ (zfx n) a h.1 (λt ht=>⟨(hsub t ht).1,λf hf=>((hsub t ht).2 f hf).1⟩) (Int.toNat 0+a.length+(Int.ofNat a.length).toNat +Int.toNat 0+1) 0 (by omega)
   rw [show ((0:Nat):Int)=(0:Int) from rfl,Nat.zero_max] at h1
   rw [Wy.fin_bn,show Int.ofNat a.length=(a.length:Int) from rfl] at *
   rw [h1]; rfl
  ·rw [zTI];unfold zvW zF5;have h1:=zbcm (zjV n) a h.1 (λt ht=>⟨(hsub t ht).1,λf hf=>((hsub t ht).2 f hf).2⟩) (a.length+Int.toNat 0+Int.toNat 0+1+zd3 a) 0 (by omega)
   rw [show ((0:Nat):Int)=(0:Int) from rfl,Nat.zero_max] at h1
   rw [Wy.fin_bn,h1]; rfl
end Go.Proofs.YtoknknbmfmddbaaGreatDoor
end
