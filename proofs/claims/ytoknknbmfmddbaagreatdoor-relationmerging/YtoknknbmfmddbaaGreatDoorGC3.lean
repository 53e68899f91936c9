/- Texts of this claim, joined (the program, its functions in plain words, and what they compute). -/
import Derived.WalkKit
import Derived.WalkSpells
import Derived.Test.YtoknknbmfmddbaaGreatDoorGC2
set_option autoImplicit false
set_option linter.unusedVariables false
set_option linter.unusedSectionVars false
set_option linter.unusedSimpArgs false
set_option maxRecDepth 1000000
set_option maxHeartbeats 0
noncomputable section
namespace Go.Proofs.YtoknknbmfmddbaaGreatDoor
open Go Go.Ab
open Go.Proofs.Tryz
abbrev zdG:=yD×Unit×Int×Int×Unit
def zod (ze:Wd->Bool×Bool) (s:yD) (t7:Int) (t8:Int):Wy zdG Unit (Int⊕Unit):=.i (decide (t8<t7)) (.i (decide (0<=t8)&&decide (t8<Int.ofNat s.length)) (.bn (ze (s.getD t8.toNat default)) λr0=>.i (r0) (.k (.inl t8)) (.h (s,(),t7,(IntKind.i64.wrap (t8+1)),()) ())) .d) (.k (.inr ()))
def zgZ (ze:Wd->Bool×Bool) (x:zdG) (y:Unit):=zod ze x.1 x.2.2.1 x.2.2.2.1
def zob (ze:Wd->Bool×Bool) (n:Nat) (s:yD) (t7:Int) (t8:Int):=zx (zgZ ze) (.inl default) n (s,(),t7,t8,()) ()
def zoa:LL ty zdG:=za (lSl 169) (za (lFn 179 (zo)) (za zi (za zi zo)))
def znL (x:zdG) (y:Unit):Nat:=(x.1.length+Int.toNat x.2.2.1+Int.toNat x.2.2.2.1+1)
def zgT (ze:Wd->Bool×Bool):=zcG base 19 [(179,(zdu ze))] [] [(2,(kpL [0,1,7,8]))] [(2,1,[]),(2,0,(kpL [4]))] [(2,spW zoa z2p (zgZ ze) (.inl default) zrz znL)] []
theorem zn3 (ze:Wd->Bool×Bool):zR (zgT ze) (lp (body f228) 0):=zD (id:=2) (hl:=rfl)
def zoJ (ze:Wd->Bool×Bool) (s:yD):Wy0 (Int):=.bn (zob ze (s.length+(Int.ofNat s.length).toNat +Int.toNat 0+1) s (Int.ofNat s.length) 0) λr2=>.i (isL r2) (.k (getL r2)) (.k (-1:Int))
def zcX (ze:Wd->Bool×Bool) (s:yD):=(zoJ ze s).fin default
theorem zmK (ze:Wd->Bool×Bool) (zfY:SdP 179 (zdu ze)):SdP 228 (zcY (zcX ze)):=
 sT (cx':=(zgT ze)) (zk ⟨zfY,trivial⟩) call228 func228 (lOK (aC (zn3 ze) aN))
def zem:Nat->(yB->Bool×Bool)×(At->Bool×Bool)×(yB->Bool×Bool)×(Wd->Bool×Bool)×(yA->Bool×Int)×(yA->Bool×Bool)×(yD->Bool×Int)×(yD->Bool×Bool)
 | 0=>(λ_=>(false,default),λ_=>(false,default),λ_=>(false,default),λ_=>(false,default),λ_=>(false,default),λ_=>(false,default),λ_=>(false,default),λ_=>(false,default))
 | n+1=>(zmr ((zem n).2.1),zjq ((zem n).2.2.2.2.2.1) ((zem n).2.2.1) ((zem n).2.2.2.2.2.2.2) ((zem n).2.2.2.1),zj0 ((zem n).1),zj4 ((zem n).1),zcE ((zem n).2.2.1),zck ((zem n).2.2.1) ((zem n).2.2.2.2.1),zcX ((zem n).2.2.2.1),zcJ ((zem n).2.2.2.1) ((zem n).2.2.2.2.2.2.1))
def zjF (n:Nat):yB->Bool×Bool:=(zem n).1
def zmj (n:Nat):At->Bool×Bool:=(zem n).2.1
def ze2 (n:Nat):yB->Bool×Bool:=(zem n).2.2.1
def ze3 (n:Nat):Wd->Bool×Bool:=(zem n).2.2.2.1
def zcD (n:Nat):yA->Bool×Int:=(zem n).2.2.2.2.1
def zcn (n:Nat):yA->Bool×Bool:=(zem n).2.2.2.2.2.1
def zc3 (n:Nat):yD->Bool×Int:=(zem n).2.2.2.2.2.2.1
def zcL (n:Nat):yD->Bool×Bool:=(zem n).2.2.2.2.2.2.2
theorem zOA (n:Nat):zjF (n+1)=zmr (zmj n):=rfl
theorem zHO (n:Nat):zmj (n+1)=zjq (zcn n) (ze2 n) (zcL n) (ze3 n):=rfl
theorem zDJ (n:Nat):ze2 (n+1)=zj0 (zjF n):=rfl
theorem zDp (n:Nat):ze3 (n+1)=zj4 (zjF n):=rfl
theorem zmg (n:Nat):zcD (n+1)=zcE (ze2 n):=rfl
theorem zlf (n:Nat):zcn (n+1)=zck (ze2 n) (zcD n):=rfl
theorem zom (n:Nat):zc3 (n+1)=zcX (ze3 n):=rfl
theorem zms (n:Nat):zcL (n+1)=zcJ (ze3 n) (zc3 n):=rfl
theorem zWD:∀ n,SdP 52 (zhP (zjF n))/\SdP 107 (zmq (zmj n))/\SdP 174 (zhP (ze2 n))/\SdP 179 (zdu (ze3 n))/\SdP 226 (zcB (zcD n))/\SdP 173 (zcl (zcn n))/\SdP 228 (zcY (zc3 n))/\SdP 178 (zcH (zcL n))
 | 0=>⟨zbs call52 (λ_=>rfl),zbs call107 (λ_=>rfl),zbs call174 (λ_=>rfl),zbs call179 (λ_=>rfl),zbs call226 (λ_=>rfl),zbs call173 (λ_=>rfl),zbs call228 (λ_=>rfl),zbs call178 (λ_=>rfl)⟩
 | n+1=>by
  have ih:=zWD n;exact ⟨zJz _ (ih.2.1),zDj _ _ _ _ (ih.2.2.2.2.2.1) (ih.2.2.1) (ih.2.2.2.2.2.2.2) (ih.2.2.2.1),zBg _ (ih.1),zBl _ (ih.1),zle _ (ih.2.2.1),zki _ _ (ih.2.2.1) (ih.2.2.2.2.1),zmK _ (ih.2.2.2.1),zlu _ _ (ih.2.2.2.1) (ih.2.2.2.2.2.2.1)⟩
def zcb:yB->Bool×Bool:=zjF 1000
def zco:Ab.Spec ty:=zhP zcb
theorem zcx:SdP 52 zco:=(zWD 1000).1
def zR8 (r:ByteArray):ARes ty:=⟨[.pure (.lit (.string r))],[]⟩
def zVB:AL zbE (yB×Unit):=zf (zg (vSl 107)) zA
def zot (F:yB->Bool×ByteArray):Ab.Spec ty:=zh zVB λx=>((F x.1).1,zR8 (F x.1).2)
def zKV:AL zbE (At×Unit):=zf (zg (zcT 143)) zA
def zlr (F:At->Bool×ByteArray):Ab.Spec ty:=zh zKV λx=>((F x.1).1,zR8 (F x.1).2)
def zGo:AL zbE (yC×Unit):=zf (zg (vSl 145)) zA
def zgm (F:yC->Bool×ByteArray):Ab.Spec ty:=zh zGo λx=>((F x.1).1,zR8 (F x.1).2)
def zKe:=zbM base 2 []
def zLV:Wy0 (List ByteArray):=.k [ByteArray.mk #[(67:UInt8),(79:UInt8),(85:UInt8),(78:UInt8),(84:UInt8)],ByteArray.mk #[(83:UInt8),(85:UInt8),(77:UInt8)],ByteArray.mk #[(77:UInt8),(73:UInt8),(78:UInt8)],ByteArray.mk #[(77:UInt8),(65:UInt8),(88:UInt8)]]
def zb4:Bool×List ByteArray:=(zLV).fin default
def zIw (r:List ByteArray):ARes ty:=⟨[.own 9 r],[]⟩
def zxn:=zh zZP λx=>((zb4 ).1,zIw (zb4 ).2)
theorem zFU:SdP 265 zxn:=
 sT (cx':=zKe) (zk trivial) call265 func265 (lOK aN) (sg:=⟨[.own 9],[]⟩)
def zKt:=zbM base 2 []
def zMt:Wy0 (List ByteArray):=.k [ByteArray.mk #[(61:UInt8)],ByteArray.mk #[(60:UInt8),(62:UInt8)],ByteArray.mk #[(60:UInt8)],ByteArray.mk #[(60:UInt8),(61:UInt8)],ByteArray.mk #[(62:UInt8)],ByteArray.mk #[(62:UInt8),(61:UInt8)]]
def zdD:Bool×List ByteArray:=(zMt).fin default
def zw6:=zh zZP λx=>((zdD ).1,zIw (zdD ).2)
theorem zGb:SdP 266 zw6:=
 sT (cx':=zKt) (zk trivial) call266 func266 (lOK aN) (sg:=⟨[.own 9],[]⟩)
def strings_Join (l:List ByteArray) (sep:ByteArray):Bool×ByteArray:=zU6 l sep
def zoy:Ab.Spec ty:=zh (cx:=zbE) (zf (zg (vSl 9)) (zf (zg zwS) zA)) λx=>((strings_Join x.1 x.2.1).1,⟨[.pure (.lit (.string (strings_Join x.1 x.2.1).2))],[]⟩)
theorem zsh:Sound Tryz.prog zbE 44 zoy:=z7y (T:=9) zPp rfl Go.Proofs.Tryz.lays156 Go.Proofs.Tryz.Builder_Extra_156 call44 (λs:ByteArray=>s) (λ_=>rfl) strings_Join (λl sep=>congrArg (λl=>zU6 l sep) (List.map_id' (α:=ByteArray) l).symm)
def strconv_Itoa (x:Int):Bool×ByteArray:=zPz x
def zzm:Ab.Spec ty:=zh (cx:=base) (zf (zg (zf5 .i64)) zA) λx=>((strconv_Itoa x.1).1,⟨[.pure (.lit (.string (strconv_Itoa x.1).2))],[]⟩)
theorem zES:SdP 216 zzm:=z8b ze1 Go.Proofs.Tryz.laysM171 call216 (λ_ h=>h.1)
def zXS:=zbM base 15 [(116,ztC),(216,zzm)]
def zLm (id:RowID):Wy0 (ByteArray):=.bn (zqU id) λr2=>.i (!r2) (.k (ByteArray.mk #[])) (.bn (strconv_Itoa id.Table) λr1=>.i (decide ((ByteArray.mk #[(116:UInt8)]).size+r1.size<=9223372036854775807)) (.i (decide ((ByteArray.mk #[(116:UInt8)]++r1).size+(ByteArray.mk #[(46:UInt8)]).size<=9223372036854775807)) (.bn (strconv_Itoa id.Seq) λr0=>.i (decide ((ByteArray.mk #[(116:UInt8)]++r1++ByteArray.mk #[(46:UInt8)]).size+r0.size<=9223372036854775807)) (.k (ByteArray.mk #[(116:UInt8)]++r1++ByteArray.mk #[(46:UInt8)]++r0)) .d) .d) .d)
def zwn (id:RowID):=(zLm id).fin default
def zFc:=zh z5r λx=>((zwn x.1).1,zR8 (zwn x.1).2)
theorem zRx:SdP 264 zFc:=
 sT (cx':=zXS) (zk ⟨zyk,zES,trivial⟩) call264 func264 (lOK aN)
def ziS (m b:Int):Bool×ByteArray:=zvq m b
def zs2:Ab.Spec ty:=zh (cx:=base) (zf (zg (zf5 .i64)) (zf (zg (zf5 .i64)) zA)) λx=>((ziS x.1 x.2.1).1,⟨[.pure (.lit (.string (ziS x.1 x.2.1).2))],[]⟩)
theorem zyK:SdP 92 zs2:=zYI ze1 Go.Proofs.Tryz.laysM173 call92 (λ_ h=>h.1)
def strings_ReplaceAll (s p q:ByteArray):Bool×ByteArray:=zpy s p q
def zyO:Ab.Spec ty:=zh (cx:=zbE) (zf (zg zwS) (zf (zg zwS) (zf (zg zwS) zA))) λx=>((strings_ReplaceAll x.1 x.2.1 x.2.2.1).1,⟨[.pure (.lit (.string (strings_ReplaceAll x.1 x.2.1 x.2.2.1).2))],[]⟩)
theorem zJd:Sound Tryz.prog zbE 93 zyO:=zW9 zPp rfl Go.Proofs.Tryz.lays155 Go.Proofs.Tryz.Builder_Extra_155 call93 (λ_ h=>h.2)
def zYz:=zbM zbE 27 [(91,zqc),(92,zs2),(93,zyO)]
def zNa (v:Value):Wy0 (ByteArray):=.bn (zpw v) λr2=>.i (!r2) (.k (ByteArray.mk #[])) (.i (v.Kind==0) (.bn (ziS v.Int 10) λr0=>.k r0) (.i (v.Kind==1) (.bn (strings_ReplaceAll v.Text (ByteArray.mk #[(39:UInt8)]) (ByteArray.mk #[(39:UInt8),(39:UInt8)])) λr1=>.i (decide ((ByteArray.mk #[(39:UInt8)]).size+r1.size<=9223372036854775807)) (.i (decide ((ByteArray.mk #[(39:UInt8)]++r1).size+(ByteArray.mk #[(39:UInt8)]).size<=9223372036854775807)) (.k (ByteArray.mk #[(39:UInt8)]++r1++ByteArray.mk #[(39:UInt8)])) .d) .d) (.i (v.Int==1) (.k (ByteArray.mk #[(84:UInt8),(82:UInt8),(85:UInt8),(69:UInt8)])) (.k (ByteArray.mk #[(70:UInt8),(65:UInt8),(76:UInt8),(83:UInt8),(69:UInt8)])))))
def zqb (v:Value):=(zNa v).fin default
def zZ2:AL zbE (Value×Unit):=zf (zg (zcT 79)) zA
def zzp:=zh zZ2 λx=>((zqb x.1).1,zR8 (zqb x.1).2)
theorem zEM:Sound Tryz.prog zbE 45 zzp:=
 sU (cx':=zYz) (zk ⟨ztF.nodr,zyK.nodr,zJd,trivial⟩) call45 func45 (lOK aN)
abbrev zkV:=Unit×Unit×yD×Int×Int×Unit
abbrev zkP:=At×List ByteArray×Unit
abbrev zxW:=At×List ByteArray
def zfZ (zbl:yB->Bool×ByteArray) (t48:yD) (t49:Int) (t50:Int) (x_:At) (items:List ByteArray):Wy zkV zkP zxW:=.i (decide (t50<t49)) (.i (decide (0<=t50)&&decide (t50<Int.ofNat t48.length)) (.bn (zqb (t48.getD t50.toNat default).Value) λr1=>.i (decide (r1.size+(ByteArray.mk #[(58:UInt8),(32:UInt8)]).size<=9223372036854775807)) (.bn (zbl (t48.getD t50.toNat default).Ann) λr0=>.i (decide ((r1++ByteArray.mk #[(58:UInt8),(32:UInt8)]).size+r0.size<=9223372036854775807)) (.i (decide ((items.length+[r1++ByteArray.mk #[(58:UInt8),(32:UInt8)]++r0].length)*16<=zI)) (.h ((),(),t48,t49,(IntKind.i64.wrap (t50+1)),()) (x_,(items++[r1++ByteArray.mk #[(58:UInt8),(32:UInt8)]++r0]),())) .d) .d) .d) .d) (.k (x_,items))
def zmw (zbl:yB->Bool×ByteArray) (x:zkV) (y:zkP):=zfZ zbl x.2.2.1 x.2.2.2.1 x.2.2.2.2.1 y.1 y.2.1
def zuM (zbl:yB->Bool×ByteArray) (n:Nat) (t48:yD) (t49:Int) (t50:Int) (x_:At) (items:List ByteArray):=zx (zmw zbl) default n ((),(),t48,t49,t50,()) (x_,items,())
def zDz (r:zxW):LTree ty:=.done (.exit 1) [.ptr 360 0,.own 361] [.box (base.enc 143 r.1) false,.arr 9 r.2 false]
def zEO:LL ty zkV:=za (zdo 360 0) (za (zd4 361) (za (lSl 169) (za zi (za zi zo))))
def zEZ:BL ty zkP:=zeM (zfh (λx=>(⟨x.1,⟨x.2.1,x.2.2.1⟩,x.2.2.2.1,x.2.2.2.2.1,x.2.2.2.2.2.1,x.2.2.2.2.2.2.1,⟨x.2.2.2.2.2.2.2.1,x.2.2.2.2.2.2.2.2.1,x.2.2.2.2.2.2.2.2.2.1⟩⟩:At)) (λx=>(x.Kind,x.Row.Table,x.Row.Seq,x.Ag,x.Func,x.Items,x.Op,x.Bd.Kind,x.Bd.Int,x.Bd.Text,())) (λ_=>rfl) (za (zW .i64) (za (zW .i64) (za (zW .i64) (za (lSl 51) (za (zW .i64) (za (lSl 169) (za (zW .i64) (za (zW .i64) (za (zW .i64) (za zzj zo))))))))))) false (zen 9 false (zbu))
def zDx (x:zkV) (y:zkP):Nat:=(x.2.2.1.length+Int.toNat x.2.2.2.1+Int.toNat x.2.2.2.2.1+y.1.Ag.length+y.1.Items.length+y.2.1.length+1)
def zv7 (zbl:yB->Bool×ByteArray):=zcG zbE 90 [(44,zoy),(45,zzp),(94,(zot zbl)),(264,zFc),(265,zxn),(266,zw6)] [] [(12,[(1,.keep),(3,.own 9),(48,.keep),(49,.keep),(50,.keep)])] [(12,2,(kpL [1,3]))] [(12,spW zEO zEZ (zmw zbl) default zDz zDx)] []
theorem zDQ (zbl:yB->Bool×ByteArray):zR (zv7 zbl) (lp (body f215) 0):=zD (id:=12) (hl:=rfl)
def zxl (zbl:yB->Bool×ByteArray) (x_:At):Wy0 (ByteArray):=.i (x_.Kind==0) (.bn (zwn x_.Row) λr4=>.k r4) (.i (x_.Kind==1) (.i (decide ((0:Int)<=(0:Int))&&decide (0<Int.ofNat x_.Ag.length)) (.bn (zbl (x_.Ag.getD (Int.toNat 0) default)) λr6=>.i (decide ((ByteArray.mk #[(109:UInt8),(111:UInt8),(110:UInt8),(117:UInt8),(115:UInt8),(91:UInt8)]).size+r6.size<=9223372036854775807)) (.i (decide ((ByteArray.mk #[(109:UInt8),(111:UInt8),(110:UInt8),(117:UInt8),(115:UInt8),(91:UInt8)]++r6).size+(ByteArray.mk #[(44:UInt8),(32:UInt8)]).size<=9223372036854775807)) (.i (decide ((0:Int)<=(1:Int))&&decide (1<Int.ofNat x_.Ag.length)) (.bn (zbl (x_.Ag.getD (Int.toNat 1) default)) λr5=>.i (decide ((ByteArray.mk #[(109:UInt8),(111:UInt8),(110:UInt8),(117:UInt8),(115:UInt8),(91:UInt8)]++r6++ByteArray.mk #[(44:UInt8),(32:UInt8)]).size+r5.size<=9223372036854775807)) (.i (decide ((ByteArray.mk #[(109:UInt8),(111:UInt8),(110:UInt8),(117:UInt8),(115:UInt8),(91:UInt8)]++r6++ByteArray.mk #[(44:UInt8),(32:UInt8)]++r5).size+(ByteArray.mk #[(93:UInt8)]).size<=9223372036854775807)) (.k (ByteArray.mk #[(109:UInt8),(111:UInt8),(110:UInt8),(117:UInt8),(115:UInt8),(91:UInt8)]++r6++ByteArray.mk #[(44:UInt8),(32:UInt8)]++r5++ByteArray.mk #[(93:UInt8)])) .d) .d) .d) .d) .d) .d) (.i (x_.Kind==2) (.i (decide ((0:Int)<=(0:Int))&&decide (0<Int.ofNat x_.Ag.length)) (.bn (zbl (x_.Ag.getD (Int.toNat 0) default)) λr7=>.i (decide ((ByteArray.mk #[(100:UInt8),(101:UInt8),(108:UInt8),(116:UInt8),(97:UInt8),(91:UInt8)]).size+r7.size<=9223372036854775807)) (.i (decide ((ByteArray.mk #[(100:UInt8),(101:UInt8),(108:UInt8),(116:UInt8),(97:UInt8),(91:UInt8)]++r7).size+(ByteArray.mk #[(93:UInt8)]).size<=9223372036854775807)) (.k (ByteArray.mk #[(100:UInt8),(101:UInt8),(108:UInt8),(116:UInt8),(97:UInt8),(91:UInt8)]++r7++ByteArray.mk #[(93:UInt8)])) .d) .d) .d) (.i (x_.Kind==3) (.i (decide ((0:Int)<=(0:Int))&&decide (0<Int.ofNat x_.Ag.length)) (.bn (zbl (x_.Ag.getD (Int.toNat 0) default)) λr8=>.i (decide ((ByteArray.mk #[(97:UInt8),(98:UInt8),(115:UInt8),(101:UInt8),(110:UInt8),(116:UInt8),(91:UInt8)]).size+r8.size<=9223372036854775807)) (.i (decide ((ByteArray.mk #[(97:UInt8),(98:UInt8),(115:UInt8),(101:UInt8),(110:UInt8),(116:UInt8),(91:UInt8)]++r8).size+(ByteArray.mk #[(93:UInt8)]).size<=9223372036854775807)) (.k (ByteArray.mk #[(97:UInt8),(98:UInt8),(115:UInt8),(101:UInt8),(110:UInt8),(116:UInt8),(91:UInt8)]++r8++ByteArray.mk #[(93:UInt8)])) .d) .d) .d) (.bn (zuM zbl (x_.Items.length+(Int.ofNat x_.Items.length).toNat +Int.toNat 0+x_.Ag.length+x_.Items.length+0+1) x_.Items (Int.ofNat x_.Items.length) 0 (At.mk x_.Kind x_.Row x_.Ag x_.Func x_.Items x_.Op x_.Bd) []) λr11=>.i (decide (0<=r11.1.Func)&&decide (r11.1.Func<Int.ofNat zb4.2.length)) (.i (decide ((ByteArray.mk #[(116:UInt8),(101:UInt8),(115:UInt8),(116:UInt8),(91:UInt8)]).size+ByteArray.size (zb4.2.getD r11.1.Func.toNat default)<=9223372036854775807)) (.i (decide ((ByteArray.mk #[(116:UInt8),(101:UInt8),(115:UInt8),(116:UInt8),(91:UInt8)]++zb4.2.getD r11.1.Func.toNat default).size+(ByteArray.mk #[(123:UInt8)]).size<=9223372036854775807)) (.bn (strings_Join r11.2 (ByteArray.mk #[(59:UInt8),(32:UInt8)])) λr10=>.i (decide ((ByteArray.mk #[(116:UInt8),(101:UInt8),(115:UInt8),(116:UInt8),(91:UInt8)]++zb4.2.getD r11.1.Func.toNat default++ByteArray.mk #[(123:UInt8)]).size+r10.size<=9223372036854775807)) (.i (decide ((ByteArray.mk #[(116:UInt8),(101:UInt8),(115:UInt8),(116:UInt8),(91:UInt8)]++zb4.2.getD r11.1.Func.toNat default++ByteArray.mk #[(123:UInt8)]++r10).size+(ByteArray.mk #[(125:UInt8),(32:UInt8)]).size<=9223372036854775807)) (.i (decide (0<=IntKind.i64.wrap (r11.1.Op - 5))&&decide (IntKind.i64.wrap (r11.1.Op - 5)<Int.ofNat zdD.2.length)) (.i (decide ((ByteArray.mk #[(116:UInt8),(101:UInt8),(115:UInt8),(116:UInt8),(91:UInt8)]++zb4.2.getD r11.1.Func.toNat default++ByteArray.mk #[(123:UInt8)]++r10++ByteArray.mk #[(125:UInt8),(32:UInt8)]).size+ByteArray.size (zdD.2.getD (IntKind.i64.wrap (r11.1.Op - 5)).toNat default)<=9223372036854775807)) (.i (decide ((ByteArray.mk #[(116:UInt8),(101:UInt8),(115:UInt8),(116:UInt8),(91:UInt8)]++zb4.2.getD r11.1.Func.toNat default++ByteArray.mk #[(123:UInt8)]++r10++ByteArray.mk #[(125:UInt8),(32:UInt8)]++zdD.2.getD (IntKind.i64.wrap (r11.1.Op - 5)).toNat default).size+(ByteArray.mk #[(32:UInt8)]).size<=9223372036854775807)) (.bn (zqb r11.1.Bd) λr9=>.i (decide ((ByteArray.mk #[(116:UInt8),(101:UInt8),(115:UInt8),(116:UInt8),(91:UInt8)]++zb4.2.getD r11.1.Func.toNat default++ByteArray.mk #[(123:UInt8)]++r10++ByteArray.mk #[(125:UInt8),(32:UInt8)]++zdD.2.getD (IntKind.i64.wrap (r11.1.Op - 5)).toNat default++ByteArray.mk #[(32:UInt8)]).size+r9.size<=9223372036854775807)) (.i (decide ((ByteArray.mk #[(116:UInt8),(101:UInt8),(115:UInt8),(116:UInt8),(91:UInt8)]++zb4.2.getD r11.1.Func.toNat default++ByteArray.mk #[(123:UInt8)]++r10++ByteArray.mk #[(125:UInt8),(32:UInt8)]++zdD.2.getD (IntKind.i64.wrap (r11.1.Op - 5)).toNat default++ByteArray.mk #[(32:UInt8)]++r9).size+(ByteArray.mk #[(93:UInt8)]).size<=9223372036854775807)) (.k (ByteArray.mk #[(116:UInt8),(101:UInt8),(115:UInt8),(116:UInt8),(91:UInt8)]++zb4.2.getD r11.1.Func.toNat default++ByteArray.mk #[(123:UInt8)]++r10++ByteArray.mk #[(125:UInt8),(32:UInt8)]++zdD.2.getD (IntKind.i64.wrap (r11.1.Op - 5)).toNat default++ByteArray.mk #[(32:UInt8)]++r9++ByteArray.mk #[(93:UInt8)])) .d) .d) .d) .d) .d) .d) .d) .d) .d) .d))))
def ziI (zbl:yB->Bool×ByteArray) (x_:At):=(zxl zbl x_).fin default
theorem zCE (zbl:yB->Bool×ByteArray) (zRK:Sound Tryz.prog zbE 94 (zot zbl)):Sound Tryz.prog zbE 215 (zlr (ziI zbl)):=
 sU (cx':=(zv7 zbl)) (zk ⟨zsh,zEM,zRK,zRx.nodr,zFU.nodr,zGb.nodr,trivial⟩) call215 func215 (lOK (aC (zDQ zbl) aN))
abbrev zi4:=Unit×yC×Int×Int×Unit
abbrev zi6:=List ByteArray×Unit
def zfa (zbb:At->Bool×ByteArray) (t7:yC) (t8:Int) (t9:Int) (out_:List ByteArray):Wy zi4 zi6 (List ByteArray):=.i (decide (t9<t8)) (.i (decide (0<=t9)&&decide (t9<Int.ofNat t7.length)) (.bn (zbb (At.mk (t7.getD t9.toNat default).At.Kind (t7.getD t9.toNat default).At.Row (t7.getD t9.toNat default).At.Ag (t7.getD t9.toNat default).At.Func (t7.getD t9.toNat default).At.Items (t7.getD t9.toNat default).At.Op (t7.getD t9.toNat default).At.Bd)) λr1=>.i ((t7.getD t9.toNat default).Exp != 1) (.bn (strconv_Itoa (t7.getD t9.toNat default).Exp) λr0=>.i (decide ((ByteArray.mk #[(94:UInt8)]).size+r0.size<=9223372036854775807)) (.i (decide (r1.size+(ByteArray.mk #[(94:UInt8)]++r0).size<=9223372036854775807)) (.i (decide ((out_.length+[r1++(ByteArray.mk #[(94:UInt8)]++r0)].length)*16<=zI)) (.h ((),t7,t8,(IntKind.i64.wrap (t9+1)),()) ((out_++[r1++(ByteArray.mk #[(94:UInt8)]++r0)]),())) .d) .d) .d) (.i (decide ((out_.length+[r1].length)*16<=zI)) (.h ((),t7,t8,(IntKind.i64.wrap (t9+1)),()) ((out_++[r1]),())) .d)) .d) (.k out_)
def zld (zbb:At->Bool×ByteArray) (x:zi4) (y:zi6):=zfa zbb x.2.1 x.2.2.1 x.2.2.2.1 y.1
def zto (zbb:At->Bool×ByteArray) (n:Nat) (t7:yC) (t8:Int) (t9:Int) (out_:List ByteArray):=zx (zld zbb) default n ((),t7,t8,t9,()) (out_,())
def zCv (r:List ByteArray):LTree ty:=.done (.exit 0) [.own 128] [.arr 9 r false]
def zCI:LL ty zi4:=za (zd4 128) (za (lSl 145) (za zi (za zi zo)))
def zCH:BL ty zi6:=zen 9 false (zbu)
def zCq (x:zi4) (y:zi6):Nat:=(x.2.1.length+Int.toNat x.2.2.1+Int.toNat x.2.2.2.1+y.1.length+1)
def ztn (zbb:At->Bool×ByteArray):=zcG zbE 32 [(44,zoy),(215,(zlr zbb)),(216,zzm)] [] [(3,[(3,.own 9),(7,.keep),(8,.keep),(9,.keep)])] [(3,1,(kpL [3]))] [(3,spW zCI zCH (zld zbb) default zCv zCq)] []
theorem zBu (zbb:At->Bool×ByteArray):zR (ztn zbb) (lp (body f154) 0):=zD (id:=3) (hl:=rfl)
def ztS (zbb:At->Bool×ByteArray) (l:yC):Wy0 (ByteArray):=.bn (zto zbb (l.length+(Int.ofNat l.length).toNat +Int.toNat 0+0+1) l (Int.ofNat l.length) 0 []) λr5=>.bn (strings_Join r5 (ByteArray.mk #[(42:UInt8)])) λr4=>.k r4
def zgr (zbb:At->Bool×ByteArray) (l:yC):=(ztS zbb l).fin default
theorem zAj (zbb:At->Bool×ByteArray) (zG4:Sound Tryz.prog zbE 215 (zlr zbb)):Sound Tryz.prog zbE 154 (zgm (zgr zbb)):=
 sU (cx':=(ztn zbb)) (zk ⟨zsh,zG4,zES.nodr,trivial⟩) call154 func154 (lOK (aC (zBu zbb) aN))
abbrev zso:=Unit×yB×Int×Int×Unit
abbrev zsq:=List ByteArray×Unit
def zkp (zT:yC->Bool×ByteArray) (t9:yB) (t10:Int) (t11:Int) (out_:List ByteArray):Wy zso zsq (List ByteArray):=.i (decide (t11<t10)) (.i (decide (0<=t11)&&decide (t11<Int.ofNat t9.length)) (.i (Int.ofNat (t9.getD t11.toNat default).Fs.length==0) (.bn (ziS (t9.getD t11.toNat default).Cf 10) λr0=>.i (decide ((out_.length+[r0].length)*16<=zI)) (.h ((),t9,t10,(IntKind.i64.wrap (t11+1)),()) ((out_++[r0]),())) .d) (.i ((t9.getD t11.toNat default).Cf==1) (.bn (zT (t9.getD t11.toNat default).Fs) λr1=>.i (decide ((out_.length+[r1].length)*16<=zI)) (.h ((),t9,t10,(IntKind.i64.wrap (t11+1)),()) ((out_++[r1]),())) .d) (.bn (ziS (t9.getD t11.toNat default).Cf 10) λr3=>.i (decide (r3.size+(ByteArray.mk #[(42:UInt8)]).size<=9223372036854775807)) (.bn (zT (t9.getD t11.toNat default).Fs) λr2=>.i (decide ((r3++ByteArray.mk #[(42:UInt8)]).size+r2.size<=9223372036854775807)) (.i (decide ((out_.length+[r3++ByteArray.mk #[(42:UInt8)]++r2].length)*16<=zI)) (.h ((),t9,t10,(IntKind.i64.wrap (t11+1)),()) ((out_++[r3++ByteArray.mk #[(42:UInt8)]++r2]),())) .d) .d) .d))) .d) (.k out_)
def zve (zT:yC->Bool×ByteArray) (x:zso) (y:zsq):=zkp zT x.2.1 x.2.2.1 x.2.2.2.1 y.1
def zCw (zT:yC->Bool×ByteArray) (n:Nat) (t9:yB) (t10:Int) (t11:Int) (out_:List ByteArray):=zx (zve zT) default n ((),t9,t10,t11,()) (out_,())
def zM1 (r:List ByteArray):LTree ty:=.done (.exit 0) [.own 200] [.arr 9 r false]
def zPW:LL ty zso:=za (zd4 200) (za (lSl 107) (za zi (za zi zo)))
def zPL:BL ty zsq:=zen 9 false (zbu)
def zOh (x:zso) (y:zsq):Nat:=(x.2.1.length+Int.toNat x.2.2.1+Int.toNat x.2.2.2.1+y.1.length+1)
def zCl (zT:yC->Bool×ByteArray):=zcG zbE 50 [(44,zoy),(92,zs2),(154,(zgm zT))] [] [(5,[(3,.own 9),(9,.keep),(10,.keep),(11,.keep)])] [(5,1,(kpL [3]))] [(5,spW zPW zPL (zve zT) default zM1 zOh)] []
theorem zNL (zT:yC->Bool×ByteArray):zR (zCl zT) (lp (body f94) 0):=zD (id:=5) (hl:=rfl)
def zC8 (zT:yC->Bool×ByteArray) (a:yB):Wy0 (ByteArray):=.i (Int.ofNat a.length==0) (.k (ByteArray.mk #[(48:UInt8)])) (.bn (zCw zT (a.length+(Int.ofNat a.length).toNat +Int.toNat 0+0+1) a (Int.ofNat a.length) 0 []) λr9=>.bn (strings_Join r9 (ByteArray.mk #[(32:UInt8),(43:UInt8),(32:UInt8)])) λr8=>.k r8)
def zn8 (zT:yC->Bool×ByteArray) (a:yB):=(zC8 zT a).fin default
theorem zKQ (zT:yC->Bool×ByteArray) (zDS:Sound Tryz.prog zbE 154 (zgm zT)):Sound Tryz.prog zbE 94 (zot (zn8 zT)):=
 sU (cx':=(zCl zT)) (zk ⟨zsh,zyK.nodr,zDS,trivial⟩) call94 func94 (lOK (aC (zNL zT) aN))
def zDv:Nat->(yB->Bool×ByteArray)×(At->Bool×ByteArray)×(yC->Bool×ByteArray)
 | 0=>(λ_=>(false,default),λ_=>(false,default),λ_=>(false,default))
 | n+1=>(zn8 ((zDv n).2.2),ziI ((zDv n).1),zgr ((zDv n).2.1))
def zor (n:Nat):yB->Bool×ByteArray:=(zDv n).1
def zlp (n:Nat):At->Bool×ByteArray:=(zDv n).2.1
def zgp (n:Nat):yC->Bool×ByteArray:=(zDv n).2.2
theorem zQs (n:Nat):zor (n+1)=zn8 (zgp n):=rfl
theorem zGt (n:Nat):zlp (n+1)=ziI (zor n):=rfl
theorem zCM (n:Nat):zgp (n+1)=zgr (zlp n):=rfl
theorem zPQ:∀ n,Sound Tryz.prog zbE 94 (zot (zor n))/\Sound Tryz.prog zbE 215 (zlr (zlp n))/\Sound Tryz.prog zbE 154 (zgm (zgp n))
 | 0=>⟨zbs call94 (λ_=>rfl),zbs call215 (λ_=>rfl),zbs call154 (λ_=>rfl)⟩
 | n+1=>by
  have ih:=zPQ n;exact ⟨zKQ _ (ih.2.2),zCE _ (ih.1),zAj _ (ih.2.1)⟩
def zLF:yB->Bool×ByteArray:=zor 1000
def zBA:Ab.Spec ty:=zot zLF
theorem zM2:Sound Tryz.prog zbE 94 zBA:=(zPQ 1000).1
def zqq:yC->Bool×ByteArray:=zgp 1000
def ztm:Ab.Spec ty:=zgm zqq
theorem zCy:Sound Tryz.prog zbE 154 ztm:=(zPQ 1000).2.2
def zQo:=zbM zbE 8 [(52,zco),(94,zBA)]
def zSp (a:yB):Wy0 (ByteArray):=.bn (zcb a) λr1=>.i (!r1) (.k (ByteArray.mk #[])) (.bn (zLF a) λr0=>.k r0)
def zy4 (a:yB):=(zSp a).fin default
def zzv:=zh zVB λx=>((zy4 x.1).1,zR8 (zy4 x.1).2)
theorem zKW:Sound Tryz.prog zbE 46 zzv:=
 sU (cx':=zQo) (zk ⟨zcx.nodr,zM2,trivial⟩) call46 func46 (lOK aN)
def zR3:=zbM base 16 [(91,zqc)]
def zFq (p:pair):Wy0 (Bool):=.bn (zpw p.v) λr0=>.i (!r0) (.k true) (.k (p.v.Kind != p.c.Type_))
def zlT (p:pair):=(zFq p).fin default
def zUX:AL base (pair×Unit):=zf (zg (zcT 137)) zA
def znA:=zh zUX λx=>((zlT x.1).1,zRy (zlT x.1).2)
theorem ztc:SdP 102 znA:=
 sT (cx':=zR3) (zk ⟨ztF,trivial⟩) call102 func102 (lOK aN)
abbrev zxd:=yH×Unit×yG×Int×Int×Unit
abbrev zxf:=List pair×Unit
def zCz (l:yH) (t8:yG) (t9:Int) (t10:Int) (out_:List pair):Wy zxd zxf (List pair):=.i (decide (t10<t9)) (.i (decide (0<=t10)&&decide (t10<Int.ofNat t8.length)) (.i (decide (0<=t10)&&decide (t10<Int.ofNat l.length)) (.i (decide ((out_.length+[pair.mk (l.getD t10.toNat default) (t8.getD t10.toNat default)].length)*56<=zI)) (.h (l,(),t8,t9,(IntKind.i64.wrap (t10+1)),()) ((out_++[pair.mk (l.getD t10.toNat default) (t8.getD t10.toNat default)]),())) .d) .d) .d) (.k out_)
def zCp (x:zxd) (y:zxf):=zCz x.1 x.2.2.1 x.2.2.2.1 x.2.2.2.2.1 y.1
def zBs (n:Nat) (l:yH) (t8:yG) (t9:Int) (t10:Int) (out_:List pair):=zx (zCp) default n (l,(),t8,t9,t10,()) (out_,())
def zXC (r:List pair):LTree ty:=.done (.exit 0) [.own 104] [.arr 137 r false]
def zX1:LL ty zxd:=za (lSl 75) (za (zd4 104) (za (lSl 79) (za zi (za zi zo))))
def zYo:BL ty zxf:=zen 137 false (zbu)
def zW5 (x:zxd) (y:zxf):Nat:=(x.1.length+x.2.2.1.length+Int.toNat x.2.2.2.1+Int.toNat x.2.2.2.2.1+y.1.length+1000)
def zLi:=zcG base 26 [] [] [(3,[(0,.keep),(5,.own 137),(8,.keep),(9,.keep),(10,.keep)])] [(3,1,(kpL [5]))] [(3,spW zX1 zYo (zCp) default zXC zW5)] []
theorem zWS:zR zLi (lp (body f101) 0):=zD (id:=3) (hl:=rfl)
def zNn (l:yH) (row:yG):Wy0 (List pair):=.bn (zBs (l.length+row.length+(Int.ofNat row.length).toNat +Int.toNat 0+0+1000) l row (Int.ofNat row.length) 0 []) λr0=>.k r0
def zx1 (l:yH) (row:yG):=(zNn l row).fin default
def zXN (r:List pair):ARes ty:=⟨[.own 137 r],[]⟩
def z0J:AL base (yH×yG×Unit):=zf (zg (vSl 75)) (zf (zg (vSl 79)) zA)
def zGP:=zh z0J λx=>((zx1 x.1 x.2.1).1,zXN (zx1 x.1 x.2.1).2)
theorem zUD:SdP 101 zGP:=
 sT (cx':=zLi) (zk trivial) call101 func101 (lOK (aC zWS aN)) (sg:=⟨[.own 137],[]⟩)
abbrev zde:=List pair×Unit×Int×Int×Unit
def zoe (s:List pair) (t7:Int) (t8:Int):Wy zde Unit (Int⊕Unit):=.i (decide (t8<t7)) (.i (decide (0<=t8)&&decide (t8<Int.ofNat s.length)) (.bn (zlT (s.getD t8.toNat default)) λr0=>.i (r0) (.k (.inl t8)) (.h (s,(),t7,(IntKind.i64.wrap (t8+1)),()) ())) .d) (.k (.inr ()))
def zgV (x:zde) (y:Unit):=zoe x.1 x.2.2.1 x.2.2.2.1
def zoh (n:Nat) (s:List pair) (t7:Int) (t8:Int):=zx (zgV) (.inl default) n (s,(),t7,t8,()) ()
def zoz:LL ty zde:=za (lSl 137) (za (lFn 102 (zo)) (za zi (za zi zo)))
def znJ (x:zde) (y:Unit):Nat:=(x.1.length+Int.toNat x.2.2.1+Int.toNat x.2.2.2.1+1000)
def zgX:=zcG base 19 [(102,znA)] [] [(2,(kpL [0,1,7,8]))] [(2,1,[]),(2,0,(kpL [4]))] [(2,spW zoz z2p (zgV) (.inl default) zrz znJ)] []
theorem znV:zR zgX (lp (body f158) 0):=zD (id:=2) (hl:=rfl)
def zoV (s:List pair):Wy0 (Int):=.bn (zoh (s.length+(Int.ofNat s.length).toNat +Int.toNat 0+1000) s (Int.ofNat s.length) 0) λr2=>.i (isL r2) (.k (getL r2)) (.k (-1:Int))
def zc2 (s:List pair):=(zoV s).fin default
def zpn:AL base (List pair×Unit×Unit):=zf (zg (vSl 137)) (zf (zg (vFn 102 zc6)) zA)
def zgi:=zh zpn λx=>((zc2 x.1).1,zMi (zc2 x.1).2)
theorem zmz:SdP 158 zgi:=
 sT (cx':=zgX) (zk ⟨ztc,trivial⟩) call158 func158 (lOK (aC znV aN))
def zmN:=zbM base 9 [(102,znA),(158,zgi)]
def zgk (s:List pair):Wy0 (Bool):=.bn (zc2 s) λr0=>.k (decide (r0≥0))
def zb1 (s:List pair):=(zgk s).fin default
def zfC:=zh zpn λx=>((zb1 x.1).1,zRy (zb1 x.1).2)
theorem zlO:SdP 100 zfC:=
 sT (cx':=zmN) (zk ⟨ztc,zmz,trivial⟩) call100 func100 (lOK aN)
def zWU:=zbM base 17 [(100,zfC),(101,zGP),(102,znA)]
def zLI (l:yH) (row:yG):Wy0 (Bool):=.i (Int.ofNat l.length==Int.ofNat row.length) (.bn (zx1 l row) λr1=>.bn (zb1 r1) λr0=>.k (!r0)) (.k false)
def zr4 (l:yH) (row:yG):=(zLI l row).fin default
def zyb:=zh z0J λx=>((zr4 x.1 x.2.1).1,zRy (zr4 x.1 x.2.1).2)
theorem zC0:SdP 51 zyb:=
 sT (cx':=zWU) (zk ⟨zlO,zUD,ztc,trivial⟩) call51 func51 (lOK aN)
def zZU:=zbM base 2 []
def z1U:Wy0 (List ByteArray):=.k [ByteArray.mk #[(73:UInt8),(78:UInt8),(84:UInt8),(69:UInt8),(71:UInt8),(69:UInt8),(82:UInt8)],ByteArray.mk #[(84:UInt8),(69:UInt8),(88:UInt8),(84:UInt8)],ByteArray.mk #[(66:UInt8),(79:UInt8),(79:UInt8),(76:UInt8),(69:UInt8),(65:UInt8),(78:UInt8)]]
def zD3:Bool×List ByteArray:=(z1U).fin default
def zJk:=zh zZP λx=>((zD3 ).1,zIw (zD3 ).2)
theorem zVn:SdP 87 zJk:=
 sT (cx':=zZU) (zk trivial) call87 func87 (lOK aN) (sg:=⟨[.own 9],[]⟩)
def zVv:=zbM base 13 [(87,zJk)]
def zz8 (kind:Int):Wy0 (ByteArray):=.i (decide (kind<0)) (.k (ByteArray.mk #[])) (.i (decide (kind>2)) (.k (ByteArray.mk #[])) (.i (decide (0<=kind)&&decide (kind<Int.ofNat zD3.2.length)) (.k (zD3.2.getD kind.toNat default)) .d))
def zpM (kind:Int):=(zz8 kind).fin default
def zwF:=zh zVs λx=>((zpM x.1).1,zR8 (zpM x.1).2)
theorem zCu:SdP 43 zwF:=
 sT (cx':=zVv) (zk ⟨zVn,trivial⟩) call43 func43 (lOK aN)
def zFz:=zbM base 7 [(43,zwF)]
def znH (c:Column):Wy0 (Bool):=.bn (zpM c.Type_) λr0=>.k (r0.toList==(ByteArray.mk #[]).toList)
def zb0 (c:Column):=(znH c).fin default
def zGs:AL base (Column×Unit):=zf (zg (zcT 75)) zA
def zhM:=zh zGs λx=>((zb0 x.1).1,zRy (zb0 x.1).2)
theorem zkr:SdP 99 zhM:=
 sT (cx':=zFz) (zk ⟨zCu,trivial⟩) call99 func99 (lOK aN)
abbrev zei:=yH×Unit×Int×Int×Unit
def zr9 (s:yH) (t7:Int) (t8:Int):Wy zei Unit (Int⊕Unit):=.i (decide (t8<t7)) (.i (decide (0<=t8)&&decide (t8<Int.ofNat s.length)) (.bn (zb0 (s.getD t8.toNat default)) λr0=>.i (r0) (.k (.inl t8)) (.h (s,(),t7,(IntKind.i64.wrap (t8+1)),()) ())) .d) (.k (.inr ()))
def zjb (x:zei) (y:Unit):=zr9 x.1 x.2.2.1 x.2.2.2.1
def zsC (n:Nat) (s:yH) (t7:Int) (t8:Int):=zx (zjb) (.inl default) n (s,(),t7,t8,()) ()
def zsD:LL ty zei:=za (lSl 75) (za (lFn 99 (zo)) (za zi (za zi zo)))
def zrK (x:zei) (y:Unit):Nat:=(x.1.length+Int.toNat x.2.2.1+Int.toNat x.2.2.2.1+1000)
def zjc:=zcG base 19 [(99,zhM)] [] [(2,(kpL [0,1,7,8]))] [(2,1,[]),(2,0,(kpL [4]))] [(2,spW zsD z2p (zjb) (.inl default) zrz zrK)] []
theorem zrG:zR zjc (lp (body f157) 0):=zD (id:=2) (hl:=rfl)
def zta (s:yH):Wy0 (Int):=.bn (zsC (s.length+(Int.ofNat s.length).toNat +Int.toNat 0+1000) s (Int.ofNat s.length) 0) λr2=>.i (isL r2) (.k (getL r2)) (.k (-1:Int))
def zdV (s:yH):=(zta s).fin default
def zsX:AL base (yH×Unit×Unit):=zf (zg (vSl 75)) (zf (zg (vFn 99 zc6)) zA)
def zii:=zh zsX λx=>((zdV x.1).1,zMi (zdV x.1).2)
theorem zqF:SdP 157 zii:=
 sT (cx':=zjc) (zk ⟨zkr,trivial⟩) call157 func157 (lOK (aC zrG aN))
def zp4:=zbM base 9 [(99,zhM),(157,zii)]
def zif (s:yH):Wy0 (Bool):=.bn (zdV s) λr0=>.k (decide (r0≥0))
def zcr (s:yH):=(zif s).fin default
def zhk:=zh zsX λx=>((zcr x.1).1,zRy (zcr x.1).2)
theorem zon:SdP 98 zhk:=
 sT (cx':=zp4) (zk ⟨zkr,zqF,trivial⟩) call98 func98 (lOK aN)
def zIN:=zbM base 11 [(98,zhk),(99,zhM)]
def zy1 (l:yH):Wy0 (Bool):=.i (decide (Int.ofNat l.length<=16)) (.bn (zcr l) λr0=>.k (!r0)) (.k false)
def zhu (l:yH):=(zy1 l).fin default
def zKh:AL base (yH×Unit):=zf (zg (vSl 75)) zA
def znP:=zh zKh λx=>((zhu x.1).1,zRy (zhu x.1).2)
theorem zuN:SdP 50 znP:=
 sT (cx':=zIN) (zk ⟨zon,zkr,trivial⟩) call50 func50 (lOK aN)
abbrev ztx:=Unit×yF×Int×Int×Unit
abbrev zov:=Relation×Unit
def zoq (t16:yF) (t17:Int) (t18:Int) (r:Relation):Wy ztx zov (Bool⊕Unit):=.i (decide (t18<t17)) (.i (decide (0<=t18)&&decide (t18<Int.ofNat t16.length)) (.bn (zr4 r.Columns (t16.getD t18.toNat default).Values) λr2=>.i (!r2) (.k (.inl false)) (.i (Int.ofNat (t16.getD t18.toNat default).Ann.length==0) (.k (.inl false)) (.bn (zcb (t16.getD t18.toNat default).Ann) λr1=>.i (!r1) (.k (.inl false)) (.i (decide (t18>0)) (.i (decide (0<=IntKind.i64.wrap (t18 - 1))&&decide (IntKind.i64.wrap (t18 - 1)<Int.ofNat r.Rows.length)) (.bn (zcq (r.Rows.getD (IntKind.i64.wrap (t18 - 1)).toNat default) (t16.getD t18.toNat default)) λr0=>.i (decide (r0≥0)) (.k (.inl false)) (.h ((),t16,t17,(IntKind.i64.wrap (t18+1)),()) (r,()))) .d) (.h ((),t16,t17,(IntKind.i64.wrap (t18+1)),()) (r,())))))) .d) (.k (.inr ()))
def zza (x:ztx) (y:zov):=zoq x.2.1 x.2.2.1 x.2.2.2.1 y.1
def zGT (n:Nat) (t16:yF) (t17:Int) (t18:Int) (r:Relation):=zx (zza) (.inl default) n ((),t16,t17,t18,()) (r,())
def zVw:LL ty ztx:=za (zdo 228 0) (za (lSl 54) (za zi (za zi zo)))
def zVS:BL ty zov:=zeM (zfh (λx=>(⟨x.1,x.2.1⟩:Relation)) (λx=>(x.Columns,x.Rows,())) (λ_=>rfl) (za (lSl 75) (za (lSl 54) zo))) false (zbu)
def zUV (x:ztx) (y:zov):Nat:=(x.2.1.length+Int.toNat x.2.2.1+Int.toNat x.2.2.2.1+y.1.Columns.length+y.1.Rows.length+1000)
def zGA:=zcG base 57 [(50,znP),(51,zyb),(52,zco),(53,zft)] [] [(4,(kpL [1,16,17,18]))] [(4,1,[]),(4,0,(kpL [2]))] [(4,spW zVw zVS (zza) (.inl default) zmM zUV)] []
theorem zTl:zR zGA (lp (body f14) 0):=zD (id:=4) (hl:=rfl)
def zIf (r:Relation):Wy0 (Bool):=.bn (zhu r.Columns) λr7=>.i (!r7) (.k false) (.i (decide (Int.ofNat r.Rows.length>1024)) (.k false) (.bn (zGT (r.Rows.length+(Int.ofNat r.Rows.length).toNat +Int.toNat 0+r.Columns.length+r.Rows.length+1000) r.Rows (Int.ofNat r.Rows.length) 0 r) λr6=>.i (isL r6) (.k (getL r6)) (.k true)))
def zpY (r:Relation):=(zIf r).fin default
def zWZ:AL base zov:=zf (zg (zcT 25)) zA
def zq3:=zh zWZ λx=>((zpY x.1).1,zRy (zpY x.1).2)
theorem zu9:SdP 14 zq3:=
 sT (cx':=zGA) (zk ⟨zuN,zC0,zcx,zgE,trivial⟩) call14 func14 (lOK (aC zTl aN))
abbrev zsI:=Unit×Unit×yH×Int×Int×Unit
abbrev zsv:=Relation×List ByteArray×Unit
abbrev zEk:=Relation×List ByteArray
abbrev zsc:=Unit×Unit×Unit×yF×Int×Int×yG×Int×Int×Unit
abbrev zsB:=List ByteArray×Row×List ByteArray×Unit
abbrev zEV:=yF×Int×Int×List ByteArray×Row×List ByteArray
abbrev zse:=Unit×yF×Int×Int×Unit
abbrev zsL:=List ByteArray×Unit
def zTp (t16:yH) (t17:Int) (t18:Int) (r:Relation) (head:List ByteArray):Wy zsI zsv zEk:=.i (decide (t18<t17)) (.i (decide (0<=t18)&&decide (t18<Int.ofNat t16.length)) (.i (decide ((t16.getD t18.toNat default).Name.size+(ByteArray.mk #[(32:UInt8)]).size<=9223372036854775807)) (.bn (zpM (t16.getD t18.toNat default).Type_) λr2=>.i (decide (((t16.getD t18.toNat default).Name++ByteArray.mk #[(32:UInt8)]).size+r2.size<=9223372036854775807)) (.i (decide ((head.length+[(t16.getD t18.toNat default).Name++ByteArray.mk #[(32:UInt8)]++r2].length)*16<=zI)) (.h ((),(),t16,t17,(IntKind.i64.wrap (t18+1)),()) (r,(head++[(t16.getD t18.toNat default).Name++ByteArray.mk #[(32:UInt8)]++r2]),())) .d) .d) .d) .d) (.k (r,head))
def zE0 (x:zsI) (y:zsv):=zTp x.2.2.1 x.2.2.2.1 x.2.2.2.2.1 y.1 y.2.1
def zTd (n:Nat) (t16:yH) (t17:Int) (t18:Int) (r:Relation) (head:List ByteArray):=zx (zE0) default n ((),(),t16,t17,t18,()) (r,head,())
def zR0 (r:zEk):LTree ty:=.done (.exit 0) [.ptr 272 0,.own 273] [.box (base.enc 25 r.1) false,.arr 9 r.2 false]
def zTA:LL ty zsI:=za (zdo 272 0) (za (zd4 273) (za (lSl 75) (za zi (za zi zo))))
def zT9:BL ty zsv:=zeM (zfh (λx=>(⟨x.1,x.2.1⟩:Relation)) (λx=>(x.Columns,x.Rows,())) (λ_=>rfl) (za (lSl 75) (za (lSl 54) zo))) false (zen 9 false (zbu))
def zRu (t37:yF) (t38:Int) (t39:Int) (t44:yG) (t45:Int) (t46:Int) (out_:List ByteArray) (x_:Row) (l:List ByteArray):Wy zsc zsB zEV:=.i (decide (t46<t45)) (.i (decide (0<=t46)&&decide (t46<Int.ofNat t44.length)) (.bn (zqb (t44.getD t46.toNat default)) λr4=>.i (decide ((l.length+[r4].length)*16<=zI)) (.h ((),(),(),t37,t38,t39,t44,t45,(IntKind.i64.wrap (t46+1)),()) (out_,x_,(l++[r4]),())) .d) .d) (.k (t37,t38,t39,out_,x_,l))
def zDb (x:zsc) (y:zsB):=zRu x.2.2.2.1 x.2.2.2.2.1 x.2.2.2.2.2.1 x.2.2.2.2.2.2.1 x.2.2.2.2.2.2.2.1 x.2.2.2.2.2.2.2.2.1 y.1 y.2.1 y.2.2.1
def zSa (n:Nat) (t37:yF) (t38:Int) (t39:Int) (t44:yG) (t45:Int) (t46:Int) (out_:List ByteArray) (x_:Row) (l:List ByteArray):=zx (zDb) default n ((),(),(),t37,t38,t39,t44,t45,t46,()) (out_,x_,l,())
def zQn (r:zEV):LTree ty:=.done (.exit 4) [.own 272,.ptr 273 0,.own 274,.sl 54 r.1,.lit (.int .i64 r.2.1),.lit (.int .i64 r.2.2.1)] [.arr 9 r.2.2.2.1 false,.box (base.enc 54 r.2.2.2.2.1) false,.arr 9 r.2.2.2.2.2 false]
def zSc:LL ty zsc:=za (zd4 272) (za (zdo 273 0) (za (zd4 274) (za (lSl 54) (za zi (za zi (za (lSl 79) (za zi (za zi zo))))))))
def zRM:BL ty zsB:=zen 9 false (zeM (zfh (λx=>(⟨x.1,x.2.1⟩:Row)) (λx=>(x.Values,x.Ann,())) (λ_=>rfl) (za (lSl 79) (za (lSl 107) zo))) false (zen 9 false (zbu)))
def zR5 (t37:yF) (t38:Int) (t39:Int) (out_:List ByteArray):Wy zse zsL (List ByteArray):=.i (decide (t39<t38)) (.i (decide (0<=t39)&&decide (t39<Int.ofNat t37.length)) (.bn (zSa (t37.length+t38.toNat +t39.toNat +(t37.getD t39.toNat default).Values.length+(Int.ofNat (t37.getD t39.toNat default).Values.length).toNat +Int.toNat 0+out_.length+(t37.getD t39.toNat default).Values.length+(t37.getD t39.toNat default).Ann.length+0+1000) t37 t38 t39 (t37.getD t39.toNat default).Values (Int.ofNat (t37.getD t39.toNat default).Values.length) 0 out_ (t37.getD t39.toNat default) []) λr8=>.bn (strings_Join r8.2.2.2.2.2 (ByteArray.mk #[(44:UInt8),(32:UInt8)])) λr7=>.i (decide (r7.size+(ByteArray.mk #[(32:UInt8),(124:UInt8),(32:UInt8)]).size<=9223372036854775807)) (.bn (zy4 r8.2.2.2.2.1.Ann) λr6=>.i (decide ((r7++ByteArray.mk #[(32:UInt8),(124:UInt8),(32:UInt8)]).size+r6.size<=9223372036854775807)) (.i (decide ((r8.2.2.2.1.length+[r7++ByteArray.mk #[(32:UInt8),(124:UInt8),(32:UInt8)]++r6].length)*16<=zI)) (.h ((),(r8.1),(r8.2.1),(IntKind.i64.wrap (r8.2.2.1+1)),()) ((r8.2.2.2.1++[r7++ByteArray.mk #[(32:UInt8),(124:UInt8),(32:UInt8)]++r6]),())) .d) .d) .d) .d) (.k out_)
def zC2 (x:zse) (y:zsL):=zR5 x.2.1 x.2.2.1 x.2.2.2.1 y.1
def zRz (n:Nat) (t37:yF) (t38:Int) (t39:Int) (out_:List ByteArray):=zx (zC2) default n ((),t37,t38,t39,()) (out_,())
def zPE (r:List ByteArray):LTree ty:=.done (.exit 2) [.own 272] [.arr 9 r false]
def zSk:LL ty zse:=za (zd4 272) (za (lSl 54) (za zi (za zi zo)))
def zRw:BL ty zsL:=zen 9 false (zbu)
def zR4 (x:zsI) (y:zsv):Nat:=(x.2.2.1.length+Int.toNat x.2.2.2.1+Int.toNat x.2.2.2.2.1+y.1.Columns.length+y.1.Rows.length+y.2.1.length+1000)
def zQw (x:zsc) (y:zsB):Nat:=(x.2.2.2.1.length+Int.toNat x.2.2.2.2.1+Int.toNat x.2.2.2.2.2.1+x.2.2.2.2.2.2.1.length+Int.toNat x.2.2.2.2.2.2.2.1+Int.toNat x.2.2.2.2.2.2.2.2.1+y.1.length+y.2.1.Values.length+y.2.1.Ann.length+y.2.2.1.length+1000)
def zQc (x:zse) (y:zsL):Nat:=(x.2.1.length+Int.toNat x.2.2.1+Int.toNat x.2.2.2.1+y.1.length+1000)
def zsU:=zcG zbE 68 [(14,zq3),(43,zwF),(44,zoy),(45,zzp),(46,zzv)] [] [(5,[(1,.keep),(3,.own 9),(16,.keep),(17,.keep),(18,.keep)]),(11,(kpL [6,37,38,39])),(15,[(6,.keep),(8,.keep),(9,.own 9),(37,.keep),(38,.keep),(39,.keep),(44,.keep),(45,.keep),(46,.keep)])] [(5,1,(kpL [1,3])),(11,3,(kpL [6])),(15,5,(kpL [6,8,9,37,38,39]))] [(5,spW zTA zT9 (zE0) default zR0 zR4),(15,spW zSc zRM (zDb) default zQn zQw),(11,spW zSk zRw (zC2) default zPE zQc)] []
theorem zRT:zR zsU (lp (body f12) 0):=zD (id:=5) (hl:=rfl)
theorem zQr:zR zsU (lp (body f12) 2):=zD (id:=15) (hl:=rfl)
theorem zPF:zR zsU (lp (body f12) 1):=zD (id:=11) (hl:=rfl)
def zVF (r:Relation):Wy0 (List ByteArray):=.bn (zpY r) λr15=>.i (!r15) (.k []) (.bn (zTd (r.Columns.length+(Int.ofNat r.Columns.length).toNat +Int.toNat 0+r.Columns.length+r.Rows.length+0+1000) r.Columns (Int.ofNat r.Columns.length) 0 r []) λr14=>.bn (strings_Join r14.2 (ByteArray.mk #[(44:UInt8),(32:UInt8)])) λr13=>.bn (zRz (r14.1.Rows.length+(Int.ofNat r14.1.Rows.length).toNat +Int.toNat 0+[r13].length+1000) r14.1.Rows (Int.ofNat r14.1.Rows.length) 0 [r13]) λr12=>.k r12)
def zLh (r:Relation):=(zVF r).fin default
def zVr:AL zbE (Relation×Unit):=zf (zg (zcT 25)) zA
def zBQ:=zh zVr λx=>((zLh x.1).1,zIw (zLh x.1).2)
theorem zOp:Sound Tryz.prog zbE 12 zBQ:=
 sU (cx':=zsU) (zk ⟨zu9.nodr,zCu.nodr,zsh,zEM,zKW,trivial⟩) call12 func12 (lOK (aC zRT (aC zPF (aC zQr aN)))) (sg:=⟨[.own 9],[]⟩)
def zB9 (k:Go.Value) (l:List (Go.Value×Int)):Option Int:=zQN (ty:=ty) (V:=3) k l
def z73 (k:Go.Value) (l:List (Go.Value×Int)):Bool:=zFZ (ty:=ty) (V:=3) k l
def z62 (k:Go.Value) (x:Int) (l:List (Go.Value×Int)):List (Go.Value×Int):=zDB (ty:=ty) (V:=3) k x l
def zkk (x:yB) (a b lim:Int):Bool×yB:=zZY zbX x a b lim
def zyt:Ab.Spec ty:=zh (cx:=base) (zf (zrH 107) (zf (zg (zf5 .i64)) (zf (zg (zf5 .i64)) (zf (zg (zf5 .i64)) (zf (zg (vFn 104 zc6)) zA))))) λx=>((zkk x.1 x.2.1 x.2.2.1 x.2.2.2.1).1,⟨[],[some ⟨107,(zkk x.1 x.2.1 x.2.2.1 x.2.2.2.1).2⟩]⟩)
theorem zy2 (c:Unit) (x y:Term) (h:(zbX x y).1=true):ziz ((AV.agg (base.enc 107 x)::AV.agg (base.enc 107 y)::(zc6:VL base Unit).enc c).map Arg.pure)=some (true,⟨[.pure (.lit (.int .i64 (zbX x y).2))],[]⟩):=by
 rw [<- h]; kernel_rfl
theorem zxY:SdP 231 zyt:=by
 letI:DecidableEq (ty 107):=inferInstanceAs (DecidableEq Term)
 exact z79 (T:=107) ze1 rfl Go.Proofs.Tryz.pdqTerm Tryz.isAgg107 (by unfold zq; exact Tryz.sizeOf107) call231 zlg zc6 (λc=>zbX) zy2
open Go.Proofs Go.RowKit
def zbJ (x:yB):Bool×yB:=z4M zbX x
def zeW:Ab.Spec ty:=zh (cx:=base) (zf (zrH 107) (zf (zg (vFn 104 zc6)) zA)) λx=>((zbJ x.1).1,⟨[],[some ⟨107,(zbJ x.1).2⟩]⟩)
set_option maxHeartbeats 1000000 in
theorem zsw:SdP 192 zeW where
 enters:=call192
 calls:=λavs r hsp w F vs hF ha hsep=>by
  unfold zeW zh at hsp;split at hsp
  ·rename_i x hx;simp only [qa,qb] at hsp;obtain ⟨hpre,rfl⟩:=hsp;have hk:=(zf (zrH 107) (zf (zg (vFn 104 zc6)) zA):AL base _).kind vs avs x hx;have ha':=(zf (zrH 107) (zf (zg (vFn 104 zc6)) zA):AL base _).ok Tryz.prog ze1 F w vs avs x hx ha;rw [hk] at hsep ⊢;clear hk hx ha;obtain ⟨l0,c,u0⟩:=x;obtain ⟨l,rfl⟩:∃ l:yB,l=l0:=⟨l0,rfl⟩;obtain ⟨v,vs',rfl,hv,hv'⟩:=ha'.inv;obtain ⟨fv,vs'',rfl,hfv,h0⟩:=hv'.inv;obtain rfl:=h0.nil_left.1
   have hsl:∃ p cap,v=.slice p l.length cap:=by
    obtain ⟨⟨xs,hown,_⟩,_⟩:=(show zdf base F w v 107 l/\∀ b,zbc v=some b->¬ F b from hv)
    rcases hown.2 with ⟨h1,h2⟩ | ⟨g0,cap,cur,h1,_⟩
    ·exact ⟨none,0,by rw [h1,show l.length=0 from h2]⟩
    ·exact ⟨_,cap,h1⟩
   have hok:SortOK (α:=Term) zbX l:=of_decide_eq_true (p:=SortOK (α:=Term) zbX l) hpre;have hlen:l.length<4611686018427387904:=hok.size;have hbl:Lib.bitLen l.length<4611686018427387904:=Nat.lt_of_le_of_lt (Lib.bitLen_le l.length 62 (by omega) (by omega)) (by omega)
   have hpp:(zkk l 0 (l.length:Int) ((Lib.bitLen l.length:Nat):Int)).1=true:=by
    show (decide (SortOK (α:=Term) zbX l)&&(decide ((0:Int)=0)&&(decide ((l.length:Int)=l.length)&&(decide ((0:Int)<=((Lib.bitLen l.length:Nat):Int))&&decide (((Lib.bitLen l.length:Nat):Int)<4611686018427387904)))))=true;simp only [qc,qe];exact ⟨hok,trivial,trivial,by omega,by omega⟩
   have hp:=(zxY).calls [.own 107 l,.pure (.lit (.int .i64 0)),.pure (.lit (.int .i64 (l.length:Int))),.pure (.lit (.int .i64 ((Lib.bitLen l.length:Nat):Int))),.pure (.fn 104 [])] ⟨[],[some ⟨107,(zbJ l).2⟩]⟩
    (by rw [<- hpp]; kernel_rfl) w F [v,.int .i64 0,.int .i64 (l.length:Int),.int .i64 ((Lib.bitLen l.length:Nat):Int),fv] hF (.cons hv (.cons (Rep.lit _) (.cons (Rep.lit _) (.cons (Rep.lit _) (.cons hfv .nil))))) hsep
   replace hp:Calls Tryz.prog 231 #[v,.int .i64 0,.int .i64 (l.length:Int),.int .i64 ((Lib.bitLen l.length:Nat):Int),fv] w λe w'=>∃ u,e=.returned u/\Post base F w [v] ⟨[],[some ⟨107,(zbJ l).2⟩]⟩ u w':=hp
   show Calls Tryz.prog 192 #[v,fv] w λe w'=>∃ u,e=.returned u/\Post base F w [v] ⟨[],[some ⟨107,(zbJ l).2⟩]⟩ u w'
   have hb:Calls Tryz.prog 205 #[.int .u64 (l.length:Int)] w λe w'=>e=.returned (.int .i64 ((Lib.bitLen l.length:Nat):Int))/\w'=w:=by
    have h:=Any.bits_Len Go.Proofs.Tryz.lays125 (l.length:Int) w (by omega) (by omega)
    rwa [Int.toNat_natCast] at h
   have wr:IntKind.u64.wrap (l.length:Int)=l.length:=by simp [IntKind.wrap,IntKind.bits,IntKind.signed]; omega
   generalize (zbJ l).2=res at hp ⊢;generalize hn:l.length=m at *;generalize Lib.bitLen m=bl at *;clear hpp hv hfv hsep hok hpre hF;obtain ⟨p,cap,rfl⟩:=hsl;clear hn
   go_enter func192,ntmps192
   go_wp2_with (first | (go_at_call 205; refine hb.mono ?_; rintro e w' ⟨rfl,rfl⟩) | (go_at_call 231; refine hp.mono ?_; rintro e w' ⟨u,rfl,hpost⟩; obtain rfl:=hpost.unit))
   go_end0
   exact ⟨_,rfl,hpost⟩
  ·cases hsp
end Go.Proofs.YtoknknbmfmddbaaGreatDoor
namespace Go.Proofs.YtoknknbmfmddbaaGreatDoor
open Go Go.Ab
open Go.Proofs.Tryz
abbrev zna:=Unit×Unit×yB×Int×Int×Unit
abbrev znb:=(List (_root_.Go.Value×Int))×yB×Unit
def zjH (t11:yB) (t12:Int) (t13:Int) (at_:List (_root_.Go.Value×Int)) (out_:yB):Wy zna znb (yB):=.i (decide (t13<t12)) (.i (decide (0<=t13)&&decide (t13<Int.ofNat t11.length)) (.bn (zqq (t11.getD t13.toNat default).Fs) λr0=>.i (z73 (Value.string r0) at_) (.i (decide (0<=(zB9 (Value.string r0) at_).getD 0)&&decide ((zB9 (Value.string r0) at_).getD 0<Int.ofNat out_.length)) (.i (decide (0<=(zB9 (Value.string r0) at_).getD 0)&&decide ((zB9 (Value.string r0) at_).getD 0<Int.ofNat out_.length)) (.i (decide (Int.toNat ((zB9 (Value.string r0) at_).getD 0)<out_.length)) (.h ((),(),t11,t12,(IntKind.i64.wrap (t13+1)),()) (at_,(out_.set (Int.toNat ((zB9 (Value.string r0) at_).getD 0)) (TO.mk (if 1152921504606846976<IntKind.i64.wrap ((out_.getD (Int.toNat ((zB9 (Value.string r0) at_).getD 0)) default).Cf+(t11.getD t13.toNat default).Cf) then 1152921504606846976 else IntKind.i64.wrap ((out_.getD (Int.toNat ((zB9 (Value.string r0) at_).getD 0)) default).Cf+(t11.getD t13.toNat default).Cf)) (out_.getD (Int.toNat ((zB9 (Value.string r0) at_).getD 0)) default).Fs)),())) .d) .d) .d) (.i (decide ((out_.length+[t11.getD t13.toNat default].length)*32<=zI)) (.h ((),(),t11,t12,(IntKind.i64.wrap (t13+1)),()) ((z62 (Value.string r0) (Int.ofNat out_.length) at_),(out_++[t11.getD t13.toNat default]),())) .d)) .d) (.k out_)
def zt0 (x:zna) (y:znb):=zjH x.2.2.1 x.2.2.2.1 x.2.2.2.2.1 y.1 y.2.1
def ztL (n:Nat) (t11:yB) (t12:Int) (t13:Int) (at_:List (_root_.Go.Value×Int)) (out_:yB):=zx (zt0) default n ((),(),t11,t12,t13,()) (at_,out_,())
def zMN (r:yB):LTree ty:=.done (.exit 0) [.own 208] [.arr 107 r false]
def zNg:LL ty zna:=za (lMp 208) (za (zd4 209) (za (lSl 107) (za zi (za zi zo))))
def zOo:BL ty znb:=bMp 9 3 false (zen 107 false (zbu))
def zMd (x:zna) (y:znb):Nat:=(x.2.2.1.length+Int.toNat x.2.2.2.1+Int.toNat x.2.2.2.2.1+y.1.length+y.2.1.length+1)
def zAA:=zcG zbE 52 [(104,ziz),(154,ztm),(192,zeW)] [(192,[true,false])] [(4,[(3,.keep),(4,.own 107),(11,.keep),(12,.keep),(13,.keep)])] [(4,1,(kpL [4]))] [(4,spW zNg zOo (zt0) default zMN zMd)] []
theorem zLR:zR zAA (lp (body f125) 0):=zD (id:=4) (hl:=rfl)
def zBv (terms:yB):Wy0 (yB):=.bn (ztL (terms.length+(Int.ofNat terms.length).toNat +Int.toNat 0+0+0+1) terms (Int.ofNat terms.length) 0 [] []) λr3=>.bn (zbJ r3) λr2=>.k r2
def zhR (terms:yB):=(zBv terms).fin default
def zrt:=zh zVB λx=>((zhR x.1).1,z0A (zhR x.1).2)
theorem zyd:Sound Tryz.prog zbE 125 zrt:=
 sU (cx':=zAA) (zk ⟨zlg.nodr,zCy,zsw.nodr,trivial⟩) call125 func125 (lOK (aC zLR aN)) (sg:=⟨[.own 107],[]⟩)
def zlv (F:yB->Bool×yB):Ab.Spec ty:=zh zUN λx=>((F x.1).1,z0A (F x.1).2)
def zG0 (r:At):ARes ty:=⟨[.pure (.agg (base.enc 143 r))],[]⟩
def zlq (F:At->Bool×At):Ab.Spec ty:=zh z3p λx=>((F x.1).1,zG0 (F x.1).2)
def zew:Cx ty:={ base with nt:=8 }
def zcf (s:yC):Bool×yC:=(decide (s.length*128<=zI),s)
def zgc:Ab.Spec ty:=zh (cx:=base) (zf (zg (vSl 145)) zA) λx=>((zcf x.1).1,⟨[.own 145 (zcf x.1).2],[]⟩)
theorem zv8:zet zew f132 (body f132) ⟨[.own 145],[]⟩ [.pure (.lit (.slice none 0 0))]=some ⟨[.own 145 []],[]⟩:=by kernel_rfl
theorem zuF (p:Addr) (c:Nat):zet zew f132 (body f132) ⟨[.own 145],[]⟩ [.pure (.lit (.slice (some p) 0 c))]=some ⟨[.own 145 []],[]⟩:=by kernel_rfl
theorem zvg (l:yC):zet zew f132 (body f132) ⟨[.own 145],[]⟩ [.pure (.sl 145 l)]=bif !l.isEmpty then bif decide ((([]:List (ty 145)).length+l.length)*128<=zI) then some ⟨[.own 145 l],[]⟩ else none else none:=by kernel_rfl
theorem zke:SdP 132 zgc:=
 zmn (cx':=zew) (bytes:=128) zzP ze1 ⟨⟨rfl,rfl,rfl,rfl,rfl,rfl⟩,rfl⟩ (λg s h=>by cases h) call132 func132 (c:=body f132) (by kernel_rfl) (zsQ (l:=[]) (by kernel_rfl) trivial) zv8 zuF zvg (by kernel_rfl)
abbrev zoK:=Unit×Unit×Unit×yB×Int×Int×Int×Int×Unit
abbrev zoX:=yB×Term×yC×Unit
abbrev zBC:=yB×Int×Int×yB×Term×yC
abbrev zoM:=Unit×yB×Int×Int×Unit
abbrev zo7:=yB×Unit
def zjj (zH:At->Bool×At) (t8:yB) (t9:Int) (t10:Int) (t18:Int) (t19:Int) (out_:yB) (t:Term) (factors:yC):Wy zoK zoX zBC:=.i (decide (t19<t18)) (.i (decide (0<=t19)&&decide (t19<Int.ofNat factors.length)) (.bn (zH (At.mk (factors.getD t19.toNat default).At.Kind (factors.getD t19.toNat default).At.Row (factors.getD t19.toNat default).At.Ag (factors.getD t19.toNat default).At.Func (factors.getD t19.toNat default).At.Items (factors.getD t19.toNat default).At.Op (factors.getD t19.toNat default).At.Bd)) λr2=>.i (decide (0<=t19)&&decide (t19<Int.ofNat factors.length)) (.i (decide (t19.toNat<factors.length)) (.h ((),(),(),t8,t9,t10,t18,(IntKind.i64.wrap (t19+1)),()) (out_,t,(factors.set t19.toNat (FO.mk (At.mk r2.Kind r2.Row r2.Ag r2.Func r2.Items r2.Op r2.Bd) (factors.getD t19.toNat default).Exp)),())) .d) .d) .d) (.k (t8,t9,t10,out_,t,factors))
def zs7 (zH:At->Bool×At) (x:zoK) (y:zoX):=zjj zH x.2.2.2.1 x.2.2.2.2.1 x.2.2.2.2.2.1 x.2.2.2.2.2.2.1 x.2.2.2.2.2.2.2.1 y.1 y.2.1 y.2.2.1
def zzt (zH:At->Bool×At) (n:Nat) (t8:yB) (t9:Int) (t10:Int) (t18:Int) (t19:Int) (out_:yB) (t:Term) (factors:yC):=zx (zs7 zH) default n ((),(),(),t8,t9,t10,t18,t19,()) (out_,t,factors,())
def zKz (r:zBC):LTree ty:=.done (.exit 2) [.own 168,.ptr 169 0,.own 170,.sl 107 r.1,.lit (.int .i64 r.2.1),.lit (.int .i64 r.2.2.1)] [.arr 107 r.2.2.2.1 false,.box (base.enc 107 r.2.2.2.2.1) false,.arr 145 r.2.2.2.2.2 false]
def zL1:LL ty zoK:=za (zd4 168) (za (zdo 169 0) (za (zd4 170) (za (lSl 107) (za zi (za zi (za zi (za zi zo)))))))
def zMr:BL ty zoX:=zen 107 false (zeM (zfh (λx=>(⟨x.1,x.2.1⟩:Term)) (λx=>(x.Cf,x.Fs,())) (λ_=>rfl) (za (zW .i64) (za (lSl 145) zo))) false (zen 145 false (zbu)))
def zjk (zH:At->Bool×At) (t8:yB) (t9:Int) (t10:Int) (out_:yB):Wy zoM zo7 (yB):=.i (decide (t10<t9)) (.i (decide (0<=t10)&&decide (t10<Int.ofNat t8.length)) (.bn (zcf (t8.getD t10.toNat default).Fs) λr5=>.bn (zzt zH (t8.length+t9.toNat +t10.toNat +(Int.ofNat r5.length).toNat +Int.toNat 0+out_.length+(t8.getD t10.toNat default).Fs.length+r5.length+1) t8 t9 t10 (Int.ofNat r5.length) 0 out_ (t8.getD t10.toNat default) r5) λr4=>.i (decide ((r4.2.2.2.1.length+[TO.mk r4.2.2.2.2.1.Cf r4.2.2.2.2.2].length)*32<=zI)) (.h ((),(r4.1),(r4.2.1),(IntKind.i64.wrap (r4.2.2.1+1)),()) ((r4.2.2.2.1++[TO.mk r4.2.2.2.2.1.Cf r4.2.2.2.2.2]),())) .d) .d) (.k out_)
def zsZ (zH:At->Bool×At) (x:zoM) (y:zo7):=zjk zH x.2.1 x.2.2.1 x.2.2.2.1 y.1
def zzy (zH:At->Bool×At) (n:Nat) (t8:yB) (t9:Int) (t10:Int) (out_:yB):=zx (zsZ zH) default n ((),t8,t9,t10,()) (out_,())
def zKi (r:yB):LTree ty:=.done (.exit 0) [.own 168] [.arr 107 r false]
def zMU:LL ty zoM:=za (zd4 168) (za (lSl 107) (za zi (za zi zo)))
def zLU:BL ty zo7:=zen 107 false (zbu)
def zKF (x:zoK) (y:zoX):Nat:=(x.2.2.2.1.length+Int.toNat x.2.2.2.2.1+Int.toNat x.2.2.2.2.2.1+Int.toNat x.2.2.2.2.2.2.1+Int.toNat x.2.2.2.2.2.2.2.1+y.1.length+y.2.1.Fs.length+y.2.2.1.length+1)
def zKj (x:zoM) (y:zo7):Nat:=(x.2.1.length+Int.toNat x.2.2.1+Int.toNat x.2.2.2.1+y.1.length+1)
def zs8 (zH:At->Bool×At):=zcG base 42 [(132,zgc),(200,(zlq zH))] [] [(3,[(3,.own 107),(8,.keep),(9,.keep),(10,.keep)]),(7,(kpL [3,5,6,8,9,10,18,19]))] [(3,1,(kpL [3])),(7,3,(kpL [3,5,6,8,9,10]))] [(7,spW zL1 zMr (zs7 zH) default zKz zKF),(3,spW zMU zLU (zsZ zH) default zKi zKj)] []
theorem zKT (zH:At->Bool×At):zR (zs8 zH) (lp (body f141) 1):=zD (id:=7) (hl:=rfl)
theorem zKu (zH:At->Bool×At):zR (zs8 zH) (lp (body f141) 0):=zD (id:=3) (hl:=rfl)
def zAq (zH:At->Bool×At) (a:yB):Wy0 (yB):=.bn (zzy zH (a.length+(Int.ofNat a.length).toNat +Int.toNat 0+0+1) a (Int.ofNat a.length) 0 []) λr8=>.k r8
def zlI (zH:At->Bool×At) (a:yB):=(zAq zH a).fin default
theorem zHa (zH:At->Bool×At) (zHF:SdP 200 (zlq zH)):SdP 141 (zlv (zlI zH)):=
 sT (cx':=(zs8 zH)) (zk ⟨zke,zHF,trivial⟩) call141 func141 (lOK (aC (zKu zH) (aC (zKT zH) aN))) (sg:=⟨[.own 107],[]⟩)
def zdd:Cx ty:={ base with nt:=8 }
def zbN (s:yA):Bool×yA:=(decide (s.length*24<=zI),s)
def zes:Ab.Spec ty:=zh (cx:=base) (zf (zg (vSl 51)) zA) λx=>((zbN x.1).1,⟨[.own 51 (zbN x.1).2],[]⟩)
theorem zra:zet zdd f133 (body f133) ⟨[.own 51],[]⟩ [.pure (.lit (.slice none 0 0))]=some ⟨[.own 51 []],[]⟩:=by kernel_rfl
theorem zpH (p:Addr) (c:Nat):zet zdd f133 (body f133) ⟨[.own 51],[]⟩ [.pure (.lit (.slice (some p) 0 c))]=some ⟨[.own 51 []],[]⟩:=by kernel_rfl
theorem zqj (l:yA):zet zdd f133 (body f133) ⟨[.own 51],[]⟩ [.pure (.sl 51 l)]=bif !l.isEmpty then bif decide ((([]:List (ty 51)).length+l.length)*24<=zI) then some ⟨[.own 51 l],[]⟩ else none else none:=by kernel_rfl
theorem zhr:SdP 133 zes:=
 zmn (cx':=zdd) (bytes:=24) zzP ze1 ⟨⟨rfl,rfl,rfl,rfl,rfl,rfl⟩,rfl⟩ (λg s h=>by cases h) call133 func133 (c:=body f133) (by kernel_rfl) (zsQ (l:=[]) (by kernel_rfl) trivial) zra zpH zqj (by kernel_rfl)
def zd0:Cx ty:={ base with nt:=8 }
def zbZ (s:yD):Bool×yD:=(decide (s.length*56<=zI),s)
def zeT:Ab.Spec ty:=zh (cx:=base) (zf (zg (vSl 169)) zA) λx=>((zbZ x.1).1,⟨[.own 169 (zbZ x.1).2],[]⟩)
theorem zts:zet zd0 f134 (body f134) ⟨[.own 169],[]⟩ [.pure (.lit (.slice none 0 0))]=some ⟨[.own 169 []],[]⟩:=by kernel_rfl
theorem zsA (p:Addr) (c:Nat):zet zd0 f134 (body f134) ⟨[.own 169],[]⟩ [.pure (.lit (.slice (some p) 0 c))]=some ⟨[.own 169 []],[]⟩:=by kernel_rfl
theorem zth (l:yD):zet zd0 f134 (body f134) ⟨[.own 169],[]⟩ [.pure (.sl 169 l)]=bif !l.isEmpty then bif decide ((([]:List (ty 169)).length+l.length)*56<=zI) then some ⟨[.own 169 l],[]⟩ else none else none:=by kernel_rfl
theorem zi2:SdP 134 zeT:=
 zmn (cx':=zd0) (bytes:=56) zzP ze1 ⟨⟨rfl,rfl,rfl,rfl,rfl,rfl⟩,rfl⟩ (λg s h=>by cases h) call134 func134 (c:=body f134) (by kernel_rfl) (zsQ (l:=[]) (by kernel_rfl) trivial) zts zsA zth (by kernel_rfl)
abbrev zdI:=Unit×Unit×Int×Int×Unit
abbrev zkw:=(Int×Int×Int×Unit×Int×yD×Int×Int×Int×ByteArray×Unit)×(Int×Int×Int×Unit×Int×Unit×Int×Int×Int×ByteArray×Unit)×yA×Unit
abbrev zx8:=Int×Int×Int×Int×yD×Int×Int×Int×ByteArray×Int×Int×Int×Int×Int×Int×Int×ByteArray×yA
abbrev zkD:=(Int×Int×Int×Unit×Int×Unit×Int×Int×Int×ByteArray×Unit)×(Int×Int×Int×Unit×Int×Unit×Int×Int×Int×ByteArray×Unit)×yA×yD×Unit
abbrev zyf:=Int×Int×Int×Int×Int×Int×Int×ByteArray×Int×Int×Int×Int×Int×Int×Int×ByteArray×yA×yD
def zgA (zQ:yB->Bool×yB) (t11:Int) (t12:Int) (x_0:Int) (x_1:Int) (x_2:Int) (x_3:Int) (x_4:yD) (x_5:Int) (x_6:Int) (x_7:Int) (x_8:ByteArray) (t2_0:Int) (t2_1:Int) (t2_2:Int) (t2_3:Int) (t2_4:Int) (t2_5:Int) (t2_6:Int) (t2_7:ByteArray) (b2:yA):Wy zdI zkw zx8:=.i (decide (t12<t11)) (.i (decide (0<=t12)&&decide (t12<Int.ofNat b2.length)) (.bn (zQ (b2.getD t12.toNat default)) λr0=>.i (decide (0<=t12)&&decide (t12<Int.ofNat b2.length)) (.i (decide (t12.toNat<b2.length)) (.h ((),(),t11,(IntKind.i64.wrap (t12+1)),()) ((x_0,x_1,x_2,(),x_3,x_4,x_5,x_6,x_7,x_8,()),(t2_0,t2_1,t2_2,(),t2_3,(),t2_4,t2_5,t2_6,t2_7,()),(b2.set t12.toNat r0),())) .d) .d) .d) (.k (x_0,x_1,x_2,x_3,x_4,x_5,x_6,x_7,x_8,t2_0,t2_1,t2_2,t2_3,t2_4,t2_5,t2_6,t2_7,b2))
def zn0 (zQ:yB->Bool×yB) (x:zdI) (y:zkw):=zgA zQ x.2.2.1 x.2.2.2.1 y.1.1 y.1.2.1 y.1.2.2.1 y.1.2.2.2.2.1 y.1.2.2.2.2.2.1 y.1.2.2.2.2.2.2.1 y.1.2.2.2.2.2.2.2.1 y.1.2.2.2.2.2.2.2.2.1 y.1.2.2.2.2.2.2.2.2.2.1 y.2.1.1 y.2.1.2.1 y.2.1.2.2.1 y.2.1.2.2.2.2.1 y.2.1.2.2.2.2.2.2.1 y.2.1.2.2.2.2.2.2.2.1 y.2.1.2.2.2.2.2.2.2.2.1 y.2.1.2.2.2.2.2.2.2.2.2.1 y.2.2.1
def zv0 (zQ:yB->Bool×yB) (n:Nat) (t11:Int) (t12:Int) (x_0:Int) (x_1:Int) (x_2:Int) (x_3:Int) (x_4:yD) (x_5:Int) (x_6:Int) (x_7:Int) (x_8:ByteArray) (t2_0:Int) (t2_1:Int) (t2_2:Int) (t2_3:Int) (t2_4:Int) (t2_5:Int) (t2_6:Int) (t2_7:ByteArray) (b2:yA):=zx (zn0 zQ) default n ((),(),t11,t12,()) ((x_0,x_1,x_2,(),x_3,x_4,x_5,x_6,x_7,x_8,()),(t2_0,t2_1,t2_2,(),t2_3,(),t2_4,t2_5,t2_6,t2_7,()),b2,())
def zFy (r:zx8):LTree ty:=.done (.exit 0) [.ptr 200 0,.ptr 201 0] [.box ([.lit (.int .i64 r.1),.lit (.int .i64 r.2.1),.lit (.int .i64 r.2.2.1),.own 202,.lit (.int .i64 r.2.2.2.1),.sl 169 r.2.2.2.2.1,.lit (.int .i64 r.2.2.2.2.2.1),.lit (.int .i64 r.2.2.2.2.2.2.1),.lit (.int .i64 r.2.2.2.2.2.2.2.1),.lit (.string r.2.2.2.2.2.2.2.2.1)]) false,.box ([.lit (.int .i64 r.2.2.2.2.2.2.2.2.2.1),.lit (.int .i64 r.2.2.2.2.2.2.2.2.2.2.1),.lit (.int .i64 r.2.2.2.2.2.2.2.2.2.2.2.1),.lit (.slice none 0 0),.lit (.int .i64 r.2.2.2.2.2.2.2.2.2.2.2.2.1),.lit (.slice none 0 0),.lit (.int .i64 r.2.2.2.2.2.2.2.2.2.2.2.2.2.1),.lit (.int .i64 r.2.2.2.2.2.2.2.2.2.2.2.2.2.2.1),.lit (.int .i64 r.2.2.2.2.2.2.2.2.2.2.2.2.2.2.2.1),.lit (.string r.2.2.2.2.2.2.2.2.2.2.2.2.2.2.2.2.1)]) false,.arr 51 r.2.2.2.2.2.2.2.2.2.2.2.2.2.2.2.2.2 false]
def zFI:LL ty zdI:=za (zdo 200 0) (za (zdo 201 0) (za zi (za zi zo)))
def zF2:BL ty zkw:=zeM (za (zW .i64) (za (zW .i64) (za (zW .i64) (za (zd4 202) (za (zW .i64) (za (lSl 169) (za (zW .i64) (za (zW .i64) (za (zW .i64) (za zzj zo)))))))))) false (zeM (za (zW .i64) (za (zW .i64) (za (zW .i64) (za zTi (za (zW .i64) (za zTi (za (zW .i64) (za (zW .i64) (za (zW .i64) (za zzj zo)))))))))) false (zen 51 false (zbu)))
def zgn (zQ:yB->Bool×yB) (t32:Int) (t33:Int) (x_0:Int) (x_1:Int) (x_2:Int) (x_3:Int) (x_4:Int) (x_5:Int) (x_6:Int) (x_7:ByteArray) (t2_0:Int) (t2_1:Int) (t2_2:Int) (t2_3:Int) (t2_4:Int) (t2_5:Int) (t2_6:Int) (t2_7:ByteArray) (b2:yA) (b3:yD):Wy zdI zkD zyf:=.i (decide (t33<t32)) (.i (decide (0<=t33)&&decide (t33<Int.ofNat b3.length)) (.bn (zQ (b3.getD t33.toNat default).Ann) λr2=>.i (decide (0<=t33)&&decide (t33<Int.ofNat b3.length)) (.i (decide (t33.toNat<b3.length)) (.h ((),(),t32,(IntKind.i64.wrap (t33+1)),()) ((x_0,x_1,x_2,(),x_3,(),x_4,x_5,x_6,x_7,()),(t2_0,t2_1,t2_2,(),t2_3,(),t2_4,t2_5,t2_6,t2_7,()),b2,(b3.set t33.toNat (WO.mk (b3.getD t33.toNat default).Value r2)),())) .d) .d) .d) (.k (x_0,x_1,x_2,x_3,x_4,x_5,x_6,x_7,t2_0,t2_1,t2_2,t2_3,t2_4,t2_5,t2_6,t2_7,b2,b3))
def znN (zQ:yB->Bool×yB) (x:zdI) (y:zkD):=zgn zQ x.2.2.1 x.2.2.2.1 y.1.1 y.1.2.1 y.1.2.2.1 y.1.2.2.2.2.1 y.1.2.2.2.2.2.2.1 y.1.2.2.2.2.2.2.2.1 y.1.2.2.2.2.2.2.2.2.1 y.1.2.2.2.2.2.2.2.2.2.1 y.2.1.1 y.2.1.2.1 y.2.1.2.2.1 y.2.1.2.2.2.2.1 y.2.1.2.2.2.2.2.2.1 y.2.1.2.2.2.2.2.2.2.1 y.2.1.2.2.2.2.2.2.2.2.1 y.2.1.2.2.2.2.2.2.2.2.2.1 y.2.2.1 y.2.2.2.1
def zvN (zQ:yB->Bool×yB) (n:Nat) (t32:Int) (t33:Int) (x_0:Int) (x_1:Int) (x_2:Int) (x_3:Int) (x_4:Int) (x_5:Int) (x_6:Int) (x_7:ByteArray) (t2_0:Int) (t2_1:Int) (t2_2:Int) (t2_3:Int) (t2_4:Int) (t2_5:Int) (t2_6:Int) (t2_7:ByteArray) (b2:yA) (b3:yD):=zx (znN zQ) default n ((),(),t32,t33,()) ((x_0,x_1,x_2,(),x_3,(),x_4,x_5,x_6,x_7,()),(t2_0,t2_1,t2_2,(),t2_3,(),t2_4,t2_5,t2_6,t2_7,()),b2,b3,())
def zE5 (r:zyf):LTree ty:=.done (.exit 2) [.ptr 200 0,.ptr 201 0] [.box ([.lit (.int .i64 r.1),.lit (.int .i64 r.2.1),.lit (.int .i64 r.2.2.1),.own 202,.lit (.int .i64 r.2.2.2.1),.own 203,.lit (.int .i64 r.2.2.2.2.1),.lit (.int .i64 r.2.2.2.2.2.1),.lit (.int .i64 r.2.2.2.2.2.2.1),.lit (.string r.2.2.2.2.2.2.2.1)]) false,.box ([.lit (.int .i64 r.2.2.2.2.2.2.2.2.1),.lit (.int .i64 r.2.2.2.2.2.2.2.2.2.1),.lit (.int .i64 r.2.2.2.2.2.2.2.2.2.2.1),.lit (.slice none 0 0),.lit (.int .i64 r.2.2.2.2.2.2.2.2.2.2.2.1),.lit (.slice none 0 0),.lit (.int .i64 r.2.2.2.2.2.2.2.2.2.2.2.2.1),.lit (.int .i64 r.2.2.2.2.2.2.2.2.2.2.2.2.2.1),.lit (.int .i64 r.2.2.2.2.2.2.2.2.2.2.2.2.2.2.1),.lit (.string r.2.2.2.2.2.2.2.2.2.2.2.2.2.2.2.1)]) false,.arr 51 r.2.2.2.2.2.2.2.2.2.2.2.2.2.2.2.2.1 false,.arr 169 r.2.2.2.2.2.2.2.2.2.2.2.2.2.2.2.2.2 false]
def zGw:BL ty zkD:=zeM (za (zW .i64) (za (zW .i64) (za (zW .i64) (za (zd4 202) (za (zW .i64) (za (zd4 203) (za (zW .i64) (za (zW .i64) (za (zW .i64) (za zzj zo)))))))))) false (zeM (za (zW .i64) (za (zW .i64) (za (zW .i64) (za zTi (za (zW .i64) (za zTi (za (zW .i64) (za (zW .i64) (za (zW .i64) (za zzj zo)))))))))) false (zen 51 false (zen 169 false (zbu))))
def zET (x:zdI) (y:zkw):Nat:=(Int.toNat x.2.2.1+Int.toNat x.2.2.2.1+Int.toNat y.1.1+Int.toNat y.1.2.1+Int.toNat y.1.2.2.1+Int.toNat y.1.2.2.2.2.1+y.1.2.2.2.2.2.1.length+Int.toNat y.1.2.2.2.2.2.2.1+Int.toNat y.1.2.2.2.2.2.2.2.1+Int.toNat y.1.2.2.2.2.2.2.2.2.1+y.1.2.2.2.2.2.2.2.2.2.1.size+Int.toNat y.2.1.1+Int.toNat y.2.1.2.1+Int.toNat y.2.1.2.2.1+Int.toNat y.2.1.2.2.2.2.1+Int.toNat y.2.1.2.2.2.2.2.2.1+Int.toNat y.2.1.2.2.2.2.2.2.2.1+Int.toNat y.2.1.2.2.2.2.2.2.2.2.1+y.2.1.2.2.2.2.2.2.2.2.2.1.size+y.2.2.1.length+1)
def zEj (x:zdI) (y:zkD):Nat:=(Int.toNat x.2.2.1+Int.toNat x.2.2.2.1+Int.toNat y.1.1+Int.toNat y.1.2.1+Int.toNat y.1.2.2.1+Int.toNat y.1.2.2.2.2.1+Int.toNat y.1.2.2.2.2.2.2.1+Int.toNat y.1.2.2.2.2.2.2.2.1+Int.toNat y.1.2.2.2.2.2.2.2.2.1+y.1.2.2.2.2.2.2.2.2.2.1.size+Int.toNat y.2.1.1+Int.toNat y.2.1.2.1+Int.toNat y.2.1.2.2.1+Int.toNat y.2.1.2.2.2.2.1+Int.toNat y.2.1.2.2.2.2.2.2.1+Int.toNat y.2.1.2.2.2.2.2.2.2.1+Int.toNat y.2.1.2.2.2.2.2.2.2.2.1+y.2.1.2.2.2.2.2.2.2.2.2.1.size+y.2.2.1.length+y.2.2.2.1.length+1)
def znW (zQ:yB->Bool×yB):=zcG base 50 [(133,zes),(134,zeT),(141,(zlv zQ))] [] [(3,(kpL [1,2,11,12])),(9,(kpL [1,2,32,33]))] [(3,1,(kpL [1,2])),(9,3,(kpL [1,2]))] [(3,spW zFI zF2 (zn0 zQ) default zFy zET),(9,spW zFI zGw (znN zQ) default zE5 zEj)] []
theorem zEF (zQ:yB->Bool×yB):zR (znW zQ) (lp (body f200) 0):=zD (id:=3) (hl:=rfl)
theorem zEn (zQ:yB->Bool×yB):zR (znW zQ) (lp (body f200) 1):=zD (id:=9) (hl:=rfl)
def zw2 (zQ:yB->Bool×yB) (x_:At):Wy0 (At):=.bn (zbN x_.Ag) λr7=>.bn (zv0 zQ ((Int.ofNat r7.length).toNat +Int.toNat 0+x_.Kind.toNat +x_.Row.Table.toNat +x_.Row.Seq.toNat +x_.Func.toNat +x_.Items.length+x_.Op.toNat +x_.Bd.Kind.toNat +x_.Bd.Int.toNat +x_.Bd.Text.size+Int.toNat 0+Int.toNat 0+Int.toNat 0+Int.toNat 0+Int.toNat 0+Int.toNat 0+Int.toNat 0+(ByteArray.mk #[]).size+r7.length+1) (Int.ofNat r7.length) 0 x_.Kind x_.Row.Table x_.Row.Seq x_.Func x_.Items x_.Op x_.Bd.Kind x_.Bd.Int x_.Bd.Text 0 0 0 0 0 0 0 (ByteArray.mk #[]) r7) λr6=>.bn (zbZ r6.2.2.2.2.1) λr5=>.bn (zvN zQ ((Int.ofNat r5.length).toNat +Int.toNat 0+r6.1.toNat +r6.2.1.toNat +r6.2.2.1.toNat +r6.2.2.2.1.toNat +r6.2.2.2.2.2.1.toNat +r6.2.2.2.2.2.2.1.toNat +r6.2.2.2.2.2.2.2.1.toNat +r6.2.2.2.2.2.2.2.2.1.size+r6.2.2.2.2.2.2.2.2.2.1.toNat +r6.2.2.2.2.2.2.2.2.2.2.1.toNat +r6.2.2.2.2.2.2.2.2.2.2.2.1.toNat +r6.2.2.2.2.2.2.2.2.2.2.2.2.1.toNat +r6.2.2.2.2.2.2.2.2.2.2.2.2.2.1.toNat +r6.2.2.2.2.2.2.2.2.2.2.2.2.2.2.1.toNat +r6.2.2.2.2.2.2.2.2.2.2.2.2.2.2.2.1.toNat +r6.2.2.2.2.2.2.2.2.2.2.2.2.2.2.2.2.1.size+r6.2.2.2.2.2.2.2.2.2.2.2.2.2.2.2.2.2.length+r5.length+1) (Int.ofNat r5.length) 0 r6.1 r6.2.1 r6.2.2.1 r6.2.2.2.1 r6.2.2.2.2.2.1 r6.2.2.2.2.2.2.1 r6.2.2.2.2.2.2.2.1 r6.2.2.2.2.2.2.2.2.1 r6.2.2.2.2.2.2.2.2.2.1 r6.2.2.2.2.2.2.2.2.2.2.1 r6.2.2.2.2.2.2.2.2.2.2.2.1 r6.2.2.2.2.2.2.2.2.2.2.2.2.1 r6.2.2.2.2.2.2.2.2.2.2.2.2.2.1 r6.2.2.2.2.2.2.2.2.2.2.2.2.2.2.1 r6.2.2.2.2.2.2.2.2.2.2.2.2.2.2.2.1 r6.2.2.2.2.2.2.2.2.2.2.2.2.2.2.2.2.1 r6.2.2.2.2.2.2.2.2.2.2.2.2.2.2.2.2.2 r5) λr4=>.k (⟨r4.1,(⟨r4.2.1,r4.2.2.1⟩:RowID),r4.2.2.2.2.2.2.2.2.2.2.2.2.2.2.2.2.1,r4.2.2.2.1,r4.2.2.2.2.2.2.2.2.2.2.2.2.2.2.2.2.2,r4.2.2.2.2.1,(⟨r4.2.2.2.2.2.1,r4.2.2.2.2.2.2.1,r4.2.2.2.2.2.2.2.1⟩:Value)⟩:At)
def ziJ (zQ:yB->Bool×yB) (x_:At):=(zw2 zQ x_).fin default
theorem zCN (zQ:yB->Bool×yB) (zOd:SdP 141 (zlv zQ)):SdP 200 (zlq (ziJ zQ)):=
 sT (cx':=(znW zQ)) (zk ⟨zhr,zi2,zOd,trivial⟩) call200 func200 (lOK (aC (zEF zQ) (aC (zEn zQ) aN)))
def zHW:Nat->(yB->Bool×yB)×(At->Bool×At)
 | 0=>(λ_=>(false,default),λ_=>(false,default))
 | n+1=>(zlI ((zHW n).2),ziJ ((zHW n).1))
def zlz (n:Nat):yB->Bool×yB:=(zHW n).1
def zlm (n:Nat):At->Bool×At:=(zHW n).2
theorem zMQ (n:Nat):zlz (n+1)=zlI (zlm n):=rfl
theorem zFG (n:Nat):zlm (n+1)=ziJ (zlz n):=rfl
theorem zT2:∀ n,SdP 141 (zlv (zlz n))/\SdP 200 (zlq (zlm n))
 | 0=>⟨zbs call141 (λ_=>rfl),zbs call200 (λ_=>rfl)⟩
 | n+1=>by
  have ih:=zT2 n;exact ⟨zHa _ (ih.2),zCN _ (ih.1)⟩
def zgQ:yB->Bool×yB:=zlz 1000
def zgM:Ab.Spec ty:=zlv zgQ
theorem ziB:SdP 141 zgM:=(zT2 1000).1
def zOf:=zbM base 9 [(103,ztj),(141,zgM)]
def zCB (a:yB):Wy0 (yB×Int):=.bn (zk2 a) λr1=>.i (!r1) (.k ([],6)) (.bn (zgQ a) λr0=>.k (r0,0))
def zek (a:yB):=(zCB a).fin default
def zMe (r:yB×Int):ARes ty:=⟨[.own 107 r.1,.pure (.lit (.int .i64 r.2))],[]⟩
def zeE:=zh zUN λx=>((zek x.1).1,zMe (zek x.1).2)
theorem zfA:SdP 124 zeE:=
 sT (cx':=zOf) (zk ⟨zyW,ziB,trivial⟩) call124 func124 (lOK aN) (sg:=⟨[.own 107,.pure],[]⟩)
def zwT:=zbM base 27 []
def zl9 (n_:Int):Wy0 (yB):=.i (decide (n_<0)) .d (.i (decide (IntKind.i64.wrap (n_ - IntKind.i64.wrap (0 - 0))>0)) (.i (decide (0<IntKind.i64.wrap (n_ - IntKind.i64.wrap (0 - 0)))&&(decide (IntKind.i64.wrap (n_ - IntKind.i64.wrap (0 - 0))*Int.ofNat 32<=Int.ofNat zI)&&(decide (IntKind.i64.wrap (n_ - IntKind.i64.wrap (0 - 0))<=Int.ofNat zI)&& !Nat.beq 2 0))) (.k (List.take (Int.toNat 0 - Int.toNat 0) (List.replicate (IntKind.i64.wrap (n_ - IntKind.i64.wrap (0 - 0))).toNat (TO.mk 0 [])))) .d) (.k []))
def zd1 (n_:Int):=(zl9 n_).fin default
def zxp:AL base (Unit×Int×Unit):=zf (zg zbaX) (zf (zg ziU) zA)
def zkF:=zh zxp λx=>((zd1 x.2.1).1,z0A (zd1 x.2.1).2)
theorem zuE:SdP 193 zkF:=
 sT (cx':=zwT) (zk trivial) call193 func193 (lOK aN) (sg:=⟨[.own 107],[]⟩)
abbrev zeN:=yA×Int×yA×Int×Int×Unit
abbrev zmB:=yA×Int
abbrev zeO:=Unit×yA×Int×Int×Unit
abbrev zeP:=yB×Unit
def zc1 (slices:yA) (size:Int) (t9:yA) (t10:Int) (t11:Int):Wy zeN Unit zmB:=.i (decide (t11<t10)) (.i (decide (0<=t11)&&decide (t11<Int.ofNat t9.length)) (.i (decide (IntKind.i64.wrap (size+Int.ofNat (List.length (t9.getD t11.toNat default)))<0)) .d (.h (slices,(IntKind.i64.wrap (size+Int.ofNat (List.length (t9.getD t11.toNat default)))),t9,t10,(IntKind.i64.wrap (t11+1)),()) ())) .d) (.k (slices,size))
def zge (x:zeN) (y:Unit):=zc1 x.1 x.2.1 x.2.2.1 x.2.2.2.1 x.2.2.2.2.1
def zkB (n:Nat) (slices:yA) (size:Int) (t9:yA) (t10:Int) (t11:Int):=zx (zge) default n (slices,size,t9,t10,t11,()) ()
def zuA (r:zmB):LTree ty:=.done (.exit 0) [.sl 51 r.1,.lit (.int .i64 r.2)] []
def zvw:LL ty zeN:=za (lSl 51) (za zi (za (lSl 51) (za zi (za zi zo))))
def zcR (t25:yA) (t26:Int) (t27:Int) (newslice:yB):Wy zeO zeP (yB):=.i (decide (t27<t26)) (.i (decide (0<=t27)&&decide (t27<Int.ofNat t25.length)) (.i (decide ((newslice.length+List.length (t25.getD t27.toNat default))*32<=zI)) (.h ((),t25,t26,(IntKind.i64.wrap (t27+1)),()) ((newslice++t25.getD t27.toNat default),())) .d) .d) (.k newslice)
def zfQ (x:zeO) (y:zeP):=zcR x.2.1 x.2.2.1 x.2.2.2.1 y.1
def zkh (n:Nat) (t25:yA) (t26:Int) (t27:Int) (newslice:yB):=zx (zfQ) default n ((),t25,t26,t27,()) (newslice,())
def zt4 (r:yB):LTree ty:=.done (.exit 2) [.own 144] [.arr 107 r false]
def zut:LL ty zeO:=za (zd4 144) (za (lSl 51) (za zi (za zi zo)))
def zuu:BL ty zeP:=zen 107 false (zbu)
def zuq (x:zeN) (y:Unit):Nat:=(x.1.length+Int.toNat x.2.1+x.2.2.1.length+Int.toNat x.2.2.2.1+Int.toNat x.2.2.2.2.1+1)
def zuc (x:zeO) (y:zeP):Nat:=(x.2.1.length+Int.toNat x.2.2.1+Int.toNat x.2.2.2.1+y.1.length+1)
def zgf:=zcG base 36 [(193,zkF)] [] [(3,(kpL [0,3,9,10,11])),(11,(kpL [6,25,26,27]))] [(3,1,(kpL [0,3])),(11,3,(kpL [6]))] [(3,spW zvw z2p (zge) default zuA zuq),(11,spW zut zuu (zfQ) default zt4 zuc)] [193]
theorem zuv:zR zgf (lp (body f126) 0):=zD (id:=3) (hl:=rfl)
theorem ztV:zR zgf (lp (body f126) 1):=zD (id:=11) (hl:=rfl)
def zlc (slices:yA):Wy0 (yB):=.bn (zkB (slices.length+Int.toNat 0+slices.length+(Int.ofNat slices.length).toNat +Int.toNat 0+1) slices 0 slices (Int.ofNat slices.length) 0) λr2=>.bn (zd1 r2.2) λr1=>.bn (zkh (r2.1.length+(Int.ofNat r2.1.length).toNat +Int.toNat 0+r1.length+1) r2.1 (Int.ofNat r2.1.length) 0 r1) λr0=>.k r0
def zdA (slices:yA):=(zlc slices).fin default
def zwo:AL base (yA×Unit):=zf (zg (vSl 51)) zA
def zjO:=zh zwo λx=>((zdA x.1).1,z0A (zdA x.1).2)
theorem ztr:SdP 126 zjO:=
 sT (cx':=zgf) (zk ⟨zuE,trivial⟩) call126 func126 (lOK (aC zuv (aC ztV aN))) (sg:=⟨[.own 107],[]⟩)
def zVX:=zbM zbE 22 [(52,zco),(124,zeE),(125,zrt),(126,zjO)]
def zH8 (a:yB) (b:yB):Wy0 (yB×Int):=.bn (zcb a) λr4=>.i (!r4) (.k ([],1)) (.bn (zcb b) λr3=>.i (!r3) (.k ([],1)) (.bn (zdA [a,b]) λr2=>.bn (zhR r2) λr1=>.bn (zek r1) λr0=>.k (r0.1,r0.2)))
def zpU (a:yB) (b:yB):=(zH8 a b).fin default
def zWP:AL zbE (yB×yB×Unit):=zf (zg (vSl 107)) (zf (zg (vSl 107)) zA)
def zw0:=zh zWP λx=>((zpU x.1 x.2.1).1,zMe (zpU x.1 x.2.1).2)
theorem zCb:Sound Tryz.prog zbE 72 zw0:=
 sU (cx':=zVX) (zk ⟨zcx.nodr,zfA.nodr,zyd,ztr.nodr,trivial⟩) call72 func72 (lOK aN) (sg:=⟨[.own 107,.pure],[]⟩)
def zIi:=zbM base 7 []
def zKq (x_:Row):Wy0 (Bool):=.k (Int.ofNat x_.Ann.length==0)
def zhw (x_:Row):=(zKq x_).fin default
def zKs:AL base (Row×Unit):=zf (zg (zcT 54)) zA
def zjv:=zh zKs λx=>((zhw x.1).1,zRy (zhw x.1).2)
theorem zmE:SdP 69 zjv:=
 sT (cx':=zIi) (zk trivial) call69 func69 (lOK aN)
def zPA:AL zbE (yB×((yE×Unit)×Unit)×Unit):=zf (zg (vSl 107)) (zf (zg (vFn 138 (zyC (zZE (zyC (vSl 65) zc6)) zc6))) zA)
def zkW (F:yB->yE->Bool×(yB×Int)):Ab.Spec ty:=zh zPA λx=>((F x.1 x.2.1.1.1).1,zMe (F x.1 x.2.1.1.1).2)
def zJv:AL zbE (At×((yE×Unit)×Unit)×Unit):=zf (zg (zcT 143)) (zf (zg (vFn 138 (zyC (zZE (zyC (vSl 65) zc6)) zc6))) zA)
def zkG (F:At->yE->Bool×(yB×Int)):Ab.Spec ty:=zh zJv λx=>((F x.1 x.2.1.1.1).1,zMe (F x.1 x.2.1.1.1).2)
end Go.Proofs.YtoknknbmfmddbaaGreatDoor
end
