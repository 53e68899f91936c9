/- Texts of this claim, joined (the program, its functions in plain words, and what they compute). -/
import Derived.WalkKit
import Derived.WalkSpells
import Derived.Test.YtoknknbmfmddbaaGreatDoorGC2
set_option autoImplicit false
set_option linter.unusedVariables false
set_option linter.unusedSectionVars false
set_option linter.unusedSimpArgs false
set_option maxRecDepth 1000000
set_option maxHeartbeats 0
noncomputable section
namespace Go.Proofs.YtoknknbmfmddbaaGreatDoor
open Go Go.Ab
open Go.Proofs.Tryz
abbrev zda:=yD×Unit×Int×Int×Unit
def zmT (zf:Wd->Bool×Bool) (s:yD) (t7:Int) (t8:Int):Wy zda Unit (Int⊕Unit):=.i (decide (t8<t7)) (.i (decide (0<=t8)&&decide (t8<Int.ofNat s.length)) (.bn (zf (s.getD t8.toNat default)) λr0=>.i (r0) (.k (.inl t8)) (.h (s,(),t7,(IntKind.i64.wrap (t8+1)),()) ())) .d) (.k (.inr ()))
def zgd (zf:Wd->Bool×Bool) (x:zda) (y:Unit):=zmT zf x.1 x.2.2.1 x.2.2.2.1
def zmY (zf:Wd->Bool×Bool) (n:Nat) (s:yD) (t7:Int) (t8:Int):=zB (zgd zf) (.inl default) n (s,(),t7,t8,()) ()
def zna:LL ty zda:=za (lSl 169) (za (lFn 179 (zl)) (za zj (za zj zl)))
def zmI (x:zda) (y:Unit):Nat:=(x.1.length+Int.toNat x.2.2.1+Int.toNat x.2.2.2.1+1)
def zf8 (zf:Wd->Bool×Bool):=zbX base 19 [(179,(zc3 zf))] [] [(2,(kpL [0,1,7,8]))] [(2,1,[]),(2,0,(kpL [4]))] [(2,spW zna z3q (zgd zf) (.inl default) zp5 zmI)] []
theorem zmC (zf:Wd->Bool×Bool):zF (zf8 zf) (lp (body f228) 0):=zn (id:=2) (hl:=rfl)
def zno (zf:Wd->Bool×Bool) (s:yD):Wy0 (Int):=.bn (zmY zf (s.length+(Int.ofNat s.length).toNat +Int.toNat 0+1) s (Int.ofNat s.length) 0) λr2=>.i (isL r2) (.k (getL r2)) (.k (-1:Int))
def zcM (zf:Wd->Bool×Bool) (s:yD):=(zno zf s).fin default
theorem zlN (zf:Wd->Bool×Bool) (zfh:SdP 179 (zc3 zf)):SdP 228 (zcK (zcM zf)):=
 sT (cx':=(zf8 zf)) (zi ⟨zfh,trivial⟩) call228 func228 (lOK (aC (zmC zf) aN))
def zdI:Nat->(yB->Bool×Bool)×(At->Bool×Bool)×(yB->Bool×Bool)×(Wd->Bool×Bool)×(yA->Bool×Int)×(yA->Bool×Bool)×(yD->Bool×Int)×(yD->Bool×Bool)
 | 0=>(λ_=>(false,default),λ_=>(false,default),λ_=>(false,default),λ_=>(false,default),λ_=>(false,default),λ_=>(false,default),λ_=>(false,default),λ_=>(false,default))
 | n+1=>(zlj ((zdI n).2.1),ziq ((zdI n).2.2.2.2.2.1) ((zdI n).2.2.1) ((zdI n).2.2.2.2.2.2.2) ((zdI n).2.2.2.1),zja ((zdI n).1),zi8 ((zdI n).1),zcv ((zdI n).2.2.1),zci ((zdI n).2.2.1) ((zdI n).2.2.2.2.1),zcM ((zdI n).2.2.2.1),zcA ((zdI n).2.2.2.1) ((zdI n).2.2.2.2.2.2.1))
def ziY (n:Nat):yB->Bool×Bool:=(zdI n).1
def zk5 (n:Nat):At->Bool×Bool:=(zdI n).2.1
def zes (n:Nat):yB->Bool×Bool:=(zdI n).2.2.1
def zez (n:Nat):Wd->Bool×Bool:=(zdI n).2.2.2.1
def zcu (n:Nat):yA->Bool×Int:=(zdI n).2.2.2.2.1
def zcj (n:Nat):yA->Bool×Bool:=(zdI n).2.2.2.2.2.1
def zcN (n:Nat):yD->Bool×Int:=(zdI n).2.2.2.2.2.2.1
def zcB (n:Nat):yD->Bool×Bool:=(zdI n).2.2.2.2.2.2.2
theorem zNL (n:Nat):ziY (n+1)=zlj (zk5 n):=rfl
theorem zGC (n:Nat):zk5 (n+1)=ziq (zcj n) (zes n) (zcB n) (zez n):=rfl
theorem zCH (n:Nat):zes (n+1)=zja (ziY n):=rfl
theorem zDh (n:Nat):zez (n+1)=zi8 (ziY n):=rfl
theorem zle (n:Nat):zcu (n+1)=zcv (zes n):=rfl
theorem zkg (n:Nat):zcj (n+1)=zci (zes n) (zcu n):=rfl
theorem zmS (n:Nat):zcN (n+1)=zcM (zez n):=rfl
theorem zli (n:Nat):zcB (n+1)=zcA (zez n) (zcN n):=rfl
theorem zWh:∀ n,SdP 52 (zhc (ziY n))/\SdP 107 (zlf (zk5 n))/\SdP 174 (zhc (zes n))/\SdP 179 (zc3 (zez n))/\SdP 226 (zcw (zcu n))/\SdP 173 (zck (zcj n))/\SdP 228 (zcK (zcN n))/\SdP 178 (zcz (zcB n))
 | 0=>⟨z8 call52 (λ_=>rfl),z8 call107 (λ_=>rfl),z8 call174 (λ_=>rfl),z8 call179 (λ_=>rfl),z8 call226 (λ_=>rfl),z8 call173 (λ_=>rfl),z8 call228 (λ_=>rfl),z8 call178 (λ_=>rfl)⟩
 | n+1=>by
  have ih:=zWh n;exact ⟨zIP _ (ih.2.1),zCD _ _ _ _ (ih.2.2.2.2.2.1) (ih.2.2.1) (ih.2.2.2.2.2.2.2) (ih.2.2.2.1),zAk _ (ih.1),zAe _ (ih.1),zkh _ (ih.2.2.1),zjn _ _ (ih.2.2.1) (ih.2.2.2.2.1),zlN _ (ih.2.2.2.1),zkG _ _ (ih.2.2.2.1) (ih.2.2.2.2.2.2.1)⟩
def zb7:yB->Bool×Bool:=ziY 1000
def zcl:Ab.Spec ty:=zhc zb7
theorem zco:SdP 52 zcl:=(zWh 1000).1
def zQT (r:ByteArray):ARes ty:=⟨[.pure (.lit (.string r))],[]⟩
def zVC:AL zbD (yB×Unit):=zd (zg (vSl 107)) zq
def zm5 (F:yB->Bool×ByteArray):Ab.Spec ty:=zh zVC λx=>((F x.1).1,zQT (F x.1).2)
def zJN:AL zbD (At×Unit):=zd (zg (zcb 143)) zq
def zko (F:At->Bool×ByteArray):Ab.Spec ty:=zh zJN λx=>((F x.1).1,zQT (F x.1).2)
def zET:AL zbD (yC×Unit):=zd (zg (vSl 145)) zq
def zfN (F:yC->Bool×ByteArray):Ab.Spec ty:=zh zET λx=>((F x.1).1,zQT (F x.1).2)
def zJO:=zbu base 2 []
def zLl:Wy0 (List ByteArray):=.k [ByteArray.mk #[(67:UInt8),(79:UInt8),(85:UInt8),(78:UInt8),(84:UInt8)],ByteArray.mk #[(83:UInt8),(85:UInt8),(77:UInt8)],ByteArray.mk #[(77:UInt8),(73:UInt8),(78:UInt8)],ByteArray.mk #[(77:UInt8),(65:UInt8),(88:UInt8)]]
def zb1:Bool×List ByteArray:=(zLl).fin default
def zIc (r:List ByteArray):ARes ty:=⟨[.own 9 r],[]⟩
def zvI:=zh z0Y λx=>((zb1 ).1,zIc (zb1 ).2)
theorem zFJ:SdP 265 zvI:=
 sT (cx':=zJO) (zi trivial) call265 func265 (lOK aN) (sg:=⟨[.own 9],[]⟩)
def zJn:=zbu base 2 []
def zLM:Wy0 (List ByteArray):=.k [ByteArray.mk #[(61:UInt8)],ByteArray.mk #[(60:UInt8),(62:UInt8)],ByteArray.mk #[(60:UInt8)],ByteArray.mk #[(60:UInt8),(61:UInt8)],ByteArray.mk #[(62:UInt8)],ByteArray.mk #[(62:UInt8),(61:UInt8)]]
def zdb:Bool×List ByteArray:=(zLM).fin default
def zvz:=zh z0Y λx=>((zdb ).1,zIc (zdb ).2)
theorem zE7:SdP 266 zvz:=
 sT (cx':=zJn) (zi trivial) call266 func266 (lOK aN) (sg:=⟨[.own 9],[]⟩)
def strings_Join (l:List ByteArray) (sep:ByteArray):Bool×ByteArray:=zUM l sep
def zm1:Ab.Spec ty:=zh (cx:=zbD) (zd (zg (vSl 9)) (zd (zg zva) zq)) λx=>((strings_Join x.1 x.2.1).1,⟨[.pure (.lit (.string (strings_Join x.1 x.2.1).2))],[]⟩)
theorem zrj:Sound Tryz.prog zbD 44 zm1:=z7m (T:=9) zPX rfl Go.Proofs.Tryz.lays156 Go.Proofs.Tryz.Builder_Extra_156 call44 (λs:ByteArray=>s) (λ_=>rfl) strings_Join (λl sep=>congrArg (λl=>zUM l sep) (List.map_id' (α:=ByteArray) l).symm)
def strconv_Itoa (x:Int):Bool×ByteArray:=zO9 x
def zx6:Ab.Spec ty:=zh (cx:=base) (zd (zg (zfB .i64)) zq) λx=>((strconv_Itoa x.1).1,⟨[.pure (.lit (.string (strconv_Itoa x.1).2))],[]⟩)
theorem zEn:SdP 216 zx6:=z64 zet Go.Proofs.Tryz.laysM171 call216 (λ_ h=>h.1)
def zXl:=zbu base 15 [(116,zrR),(216,zx6)]
def zKM (id:RowID):Wy0 (ByteArray):=.bn (zpj id) λr2=>.i (!r2) (.k (ByteArray.mk #[])) (.bn (strconv_Itoa id.Table) λr1=>.i (decide ((ByteArray.mk #[(116:UInt8)]).size+r1.size<=9223372036854775807)) (.i (decide ((ByteArray.mk #[(116:UInt8)]++r1).size+(ByteArray.mk #[(46:UInt8)]).size<=9223372036854775807)) (.bn (strconv_Itoa id.Seq) λr0=>.i (decide ((ByteArray.mk #[(116:UInt8)]++r1++ByteArray.mk #[(46:UInt8)]).size+r0.size<=9223372036854775807)) (.k (ByteArray.mk #[(116:UInt8)]++r1++ByteArray.mk #[(46:UInt8)]++r0)) .d) .d) .d)
def zuH (id:RowID):=(zKM id).fin default
def zD9:=zh z5V λx=>((zuH x.1).1,zQT (zuH x.1).2)
theorem zRc:SdP 264 zD9:=
 sT (cx':=zXl) (zi ⟨zwo,zEn,trivial⟩) call264 func264 (lOK aN)
def zhZ (m b:Int):Bool×ByteArray:=ztI m b
def zrE:Ab.Spec ty:=zh (cx:=base) (zd (zg (zfB .i64)) (zd (zg (zfB .i64)) zq)) λx=>((zhZ x.1 x.2.1).1,⟨[.pure (.lit (.string (zhZ x.1 x.2.1).2))],[]⟩)
theorem zxs:SdP 92 zrE:=z0k zet Go.Proofs.Tryz.laysM173 call92 (λ_ h=>h.1)
def strings_ReplaceAll (s p q:ByteArray):Bool×ByteArray:=zob s p q
def zxH:Ab.Spec ty:=zh (cx:=zbD) (zd (zg zva) (zd (zg zva) (zd (zg zva) zq))) λx=>((strings_ReplaceAll x.1 x.2.1 x.2.2.1).1,⟨[.pure (.lit (.string (strings_ReplaceAll x.1 x.2.1 x.2.2.1).2))],[]⟩)
theorem zHP:Sound Tryz.prog zbD 93 zxH:=zYp zPX rfl Go.Proofs.Tryz.lays155 Go.Proofs.Tryz.Builder_Extra_155 call93 (λ_ h=>h.2)
def zZB:=zbu zbD 27 [(91,zoS),(92,zrE),(93,zxH)]
def zNt (v:Value):Wy0 (ByteArray):=.bn (zoc v) λr2=>.i (!r2) (.k (ByteArray.mk #[])) (.i (v.Kind==0) (.bn (zhZ v.Int 10) λr0=>.k r0) (.i (v.Kind==1) (.bn (strings_ReplaceAll v.Text (ByteArray.mk #[(39:UInt8)]) (ByteArray.mk #[(39:UInt8),(39:UInt8)])) λr1=>.i (decide ((ByteArray.mk #[(39:UInt8)]).size+r1.size<=9223372036854775807)) (.i (decide ((ByteArray.mk #[(39:UInt8)]++r1).size+(ByteArray.mk #[(39:UInt8)]).size<=9223372036854775807)) (.k (ByteArray.mk #[(39:UInt8)]++r1++ByteArray.mk #[(39:UInt8)])) .d) .d) (.i (v.Int==1) (.k (ByteArray.mk #[(84:UInt8),(82:UInt8),(85:UInt8),(69:UInt8)])) (.k (ByteArray.mk #[(70:UInt8),(65:UInt8),(76:UInt8),(83:UInt8),(69:UInt8)])))))
def zpc (v:Value):=(zNt v).fin default
def z0E:AL zbD (Value×Unit):=zd (zg (zcb 79)) zq
def zx2:=zh z0E λx=>((zpc x.1).1,zQT (zpc x.1).2)
theorem zDG:Sound Tryz.prog zbD 45 zx2:=
 sU (cx':=zZB) (zi ⟨zrU.nodr,zxs.nodr,zHP,trivial⟩) call45 func45 (lOK aN)
abbrev zjK:=Unit×Unit×yD×Int×Int×Unit
abbrev zju:=At×List ByteArray×Unit
abbrev zwB:=At×List ByteArray
def zfm (zbj:yB->Bool×ByteArray) (t48:yD) (t49:Int) (t50:Int) (x_:At) (items:List ByteArray):Wy zjK zju zwB:=.i (decide (t50<t49)) (.i (decide (0<=t50)&&decide (t50<Int.ofNat t48.length)) (.bn (zpc (t48.getD t50.toNat default).Value) λr1=>.i (decide (r1.size+(ByteArray.mk #[(58:UInt8),(32:UInt8)]).size<=9223372036854775807)) (.bn (zbj (t48.getD t50.toNat default).Ann) λr0=>.i (decide ((r1++ByteArray.mk #[(58:UInt8),(32:UInt8)]).size+r0.size<=9223372036854775807)) (.i (decide ((items.length+[r1++ByteArray.mk #[(58:UInt8),(32:UInt8)]++r0].length)*16<=zbh)) (.h ((),(),t48,t49,(IntKind.i64.wrap (t50+1)),()) (x_,(items++[r1++ByteArray.mk #[(58:UInt8),(32:UInt8)]++r0]),())) .d) .d) .d) .d) (.k (x_,items))
def zlJ (zbj:yB->Bool×ByteArray) (x:zjK) (y:zju):=zfm zbj x.2.2.1 x.2.2.2.1 x.2.2.2.2.1 y.1 y.2.1
def ztb (zbj:yB->Bool×ByteArray) (n:Nat) (t48:yD) (t49:Int) (t50:Int) (x_:At) (items:List ByteArray):=zB (zlJ zbj) default n ((),(),t48,t49,t50,()) (x_,items,())
def zCJ (r:zwB):LTree ty:=.done (.exit 1) [.ptr 360 0,.own 361] [.box (base.enc 143 r.1) false,.arr 9 r.2 false]
def zEb:LL ty zjK:=za (zdd 360 0) (za (zeJ 361) (za (lSl 169) (za zj (za zj zl))))
def zDX:BL ty zju:=zeq (zdO (λx=>(⟨x.1,⟨x.2.1,x.2.2.1⟩,x.2.2.2.1,x.2.2.2.2.1,x.2.2.2.2.2.1,x.2.2.2.2.2.2.1,⟨x.2.2.2.2.2.2.2.1,x.2.2.2.2.2.2.2.2.1,x.2.2.2.2.2.2.2.2.2.1⟩⟩:At)) (λx=>(x.Kind,x.Row.Table,x.Row.Seq,x.Ag,x.Func,x.Items,x.Op,x.Bd.Kind,x.Bd.Int,x.Bd.Text,())) (λ_=>rfl) (za (zO .i64) (za (zO .i64) (za (zO .i64) (za (lSl 51) (za (zO .i64) (za (lSl 169) (za (zO .i64) (za (zO .i64) (za (zO .i64) (za zjj zl))))))))))) false (zeE 9 false (zbb))
def zDe (x:zjK) (y:zju):Nat:=(x.2.2.1.length+Int.toNat x.2.2.2.1+Int.toNat x.2.2.2.2.1+y.1.Ag.length+y.1.Items.length+y.2.1.length+1)
def zur (zbj:yB->Bool×ByteArray):=zbX zbD 90 [(44,zm1),(45,zx2),(94,(zm5 zbj)),(264,zD9),(265,zvI),(266,zvz)] [] [(12,[(1,.keep),(3,.own 9),(48,.keep),(49,.keep),(50,.keep)])] [(12,2,(kpL [1,3]))] [(12,spW zEb zDX (zlJ zbj) default zCJ zDe)] []
theorem zC0 (zbj:yB->Bool×ByteArray):zF (zur zbj) (lp (body f215) 0):=zn (id:=12) (hl:=rfl)
def zvU (zbj:yB->Bool×ByteArray) (x_:At):Wy0 (ByteArray):=.i (x_.Kind==0) (.bn (zuH x_.Row) λr4=>.k r4) (.i (x_.Kind==1) (.i (decide ((0:Int)<=(0:Int))&&decide (0<Int.ofNat x_.Ag.length)) (.bn (zbj (x_.Ag.getD (Int.toNat 0) default)) λr6=>.i (decide ((ByteArray.mk #[(109:UInt8),(111:UInt8),(110:UInt8),(117:UInt8),(115:UInt8),(91:UInt8)]).size+r6.size<=9223372036854775807)) (.i (decide ((ByteArray.mk #[(109:UInt8),(111:UInt8),(110:UInt8),(117:UInt8),(115:UInt8),(91:UInt8)]++r6).size+(ByteArray.mk #[(44:UInt8),(32:UInt8)]).size<=9223372036854775807)) (.i (decide ((0:Int)<=(1:Int))&&decide (1<Int.ofNat x_.Ag.length)) (.bn (zbj (x_.Ag.getD (Int.toNat 1) default)) λr5=>.i (decide ((ByteArray.mk #[(109:UInt8),(111:UInt8),(110:UInt8),(117:UInt8),(115:UInt8),(91:UInt8)]++r6++ByteArray.mk #[(44:UInt8),(32:UInt8)]).size+r5.size<=9223372036854775807)) (.i (decide ((ByteArray.mk #[(109:UInt8),(111:UInt8),(110:UInt8),(117:UInt8),(115:UInt8),(91:UInt8)]++r6++ByteArray.mk #[(44:UInt8),(32:UInt8)]++r5).size+(ByteArray.mk #[(93:UInt8)]).size<=9223372036854775807)) (.k (ByteArray.mk #[(109:UInt8),(111:UInt8),(110:UInt8),(117:UInt8),(115:UInt8),(91:UInt8)]++r6++ByteArray.mk #[(44:UInt8),(32:UInt8)]++r5++ByteArray.mk #[(93:UInt8)])) .d) .d) .d) .d) .d) .d) (.i (x_.Kind==2) (.i (decide ((0:Int)<=(0:Int))&&decide (0<Int.ofNat x_.Ag.length)) (.bn (zbj (x_.Ag.getD (Int.toNat 0) default)) λr7=>.i (decide ((ByteArray.mk #[(100:UInt8),(101:UInt8),(108:UInt8),(116:UInt8),(97:UInt8),(91:UInt8)]).size+r7.size<=9223372036854775807)) (.i (decide ((ByteArray.mk #[(100:UInt8),(101:UInt8),(108:UInt8),(116:UInt8),(97:UInt8),(91:UInt8)]++r7).size+(ByteArray.mk #[(93:UInt8)]).size<=9223372036854775807)) (.k (ByteArray.mk #[(100:UInt8),(101:UInt8),(108:UInt8),(116:UInt8),(97:UInt8),(91:UInt8)]++r7++ByteArray.mk #[(93:UInt8)])) .d) .d) .d) (.i (x_.Kind==3) (.i (decide ((0:Int)<=(0:Int))&&decide (0<Int.ofNat x_.Ag.length)) (.bn (zbj (x_.Ag.getD (Int.toNat 0) default)) λr8=>.i (decide ((ByteArray.mk #[(97:UInt8),(98:UInt8),(115:UInt8),(101:UInt8),(110:UInt8),(116:UInt8),(91:UInt8)]).size+r8.size<=9223372036854775807)) (.i (decide ((ByteArray.mk #[(97:UInt8),(98:UInt8),(115:UInt8),(101:UInt8),(110:UInt8),(116:UInt8),(91:UInt8)]++r8).size+(ByteArray.mk #[(93:UInt8)]).size<=9223372036854775807)) (.k (ByteArray.mk #[(97:UInt8),(98:UInt8),(115:UInt8),(101:UInt8),(110:UInt8),(116:UInt8),(91:UInt8)]++r8++ByteArray.mk #[(93:UInt8)])) .d) .d) .d) (.bn (ztb zbj (x_.Items.length+(Int.ofNat x_.Items.length).toNat +Int.toNat 0+x_.Ag.length+x_.Items.length+0+1) x_.Items (Int.ofNat x_.Items.length) 0 (At.mk x_.Kind x_.Row x_.Ag x_.Func x_.Items x_.Op x_.Bd) []) λr11=>.i (decide (0<=r11.1.Func)&&decide (r11.1.Func<Int.ofNat zb1.2.length)) (.i (decide ((ByteArray.mk #[(116:UInt8),(101:UInt8),(115:UInt8),(116:UInt8),(91:UInt8)]).size+ByteArray.size (zb1.2.getD r11.1.Func.toNat default)<=9223372036854775807)) (.i (decide ((ByteArray.mk #[(116:UInt8),(101:UInt8),(115:UInt8),(116:UInt8),(91:UInt8)]++zb1.2.getD r11.1.Func.toNat default).size+(ByteArray.mk #[(123:UInt8)]).size<=9223372036854775807)) (.bn (strings_Join r11.2 (ByteArray.mk #[(59:UInt8),(32:UInt8)])) λr10=>.i (decide ((ByteArray.mk #[(116:UInt8),(101:UInt8),(115:UInt8),(116:UInt8),(91:UInt8)]++zb1.2.getD r11.1.Func.toNat default++ByteArray.mk #[(123:UInt8)]).size+r10.size<=9223372036854775807)) (.i (decide ((ByteArray.mk #[(116:UInt8),(101:UInt8),(115:UInt8),(116:UInt8),(91:UInt8)]++zb1.2.getD r11.1.Func.toNat default++ByteArray.mk #[(123:UInt8)]++r10).size+(ByteArray.mk #[(125:UInt8),(32:UInt8)]).size<=9223372036854775807)) (.i (decide (0<=IntKind.i64.wrap (r11.1.Op - 5))&&decide (IntKind.i64.wrap (r11.1.Op - 5)<Int.ofNat zdb.2.length)) (.i (decide ((ByteArray.mk #[(116:UInt8),(101:UInt8),(115:UInt8),(116:UInt8),(91:UInt8)]++zb1.2.getD r11.1.Func.toNat default++ByteArray.mk #[(123:UInt8)]++r10++ByteArray.mk #[(125:UInt8),(32:UInt8)]).size+ByteArray.size (zdb.2.getD (IntKind.i64.wrap (r11.1.Op - 5)).toNat default)<=9223372036854775807)) (.i (decide ((ByteArray.mk #[(116:UInt8),(101:UInt8),(115:UInt8),(116:UInt8),(91:UInt8)]++zb1.2.getD r11.1.Func.toNat default++ByteArray.mk #[(123:UInt8)]++r10++ByteArray.mk #[(125:UInt8),(32:UInt8)]++zdb.2.getD (IntKind.i64.wrap (r11.1.Op - 5)).toNat default).size+(ByteArray.mk #[(32:UInt8)]).size<=9223372036854775807)) (.bn (zpc r11.1.Bd) λr9=>.i (decide ((ByteArray.mk #[(116:UInt8),(101:UInt8),(115:UInt8),(116:UInt8),(91:UInt8)]++zb1.2.getD r11.1.Func.toNat default++ByteArray.mk #[(123:UInt8)]++r10++ByteArray.mk #[(125:UInt8),(32:UInt8)]++zdb.2.getD (IntKind.i64.wrap (r11.1.Op - 5)).toNat default++ByteArray.mk #[(32:UInt8)]).size+r9.size<=9223372036854775807)) (.i (decide ((ByteArray.mk #[(116:UInt8),(101:UInt8),(115:UInt8),(116:UInt8),(91:UInt8)]++zb1.2.getD r11.1.Func.toNat default++ByteArray.mk #[(123:UInt8)]++r10++ByteArray.mk #[(125:UInt8),(32:UInt8)]++zdb.2.getD (IntKind.i64.wrap (r11.1.Op - 5)).toNat default++ByteArray.mk #[(32:UInt8)]++r9).size+(ByteArray.mk #[(93:UInt8)]).size<=9223372036854775807)) (.k (ByteArray.mk #[(116:UInt8),(101:UInt8),(115:UInt8),(116:UInt8),(91:UInt8)]++zb1.2.getD r11.1.Func.toNat default++ByteArray.mk #[(123:UInt8)]++r10++ByteArray.mk #[(125:UInt8),(32:UInt8)]++zdb.2.getD (IntKind.i64.wrap (r11.1.Op - 5)).toNat default++ByteArray.mk #[(32:UInt8)]++r9++ByteArray.mk #[(93:UInt8)])) .d) .d) .d) .d) .d) .d) .d) .d) .d) .d))))
def zhW (zbj:yB->Bool×ByteArray) (x_:At):=(zvU zbj x_).fin default
theorem zBZ (zbj:yB->Bool×ByteArray) (zQ6:Sound Tryz.prog zbD 94 (zm5 zbj)):Sound Tryz.prog zbD 215 (zko (zhW zbj)):=
 sU (cx':=(zur zbj)) (zi ⟨zrj,zDG,zQ6,zRc.nodr,zFJ.nodr,zE7.nodr,trivial⟩) call215 func215 (lOK (aC (zC0 zbj) aN))
abbrev zib:=Unit×yC×Int×Int×Unit
abbrev zia:=List ByteArray×Unit
def zeD (z7:At->Bool×ByteArray) (t7:yC) (t8:Int) (t9:Int) (out_:List ByteArray):Wy zib zia (List ByteArray):=.i (decide (t9<t8)) (.i (decide (0<=t9)&&decide (t9<Int.ofNat t7.length)) (.bn (z7 (At.mk (t7.getD t9.toNat default).At.Kind (t7.getD t9.toNat default).At.Row (t7.getD t9.toNat default).At.Ag (t7.getD t9.toNat default).At.Func (t7.getD t9.toNat default).At.Items (t7.getD t9.toNat default).At.Op (t7.getD t9.toNat default).At.Bd)) λr1=>.i ((t7.getD t9.toNat default).Exp != 1) (.bn (strconv_Itoa (t7.getD t9.toNat default).Exp) λr0=>.i (decide ((ByteArray.mk #[(94:UInt8)]).size+r0.size<=9223372036854775807)) (.i (decide (r1.size+(ByteArray.mk #[(94:UInt8)]++r0).size<=9223372036854775807)) (.i (decide ((out_.length+[r1++(ByteArray.mk #[(94:UInt8)]++r0)].length)*16<=zbh)) (.h ((),t7,t8,(IntKind.i64.wrap (t9+1)),()) ((out_++[r1++(ByteArray.mk #[(94:UInt8)]++r0)]),())) .d) .d) .d) (.i (decide ((out_.length+[r1].length)*16<=zbh)) (.h ((),t7,t8,(IntKind.i64.wrap (t9+1)),()) ((out_++[r1]),())) .d)) .d) (.k out_)
def zki (z7:At->Bool×ByteArray) (x:zib) (y:zia):=zeD z7 x.2.1 x.2.2.1 x.2.2.2.1 y.1
def zrG (z7:At->Bool×ByteArray) (n:Nat) (t7:yC) (t8:Int) (t9:Int) (out_:List ByteArray):=zB (zki z7) default n ((),t7,t8,t9,()) (out_,())
def zAZ (r:List ByteArray):LTree ty:=.done (.exit 0) [.own 128] [.arr 9 r false]
def zB6:LL ty zib:=za (zeJ 128) (za (lSl 145) (za zj (za zj zl)))
def zB3:BL ty zia:=zeE 9 false (zbb)
def zBS (x:zib) (y:zia):Nat:=(x.2.1.length+Int.toNat x.2.2.1+Int.toNat x.2.2.2.1+y.1.length+1)
def zrJ (z7:At->Bool×ByteArray):=zbX zbD 32 [(44,zm1),(215,(zko z7)),(216,zx6)] [] [(3,[(3,.own 9),(7,.keep),(8,.keep),(9,.keep)])] [(3,1,(kpL [3]))] [(3,spW zB6 zB3 (zki z7) default zAZ zBS)] []
theorem zBE (z7:At->Bool×ByteArray):zF (zrJ z7) (lp (body f154) 0):=zn (id:=3) (hl:=rfl)
def zsg (z7:At->Bool×ByteArray) (l:yC):Wy0 (ByteArray):=.bn (zrG z7 (l.length+(Int.ofNat l.length).toNat +Int.toNat 0+0+1) l (Int.ofNat l.length) 0 []) λr5=>.bn (strings_Join r5 (ByteArray.mk #[(42:UInt8)])) λr4=>.k r4
def zfS (z7:At->Bool×ByteArray) (l:yC):=(zsg z7 l).fin default
theorem zzb (z7:At->Bool×ByteArray) (zGH:Sound Tryz.prog zbD 215 (zko z7)):Sound Tryz.prog zbD 154 (zfN (zfS z7)):=
 sU (cx':=(zrJ z7)) (zi ⟨zrj,zGH,zEn.nodr,trivial⟩) call154 func154 (lOK (aC (zBE z7) aN))
abbrev zrb:=Unit×yB×Int×Int×Unit
abbrev zqr:=List ByteArray×Unit
def zjE (zT:yC->Bool×ByteArray) (t9:yB) (t10:Int) (t11:Int) (out_:List ByteArray):Wy zrb zqr (List ByteArray):=.i (decide (t11<t10)) (.i (decide (0<=t11)&&decide (t11<Int.ofNat t9.length)) (.i (Int.ofNat (t9.getD t11.toNat default).Fs.length==0) (.bn (zhZ (t9.getD t11.toNat default).Cf 10) λr0=>.i (decide ((out_.length+[r0].length)*16<=zbh)) (.h ((),t9,t10,(IntKind.i64.wrap (t11+1)),()) ((out_++[r0]),())) .d) (.i ((t9.getD t11.toNat default).Cf==1) (.bn (zT (t9.getD t11.toNat default).Fs) λr1=>.i (decide ((out_.length+[r1].length)*16<=zbh)) (.h ((),t9,t10,(IntKind.i64.wrap (t11+1)),()) ((out_++[r1]),())) .d) (.bn (zhZ (t9.getD t11.toNat default).Cf 10) λr3=>.i (decide (r3.size+(ByteArray.mk #[(42:UInt8)]).size<=9223372036854775807)) (.bn (zT (t9.getD t11.toNat default).Fs) λr2=>.i (decide ((r3++ByteArray.mk #[(42:UInt8)]).size+r2.size<=9223372036854775807)) (.i (decide ((out_.length+[r3++ByteArray.mk #[(42:UInt8)]++r2].length)*16<=zbh)) (.h ((),t9,t10,(IntKind.i64.wrap (t11+1)),()) ((out_++[r3++ByteArray.mk #[(42:UInt8)]++r2]),())) .d) .d) .d))) .d) (.k out_)
def ztD (zT:yC->Bool×ByteArray) (x:zrb) (y:zqr):=zjE zT x.2.1 x.2.2.1 x.2.2.2.1 y.1
def zBN (zT:yC->Bool×ByteArray) (n:Nat) (t9:yB) (t10:Int) (t11:Int) (out_:List ByteArray):=zB (ztD zT) default n ((),t9,t10,t11,()) (out_,())
def zNg (r:List ByteArray):LTree ty:=.done (.exit 0) [.own 200] [.arr 9 r false]
def zPU:LL ty zrb:=za (zeJ 200) (za (lSl 107) (za zj (za zj zl)))
def zOx:BL ty zqr:=zeE 9 false (zbb)
def zNc (x:zrb) (y:zqr):Nat:=(x.2.1.length+Int.toNat x.2.2.1+Int.toNat x.2.2.2.1+y.1.length+1)
def zBO (zT:yC->Bool×ByteArray):=zbX zbD 50 [(44,zm1),(92,zrE),(154,(zfN zT))] [] [(5,[(3,.own 9),(9,.keep),(10,.keep),(11,.keep)])] [(5,1,(kpL [3]))] [(5,spW zPU zOx (ztD zT) default zNg zNc)] []
theorem zNO (zT:yC->Bool×ByteArray):zF (zBO zT) (lp (body f94) 0):=zn (id:=5) (hl:=rfl)
def zCl (zT:yC->Bool×ByteArray) (a:yB):Wy0 (ByteArray):=.i (Int.ofNat a.length==0) (.k (ByteArray.mk #[(48:UInt8)])) (.bn (zBN zT (a.length+(Int.ofNat a.length).toNat +Int.toNat 0+0+1) a (Int.ofNat a.length) 0 []) λr9=>.bn (strings_Join r9 (ByteArray.mk #[(32:UInt8),(43:UInt8),(32:UInt8)])) λr8=>.k r8)
def zmU (zT:yC->Bool×ByteArray) (a:yB):=(zCl zT a).fin default
theorem zJw (zT:yC->Bool×ByteArray) (zCN:Sound Tryz.prog zbD 154 (zfN zT)):Sound Tryz.prog zbD 94 (zm5 (zmU zT)):=
 sU (cx':=(zBO zT)) (zi ⟨zrj,zxs.nodr,zCN,trivial⟩) call94 func94 (lOK (aC (zNO zT) aN))
def zDo:Nat->(yB->Bool×ByteArray)×(At->Bool×ByteArray)×(yC->Bool×ByteArray)
 | 0=>(λ_=>(false,default),λ_=>(false,default),λ_=>(false,default))
 | n+1=>(zmU ((zDo n).2.2),zhW ((zDo n).1),zfS ((zDo n).2.1))
def zm4 (n:Nat):yB->Bool×ByteArray:=(zDo n).1
def zkt (n:Nat):At->Bool×ByteArray:=(zDo n).2.1
def zfO (n:Nat):yC->Bool×ByteArray:=(zDo n).2.2
theorem zOq (n:Nat):zm4 (n+1)=zmU (zfO n):=rfl
theorem zFB (n:Nat):zkt (n+1)=zhW (zm4 n):=rfl
theorem zBY (n:Nat):zfO (n+1)=zfS (zkt n):=rfl
theorem zPz:∀ n,Sound Tryz.prog zbD 94 (zm5 (zm4 n))/\Sound Tryz.prog zbD 215 (zko (zkt n))/\Sound Tryz.prog zbD 154 (zfN (zfO n))
 | 0=>⟨z8 call94 (λ_=>rfl),z8 call215 (λ_=>rfl),z8 call154 (λ_=>rfl)⟩
 | n+1=>by
  have ih:=zPz n;exact ⟨zJw _ (ih.2.2),zBZ _ (ih.1),zzb _ (ih.2.1)⟩
def zBz:yB->Bool×ByteArray:=zm4 1000
def zAD:Ab.Spec ty:=zm5 zBz
theorem zMg:Sound Tryz.prog zbD 94 zAD:=(zPz 1000).1
def zwt:yC->Bool×ByteArray:=zfO 1000
def zrK:Ab.Spec ty:=zfN zwt
theorem zAw:Sound Tryz.prog zbD 154 zrK:=(zPz 1000).2.2
def zPM:=zbu zbD 8 [(52,zcl),(94,zAD)]
def zCd (a:yB):Wy0 (ByteArray):=.bn (zb7 a) λr1=>.i (!r1) (.k (ByteArray.mk #[])) (.bn (zBz a) λr0=>.k r0)
def znd (a:yB):=(zCd a).fin default
def zyv:=zh zVC λx=>((znd x.1).1,zQT (znd x.1).2)
theorem zJq:Sound Tryz.prog zbD 46 zyv:=
 sU (cx':=zPM) (zi ⟨zco.nodr,zMg,trivial⟩) call46 func46 (lOK aN)
def zQO:=zbu base 16 [(91,zoS)]
def zD5 (p:pair):Wy0 (Bool):=.bn (zoc p.v) λr0=>.i (!r0) (.k true) (.k (p.v.Kind != p.c.Type_))
def zkS (p:pair):=(zD5 p).fin default
def zRY:AL base (pair×Unit):=zd (zg (zcb 137)) zq
def zme:=zh zRY λx=>((zkS x.1).1,zQK (zkS x.1).2)
theorem zrw:SdP 102 zme:=
 sT (cx':=zQO) (zi ⟨zrU,trivial⟩) call102 func102 (lOK aN)
abbrev zvP:=yH×Unit×yG×Int×Int×Unit
abbrev zvG:=List pair×Unit
def zA8 (l:yH) (t8:yG) (t9:Int) (t10:Int) (out_:List pair):Wy zvP zvG (List pair):=.i (decide (t10<t9)) (.i (decide (0<=t10)&&decide (t10<Int.ofNat t8.length)) (.i (decide (0<=t10)&&decide (t10<Int.ofNat l.length)) (.i (decide ((out_.length+[pair.mk (l.getD t10.toNat default) (t8.getD t10.toNat default)].length)*56<=zbh)) (.h (l,(),t8,t9,(IntKind.i64.wrap (t10+1)),()) ((out_++[pair.mk (l.getD t10.toNat default) (t8.getD t10.toNat default)]),())) .d) .d) .d) (.k out_)
def zBU (x:zvP) (y:zvG):=zA8 x.1 x.2.2.1 x.2.2.2.1 x.2.2.2.2.1 y.1
def zBi (n:Nat) (l:yH) (t8:yG) (t9:Int) (t10:Int) (out_:List pair):=zB (zBU) default n (l,(),t8,t9,t10,()) (out_,())
def zYy (r:List pair):LTree ty:=.done (.exit 0) [.own 104] [.arr 137 r false]
def zYD:LL ty zvP:=za (lSl 75) (za (zeJ 104) (za (lSl 79) (za zj (za zj zl))))
def zY1:BL ty zvG:=zeE 137 false (zbb)
def zXq (x:zvP) (y:zvG):Nat:=(x.1.length+x.2.2.1.length+Int.toNat x.2.2.2.1+Int.toNat x.2.2.2.2.1+y.1.length+1000)
def zKv:=zbX base 26 [] [] [(3,[(0,.keep),(5,.own 137),(8,.keep),(9,.keep),(10,.keep)])] [(3,1,(kpL [5]))] [(3,spW zYD zY1 (zBU) default zYy zXq)] []
theorem zYu:zF zKv (lp (body f101) 0):=zn (id:=3) (hl:=rfl)
def zNr (l:yH) (row:yG):Wy0 (List pair):=.bn (zBi (l.length+row.length+(Int.ofNat row.length).toNat +Int.toNat 0+0+1000) l row (Int.ofNat row.length) 0 []) λr0=>.k r0
def zwl (l:yH) (row:yG):=(zNr l row).fin default
def zXI (r:List pair):ARes ty:=⟨[.own 137 r],[]⟩
def z0Q:AL base (yH×yG×Unit):=zd (zg (vSl 75)) (zd (zg (vSl 79)) zq)
def zGd:=zh z0Q λx=>((zwl x.1 x.2.1).1,zXI (zwl x.1 x.2.1).2)
theorem zTJ:SdP 101 zGd:=
 sT (cx':=zKv) (zi trivial) call101 func101 (lOK (aC zYu aN)) (sg:=⟨[.own 137],[]⟩)
abbrev zcZ:=List pair×Unit×Int×Int×Unit
def znk (s:List pair) (t7:Int) (t8:Int):Wy zcZ Unit (Int⊕Unit):=.i (decide (t8<t7)) (.i (decide (0<=t8)&&decide (t8<Int.ofNat s.length)) (.bn (zkS (s.getD t8.toNat default)) λr0=>.i (r0) (.k (.inl t8)) (.h (s,(),t7,(IntKind.i64.wrap (t8+1)),()) ())) .d) (.k (.inr ()))
def zga (x:zcZ) (y:Unit):=znk x.1 x.2.2.1 x.2.2.2.1
def zm2 (n:Nat) (s:List pair) (t7:Int) (t8:Int):=zB (zga) (.inl default) n (s,(),t7,t8,()) ()
def zm0:LL ty zcZ:=za (lSl 137) (za (lFn 102 (zl)) (za zj (za zj zl)))
def zmA (x:zcZ) (y:Unit):Nat:=(x.1.length+Int.toNat x.2.2.1+Int.toNat x.2.2.2.1+1000)
def zf7:=zbX base 19 [(102,zme)] [] [(2,(kpL [0,1,7,8]))] [(2,1,[]),(2,0,(kpL [4]))] [(2,spW zm0 z3q (zga) (.inl default) zp5 zmA)] []
theorem zmG:zF zf7 (lp (body f158) 0):=zn (id:=2) (hl:=rfl)
def zn5 (s:List pair):Wy0 (Int):=.bn (zm2 (s.length+(Int.ofNat s.length).toNat +Int.toNat 0+1000) s (Int.ofNat s.length) 0) λr2=>.i (isL r2) (.k (getL r2)) (.k (-1:Int))
def zcJ (s:List pair):=(zn5 s).fin default
def znW:AL base (List pair×Unit×Unit):=zd (zg (vSl 137)) (zd (zg (vFn 102 zcR)) zq)
def zfH:=zh znW λx=>((zcJ x.1).1,zLH (zcJ x.1).2)
theorem zlt:SdP 158 zfH:=
 sT (cx':=zf7) (zi ⟨zrw,trivial⟩) call158 func158 (lOK (aC zmG aN))
def zlk:=zbu base 9 [(102,zme),(158,zfH)]
def zfF (s:List pair):Wy0 (Bool):=.bn (zcJ s) λr0=>.k (decide (r0≥0))
def zbY (s:List pair):=(zfF s).fin default
def zeV:=zh znW λx=>((zbY x.1).1,zQK (zbY x.1).2)
theorem zkJ:SdP 100 zeV:=
 sT (cx':=zlk) (zi ⟨zrw,zlt,trivial⟩) call100 func100 (lOK aN)
def zXM:=zbu base 17 [(100,zeV),(101,zGd),(102,zme)]
def zKh (l:yH) (row:yG):Wy0 (Bool):=.i (Int.ofNat l.length==Int.ofNat row.length) (.bn (zwl l row) λr1=>.bn (zbY r1) λr0=>.k (!r0)) (.k false)
def zqk (l:yH) (row:yG):=(zKh l row).fin default
def zwe:=zh z0Q λx=>((zqk x.1 x.2.1).1,zQK (zqk x.1 x.2.1).2)
theorem zCy:SdP 51 zwe:=
 sT (cx':=zXM) (zi ⟨zkJ,zTJ,zrw,trivial⟩) call51 func51 (lOK aN)
def z1I:=zbu base 2 []
def z3i:Wy0 (List ByteArray):=.k [ByteArray.mk #[(73:UInt8),(78:UInt8),(84:UInt8),(69:UInt8),(71:UInt8),(69:UInt8),(82:UInt8)],ByteArray.mk #[(84:UInt8),(69:UInt8),(88:UInt8),(84:UInt8)],ByteArray.mk #[(66:UInt8),(79:UInt8),(79:UInt8),(76:UInt8),(69:UInt8),(65:UInt8),(78:UInt8)]]
def zDw:Bool×List ByteArray:=(z3i).fin default
def zIr:=zh z0Y λx=>((zDw ).1,zIc (zDw ).2)
theorem zVA:SdP 87 zIr:=
 sT (cx':=z1I) (zi trivial) call87 func87 (lOK aN) (sg:=⟨[.own 9],[]⟩)
def zUY:=zbu base 13 [(87,zIr)]
def zy9 (kind:Int):Wy0 (ByteArray):=.i (decide (kind<0)) (.k (ByteArray.mk #[])) (.i (decide (kind>2)) (.k (ByteArray.mk #[])) (.i (decide (0<=kind)&&decide (kind<Int.ofNat zDw.2.length)) (.k (zDw.2.getD kind.toNat default)) .d))
def zkU (kind:Int):=(zy9 kind).fin default
def zvn:=zh zVL λx=>((zkU x.1).1,zQT (zkU x.1).2)
theorem zAM:SdP 43 zvn:=
 sT (cx':=zUY) (zi ⟨zVA,trivial⟩) call43 func43 (lOK aN)
def zD7:=zbu base 7 [(43,zvn)]
def zmM (c:Column):Wy0 (Bool):=.bn (zkU c.Type_) λr0=>.k (r0.toList==(ByteArray.mk #[]).toList)
def zbV (c:Column):=(zmM c).fin default
def zFl:AL base (Column×Unit):=zd (zg (zcb 75)) zq
def zgS:=zh zFl λx=>((zbV x.1).1,zQK (zbV x.1).2)
theorem zjH:SdP 99 zgS:=
 sT (cx':=zD7) (zi ⟨zAM,trivial⟩) call99 func99 (lOK aN)
abbrev zdF:=yH×Unit×Int×Int×Unit
def zqI (s:yH) (t7:Int) (t8:Int):Wy zdF Unit (Int⊕Unit):=.i (decide (t8<t7)) (.i (decide (0<=t8)&&decide (t8<Int.ofNat s.length)) (.bn (zbV (s.getD t8.toNat default)) λr0=>.i (r0) (.k (.inl t8)) (.h (s,(),t7,(IntKind.i64.wrap (t8+1)),()) ())) .d) (.k (.inr ()))
def zil (x:zdF) (y:Unit):=zqI x.1 x.2.2.1 x.2.2.2.1
def zrd (n:Nat) (s:yH) (t7:Int) (t8:Int):=zB (zil) (.inl default) n (s,(),t7,t8,()) ()
def zqX:LL ty zdF:=za (lSl 75) (za (lFn 99 (zl)) (za zj (za zj zl)))
def zp3 (x:zdF) (y:Unit):Nat:=(x.1.length+Int.toNat x.2.2.1+Int.toNat x.2.2.2.1+1000)
def zif:=zbX base 19 [(99,zgS)] [] [(2,(kpL [0,1,7,8]))] [(2,1,[]),(2,0,(kpL [4]))] [(2,spW zqX z3q (zil) (.inl default) zp5 zp3)] []
theorem zp4:zF zif (lp (body f157) 0):=zn (id:=2) (hl:=rfl)
def zrt (s:yH):Wy0 (Int):=.bn (zrd (s.length+(Int.ofNat s.length).toNat +Int.toNat 0+1000) s (Int.ofNat s.length) 0) λr2=>.i (isL r2) (.k (getL r2)) (.k (-1:Int))
def zdp (s:yH):=(zrt s).fin default
def zrn:AL base (yH×Unit×Unit):=zd (zg (vSl 75)) (zd (zg (vFn 99 zcR)) zq)
def zhu:=zh zrn λx=>((zdp x.1).1,zLH (zdp x.1).2)
theorem zo6:SdP 157 zhu:=
 sT (cx':=zif) (zi ⟨zjH,trivial⟩) call157 func157 (lOK (aC zp4 aN))
def zpi:=zbu base 9 [(99,zgS),(157,zhu)]
def zhs (s:yH):Wy0 (Bool):=.bn (zdp s) λr0=>.k (decide (r0≥0))
def zcm (s:yH):=(zhs s).fin default
def zgw:=zh zrn λx=>((zcm x.1).1,zQK (zcm x.1).2)
theorem zm6:SdP 98 zgw:=
 sT (cx':=zpi) (zi ⟨zjH,zo6,trivial⟩) call98 func98 (lOK aN)
def zIA:=zbu base 11 [(98,zgw),(99,zgS)]
def zxz (l:yH):Wy0 (Bool):=.i (decide (Int.ofNat l.length<=16)) (.bn (zcm l) λr0=>.k (!r0)) (.k false)
def zgF (l:yH):=(zxz l).fin default
def zJG:AL base (yH×Unit):=zd (zg (vSl 75)) zq
def zmK:=zh zJG λx=>((zgF x.1).1,zQK (zgF x.1).2)
theorem zta:SdP 50 zmK:=
 sT (cx':=zIA) (zi ⟨zm6,zjH,trivial⟩) call50 func50 (lOK aN)
abbrev zrT:=Unit×yF×Int×Int×Unit
abbrev zmX:=Relation×Unit
def zmQ (t16:yF) (t17:Int) (t18:Int) (r:Relation):Wy zrT zmX (Bool⊕Unit):=.i (decide (t18<t17)) (.i (decide (0<=t18)&&decide (t18<Int.ofNat t16.length)) (.bn (zqk r.Columns (t16.getD t18.toNat default).Values) λr2=>.i (!r2) (.k (.inl false)) (.i (Int.ofNat (t16.getD t18.toNat default).Ann.length==0) (.k (.inl false)) (.bn (zb7 (t16.getD t18.toNat default).Ann) λr1=>.i (!r1) (.k (.inl false)) (.i (decide (t18>0)) (.i (decide (0<=IntKind.i64.wrap (t18 - 1))&&decide (IntKind.i64.wrap (t18 - 1)<Int.ofNat r.Rows.length)) (.bn (zcO (r.Rows.getD (IntKind.i64.wrap (t18 - 1)).toNat default) (t16.getD t18.toNat default)) λr0=>.i (decide (r0≥0)) (.k (.inl false)) (.h ((),t16,t17,(IntKind.i64.wrap (t18+1)),()) (r,()))) .d) (.h ((),t16,t17,(IntKind.i64.wrap (t18+1)),()) (r,())))))) .d) (.k (.inr ()))
def zxT (x:zrT) (y:zmX):=zmQ x.2.1 x.2.2.1 x.2.2.2.1 y.1
def zF4 (n:Nat) (t16:yF) (t17:Int) (t18:Int) (r:Relation):=zB (zxT) (.inl default) n ((),t16,t17,t18,()) (r,())
def zV9:LL ty zrT:=za (zdd 228 0) (za (lSl 54) (za zj (za zj zl)))
def zVD:BL ty zmX:=zeq (zdO (λx=>(⟨x.1,x.2.1⟩:Relation)) (λx=>(x.Columns,x.Rows,())) (λ_=>rfl) (za (lSl 75) (za (lSl 54) zl))) false (zbb)
def zUs (x:zrT) (y:zmX):Nat:=(x.2.1.length+Int.toNat x.2.2.1+Int.toNat x.2.2.2.1+y.1.Columns.length+y.1.Rows.length+1000)
def zGp:=zbX base 57 [(50,zmK),(51,zwe),(52,zcl),(53,ze5)] [] [(4,(kpL [1,16,17,18]))] [(4,1,[]),(4,0,(kpL [2]))] [(4,spW zV9 zVD (zxT) (.inl default) zlC zUs)] []
theorem zSD:zF zGp (lp (body f14) 0):=zn (id:=4) (hl:=rfl)
def zI8 (r:Relation):Wy0 (Bool):=.bn (zgF r.Columns) λr7=>.i (!r7) (.k false) (.i (decide (Int.ofNat r.Rows.length>1024)) (.k false) (.bn (zF4 (r.Rows.length+(Int.ofNat r.Rows.length).toNat +Int.toNat 0+r.Columns.length+r.Rows.length+1000) r.Rows (Int.ofNat r.Rows.length) 0 r) λr6=>.i (isL r6) (.k (getL r6)) (.k true)))
def zom (r:Relation):=(zI8 r).fin default
def zX7:AL base zmX:=zd (zg (zcb 25)) zq
def zps:=zh zX7 λx=>((zom x.1).1,zQK (zom x.1).2)
theorem ztU:SdP 14 zps:=
 sT (cx':=zGp) (zi ⟨zta,zCy,zco,zfW,trivial⟩) call14 func14 (lOK (aC zSD aN))
abbrev zqE:=Unit×Unit×yH×Int×Int×Unit
abbrev zqt:=Relation×List ByteArray×Unit
abbrev zEh:=Relation×List ByteArray
abbrev zqZ:=Unit×Unit×Unit×yF×Int×Int×yG×Int×Int×Unit
abbrev zq2:=List ByteArray×Row×List ByteArray×Unit
abbrev zEs:=yF×Int×Int×List ByteArray×Row×List ByteArray
abbrev zqG:=Unit×yF×Int×Int×Unit
abbrev zqF:=List ByteArray×Unit
def zlp (t16:yH) (t17:Int) (t18:Int) (r:Relation) (head:List ByteArray):Wy zqE zqt zEh:=.i (decide (t18<t17)) (.i (decide (0<=t18)&&decide (t18<Int.ofNat t16.length)) (.i (decide ((t16.getD t18.toNat default).Name.size+(ByteArray.mk #[(32:UInt8)]).size<=9223372036854775807)) (.bn (zkU (t16.getD t18.toNat default).Type_) λr2=>.i (decide (((t16.getD t18.toNat default).Name++ByteArray.mk #[(32:UInt8)]).size+r2.size<=9223372036854775807)) (.i (decide ((head.length+[(t16.getD t18.toNat default).Name++ByteArray.mk #[(32:UInt8)]++r2].length)*16<=zbh)) (.h ((),(),t16,t17,(IntKind.i64.wrap (t18+1)),()) (r,(head++[(t16.getD t18.toNat default).Name++ByteArray.mk #[(32:UInt8)]++r2]),())) .d) .d) .d) .d) (.k (r,head))
def zwr (x:zqE) (y:zqt):=zlp x.2.2.1 x.2.2.2.1 x.2.2.2.2.1 y.1 y.2.1
def zDT (n:Nat) (t16:yH) (t17:Int) (t18:Int) (r:Relation) (head:List ByteArray):=zB (zwr) default n ((),(),t16,t17,t18,()) (r,head,())
def zQM (r:zEh):LTree ty:=.done (.exit 0) [.ptr 272 0,.own 273] [.box (base.enc 25 r.1) false,.arr 9 r.2 false]
def zTN:LL ty zqE:=za (zdd 272 0) (za (zeJ 273) (za (lSl 75) (za zj (za zj zl))))
def zTp:BL ty zqt:=zeq (zdO (λx=>(⟨x.1,x.2.1⟩:Relation)) (λx=>(x.Columns,x.Rows,())) (λ_=>rfl) (za (lSl 75) (za (lSl 54) zl))) false (zeE 9 false (zbb))
def zkM (t37:yF) (t38:Int) (t39:Int) (t44:yG) (t45:Int) (t46:Int) (out_:List ByteArray) (x_:Row) (l:List ByteArray):Wy zqZ zq2 zEs:=.i (decide (t46<t45)) (.i (decide (0<=t46)&&decide (t46<Int.ofNat t44.length)) (.bn (zpc (t44.getD t46.toNat default)) λr4=>.i (decide ((l.length+[r4].length)*16<=zbh)) (.h ((),(),(),t37,t38,t39,t44,t45,(IntKind.i64.wrap (t46+1)),()) (out_,x_,(l++[r4]),())) .d) .d) (.k (t37,t38,t39,out_,x_,l))
def zu7 (x:zqZ) (y:zq2):=zkM x.2.2.2.1 x.2.2.2.2.1 x.2.2.2.2.2.1 x.2.2.2.2.2.2.1 x.2.2.2.2.2.2.2.1 x.2.2.2.2.2.2.2.2.1 y.1 y.2.1 y.2.2.1
def zCv (n:Nat) (t37:yF) (t38:Int) (t39:Int) (t44:yG) (t45:Int) (t46:Int) (out_:List ByteArray) (x_:Row) (l:List ByteArray):=zB (zu7) default n ((),(),(),t37,t38,t39,t44,t45,t46,()) (out_,x_,l,())
def zO7 (r:zEs):LTree ty:=.done (.exit 4) [.own 272,.ptr 273 0,.own 274,.sl 54 r.1,.lit (.int .i64 r.2.1),.lit (.int .i64 r.2.2.1)] [.arr 9 r.2.2.2.1 false,.box (base.enc 54 r.2.2.2.2.1) false,.arr 9 r.2.2.2.2.2 false]
def zQ4:LL ty zqZ:=za (zeJ 272) (za (zdd 273 0) (za (zeJ 274) (za (lSl 54) (za zj (za zj (za (lSl 79) (za zj (za zj zl))))))))
def zRQ:BL ty zq2:=zeE 9 false (zeq (zdO (λx=>(⟨x.1,x.2.1⟩:Row)) (λx=>(x.Values,x.Ann,())) (λ_=>rfl) (za (lSl 79) (za (lSl 107) zl))) false (zeE 9 false (zbb)))
def zkK (t37:yF) (t38:Int) (t39:Int) (out_:List ByteArray):Wy zqG zqF (List ByteArray):=.i (decide (t39<t38)) (.i (decide (0<=t39)&&decide (t39<Int.ofNat t37.length)) (.bn (zCv (t37.length+t38.toNat +t39.toNat +(t37.getD t39.toNat default).Values.length+(Int.ofNat (t37.getD t39.toNat default).Values.length).toNat +Int.toNat 0+out_.length+(t37.getD t39.toNat default).Values.length+(t37.getD t39.toNat default).Ann.length+0+1000) t37 t38 t39 (t37.getD t39.toNat default).Values (Int.ofNat (t37.getD t39.toNat default).Values.length) 0 out_ (t37.getD t39.toNat default) []) λr8=>.bn (strings_Join r8.2.2.2.2.2 (ByteArray.mk #[(44:UInt8),(32:UInt8)])) λr7=>.i (decide (r7.size+(ByteArray.mk #[(32:UInt8),(124:UInt8),(32:UInt8)]).size<=9223372036854775807)) (.bn (znd r8.2.2.2.2.1.Ann) λr6=>.i (decide ((r7++ByteArray.mk #[(32:UInt8),(124:UInt8),(32:UInt8)]).size+r6.size<=9223372036854775807)) (.i (decide ((r8.2.2.2.1.length+[r7++ByteArray.mk #[(32:UInt8),(124:UInt8),(32:UInt8)]++r6].length)*16<=zbh)) (.h ((),(r8.1),(r8.2.1),(IntKind.i64.wrap (r8.2.2.1+1)),()) ((r8.2.2.2.1++[r7++ByteArray.mk #[(32:UInt8),(124:UInt8),(32:UInt8)]++r6]),())) .d) .d) .d) .d) (.k out_)
def zvx (x:zqG) (y:zqF):=zkK x.2.1 x.2.2.1 x.2.2.2.1 y.1
def zCc (n:Nat) (t37:yF) (t38:Int) (t39:Int) (out_:List ByteArray):=zB (zvx) default n ((),t37,t38,t39,()) (out_,())
def zPv (r:List ByteArray):LTree ty:=.done (.exit 2) [.own 272] [.arr 9 r false]
def zRN:LL ty zqG:=za (zeJ 272) (za (lSl 54) (za zj (za zj zl)))
def zRT:BL ty zqF:=zeE 9 false (zbb)
def zRs (x:zqE) (y:zqt):Nat:=(x.2.2.1.length+Int.toNat x.2.2.2.1+Int.toNat x.2.2.2.2.1+y.1.Columns.length+y.1.Rows.length+y.2.1.length+1000)
def zOl (x:zqZ) (y:zq2):Nat:=(x.2.2.2.1.length+Int.toNat x.2.2.2.2.1+Int.toNat x.2.2.2.2.2.1+x.2.2.2.2.2.2.1.length+Int.toNat x.2.2.2.2.2.2.2.1+Int.toNat x.2.2.2.2.2.2.2.2.1+y.1.length+y.2.1.Values.length+y.2.1.Ann.length+y.2.2.1.length+1000)
def zOu (x:zqG) (y:zqF):Nat:=(x.2.1.length+Int.toNat x.2.2.1+Int.toNat x.2.2.2.1+y.1.length+1000)
def zqo:=zbX zbD 68 [(14,zps),(43,zvn),(44,zm1),(45,zx2),(46,zyv)] [] [(5,[(1,.keep),(3,.own 9),(16,.keep),(17,.keep),(18,.keep)]),(11,(kpL [6,37,38,39])),(15,[(6,.keep),(8,.keep),(9,.own 9),(37,.keep),(38,.keep),(39,.keep),(44,.keep),(45,.keep),(46,.keep)])] [(5,1,(kpL [1,3])),(11,3,(kpL [6])),(15,5,(kpL [6,8,9,37,38,39]))] [(5,spW zTN zTp (zwr) default zQM zRs),(15,spW zQ4 zRQ (zu7) default zO7 zOl),(11,spW zRN zRT (zvx) default zPv zOu)] []
theorem zRv:zF zqo (lp (body f12) 0):=zn (id:=5) (hl:=rfl)
theorem zO6:zF zqo (lp (body f12) 2):=zn (id:=15) (hl:=rfl)
theorem zP3:zF zqo (lp (body f12) 1):=zn (id:=11) (hl:=rfl)
def zF0 (r:Relation):Wy0 (List ByteArray):=.bn (zom r) λr15=>.i (!r15) (.k []) (.bn (zDT (r.Columns.length+(Int.ofNat r.Columns.length).toNat +Int.toNat 0+r.Columns.length+r.Rows.length+0+1000) r.Columns (Int.ofNat r.Columns.length) 0 r []) λr14=>.bn (strings_Join r14.2 (ByteArray.mk #[(44:UInt8),(32:UInt8)])) λr13=>.bn (zCc (r14.1.Rows.length+(Int.ofNat r14.1.Rows.length).toNat +Int.toNat 0+[r13].length+1000) r14.1.Rows (Int.ofNat r14.1.Rows.length) 0 [r13]) λr12=>.k r12)
def zri (r:Relation):=(zF0 r).fin default
def zVs:AL zbD (Relation×Unit):=zd (zg (zcb 25)) zq
def zts:=zh zVs λx=>((zri x.1).1,zIc (zri x.1).2)
theorem zzD:Sound Tryz.prog zbD 12 zts:=
 sU (cx':=zqo) (zi ⟨ztU.nodr,zAM.nodr,zrj,zDG,zJq,trivial⟩) call12 func12 (lOK (aC zRv (aC zP3 (aC zO6 aN)))) (sg:=⟨[.own 9],[]⟩)
def zGU (k:Go.Value) (l:List (Go.Value×Int)):Option Int:=zPp (ty:=ty) (V:=3) k l
def zbdo (k:Go.Value) (l:List (Go.Value×Int)):Bool:=zFQ (ty:=ty) (V:=3) k l
def zbds (k:Go.Value) (x:Int) (l:List (Go.Value×Int)):List (Go.Value×Int):=zDb (ty:=ty) (V:=3) k x l
def zjL (x:yB) (a b lim:Int):Bool×yB:=z1B zcf x a b lim
def zxi:Ab.Spec ty:=zh (cx:=base) (zd (zp7 107) (zd (zg (zfB .i64)) (zd (zg (zfB .i64)) (zd (zg (zfB .i64)) (zd (zg (vFn 104 zcR)) zq))))) λx=>((zjL x.1 x.2.1 x.2.2.1 x.2.2.2.1).1,⟨[],[some ⟨107,(zjL x.1 x.2.1 x.2.2.1 x.2.2.2.1).2⟩]⟩)
theorem zxX (c:Unit) (x y:Term) (h:(zcf x y).1=true):zhH ((AV.agg (base.enc 107 x)::AV.agg (base.enc 107 y)::(zcR:VL base Unit).enc c).map Arg.pure)=some (true,⟨[.pure (.lit (.int .i64 (zcf x y).2))],[]⟩):=by
 rw [<- h]; kernel_rfl
theorem zwA:SdP 231 zxi:=by
 letI:DecidableEq (ty 107):=inferInstanceAs (DecidableEq Term)
 exact z69 (T:=107) zet rfl Go.Proofs.Tryz.pdqTerm Tryz.isAgg107 (by unfold zp; exact Tryz.sizeOf107) call231 zkl zcR (λc=>zcf) zxX
open Go.Proofs Go.RowKit
def zbW (x:yB):Bool×yB:=z94 zcf x
def zem:Ab.Spec ty:=zh (cx:=base) (zd (zp7 107) (zd (zg (vFn 104 zcR)) zq)) λx=>((zbW x.1).1,⟨[],[some ⟨107,(zbW x.1).2⟩]⟩)
set_option maxHeartbeats 1000000 in
theorem zqK:SdP 192 zem where
 enters:=call192
 calls:=λavs r hsp w F vs hF ha hsep=>by
  unfold zem zh at hsp;split at hsp
  ·rename_i x hx;simp only [qa,qb] at hsp;obtain ⟨hpre,rfl⟩:=hsp;have hk:=(zd (zp7 107) (zd (zg (vFn 104 zcR)) zq):AL base _).kind vs avs x hx;have ha':=(zd (zp7 107) (zd (zg (vFn 104 zcR)) zq):AL base _).ok Tryz.prog zet F w vs avs x hx ha;rw [hk] at hsep ⊢;clear hk hx ha;obtain ⟨l0,c,u0⟩:=x;obtain ⟨l,rfl⟩:∃ l:yB,l=l0:=⟨l0,rfl⟩;obtain ⟨v,vs',rfl,hv,hv'⟩:=ha'.inv;obtain ⟨fv,vs'',rfl,hfv,h0⟩:=hv'.inv;obtain rfl:=h0.nil_left.1
   have hsl:∃ p cap,v=.slice p l.length cap:=by
    obtain ⟨⟨xs,hown,_⟩,_⟩:=(show zcW base F w v 107 l/\∀ b,zba v=some b->¬ F b from hv)
    rcases hown.2 with ⟨h1,h2⟩ | ⟨g0,cap,cur,h1,_⟩
    ·exact ⟨none,0,by rw [h1,show l.length=0 from h2]⟩
    ·exact ⟨_,cap,h1⟩
   have hok:SortOK (α:=Term) zcf l:=of_decide_eq_true (p:=SortOK (α:=Term) zcf l) hpre;have hlen:l.length<4611686018427387904:=hok.size;have hbl:Lib.bitLen l.length<4611686018427387904:=Nat.lt_of_le_of_lt (Lib.bitLen_le l.length 62 (by omega) (by omega)) (by omega)
   have hpp:(zjL l 0 (l.length:Int) ((Lib.bitLen l.length:Nat):Int)).1=true:=by
    show (decide (SortOK (α:=Term) zcf l)&&(decide ((0:Int)=0)&&(decide ((l.length:Int)=l.length)&&(decide ((0:Int)<=((Lib.bitLen l.length:Nat):Int))&&decide (((Lib.bitLen l.length:Nat):Int)<4611686018427387904)))))=true;simp only [qc,qe];exact ⟨hok,trivial,trivial,by omega,by omega⟩
   have hp:=(zwA).calls [.own 107 l,.pure (.lit (.int .i64 0)),.pure (.lit (.int .i64 (l.length:Int))),.pure (.lit (.int .i64 ((Lib.bitLen l.length:Nat):Int))),.pure (.fn 104 [])] ⟨[],[some ⟨107,(zbW l).2⟩]⟩
    (by rw [<- hpp]; kernel_rfl) w F [v,.int .i64 0,.int .i64 (l.length:Int),.int .i64 ((Lib.bitLen l.length:Nat):Int),fv] hF (.cons hv (.cons (Rep.lit _) (.cons (Rep.lit _) (.cons (Rep.lit _) (.cons hfv .nil))))) hsep
   replace hp:Calls Tryz.prog 231 #[v,.int .i64 0,.int .i64 (l.length:Int),.int .i64 ((Lib.bitLen l.length:Nat):Int),fv] w λe w'=>∃ u,e=.returned u/\Post base F w [v] ⟨[],[some ⟨107,(zbW l).2⟩]⟩ u w':=hp
   show Calls Tryz.prog 192 #[v,fv] w λe w'=>∃ u,e=.returned u/\Post base F w [v] ⟨[],[some ⟨107,(zbW l).2⟩]⟩ u w'
   have hb:Calls Tryz.prog 205 #[.int .u64 (l.length:Int)] w λe w'=>e=.returned (.int .i64 ((Lib.bitLen l.length:Nat):Int))/\w'=w:=by
    have h:=Any.bits_Len Go.Proofs.Tryz.lays125 (l.length:Int) w (by omega) (by omega)
    rwa [Int.toNat_natCast] at h
   have wr:IntKind.u64.wrap (l.length:Int)=l.length:=by simp [IntKind.wrap,IntKind.bits,IntKind.signed]; omega
   generalize (zbW l).2=res at hp ⊢;generalize hn:l.length=m at *;generalize Lib.bitLen m=bl at *;clear hpp hv hfv hsep hok hpre hF;obtain ⟨p,cap,rfl⟩:=hsl;clear hn
   go_enter func192,ntmps192
   go_wp2_with (first | (go_at_call 205; refine hb.mono ?_; rintro e w' ⟨rfl,rfl⟩) | (go_at_call 231; refine hp.mono ?_; rintro e w' ⟨u,rfl,hpost⟩; obtain rfl:=hpost.unit))
   go_end0
   exact ⟨_,rfl,hpost⟩
  ·cases hsp
end Go.Proofs.YtoknknbmfmddbaaGreatDoor
namespace Go.Proofs.YtoknknbmfmddbaaGreatDoor
open Go Go.Ab
open Go.Proofs.Tryz
abbrev zmg:=Unit×Unit×yB×Int×Int×Unit
abbrev zmf:=(List (_root_.Go.Value×Int))×yB×Unit
def zNa (t11:yB) (t12:Int) (t13:Int) (at_:List (_root_.Go.Value×Int)) (out_:yB):Wy zmg zmf (yB):=.i (decide (t13<t12)) (.i (decide (0<=t13)&&decide (t13<Int.ofNat t11.length)) (.bn (zwt (t11.getD t13.toNat default).Fs) λr0=>.i (zbdo (Value.string r0) at_) (.i (decide (0<=(zGU (Value.string r0) at_).getD 0)&&decide ((zGU (Value.string r0) at_).getD 0<Int.ofNat out_.length)) (.i (decide (0<=(zGU (Value.string r0) at_).getD 0)&&decide ((zGU (Value.string r0) at_).getD 0<Int.ofNat out_.length)) (.i (decide (Int.toNat ((zGU (Value.string r0) at_).getD 0)<out_.length)) (.h ((),(),t11,t12,(IntKind.i64.wrap (t13+1)),()) (at_,(out_.set (Int.toNat ((zGU (Value.string r0) at_).getD 0)) (TO.mk (if 1152921504606846976<IntKind.i64.wrap ((out_.getD (Int.toNat ((zGU (Value.string r0) at_).getD 0)) default).Cf+(t11.getD t13.toNat default).Cf) then 1152921504606846976 else IntKind.i64.wrap ((out_.getD (Int.toNat ((zGU (Value.string r0) at_).getD 0)) default).Cf+(t11.getD t13.toNat default).Cf)) (out_.getD (Int.toNat ((zGU (Value.string r0) at_).getD 0)) default).Fs)),())) .d) .d) .d) (.i (decide ((out_.length+[t11.getD t13.toNat default].length)*32<=zbh)) (.h ((),(),t11,t12,(IntKind.i64.wrap (t13+1)),()) ((zbds (Value.string r0) (Int.ofNat out_.length) at_),(out_++[t11.getD t13.toNat default]),())) .d)) .d) (.k out_)
def zzW (x:zmg) (y:zmf):=zNa x.2.2.1 x.2.2.2.1 x.2.2.2.2.1 y.1 y.2.1
def zMh (n:Nat) (t11:yB) (t12:Int) (t13:Int) (at_:List (_root_.Go.Value×Int)) (out_:yB):=zB (zzW) default n ((),(),t11,t12,t13,()) (at_,out_,())
def zLg (r:yB):LTree ty:=.done (.exit 0) [.own 208] [.arr 107 r false]
def zMG:LL ty zmg:=za (lMp 208) (za (zeJ 209) (za (lSl 107) (za zj (za zj zl))))
def zMB:BL ty zmf:=bMp 9 3 false (zeE 107 false (zbb))
def zLs (x:zmg) (y:zmf):Nat:=(x.2.2.1.length+Int.toNat x.2.2.2.1+Int.toNat x.2.2.2.2.1+y.1.length+y.2.1.length+1)
def zzP:=zbX zbD 52 [(104,zhH),(154,zrK),(192,zem)] [(192,[true,false])] [(4,[(3,.keep),(4,.own 107),(11,.keep),(12,.keep),(13,.keep)])] [(4,1,(kpL [4]))] [(4,spW zMG zMB (zzW) default zLg zLs)] []
theorem zLq:zF zzP (lp (body f125) 0):=zn (id:=4) (hl:=rfl)
def zPl (terms:yB):Wy0 (yB):=.bn (zMh (terms.length+(Int.ofNat terms.length).toNat +Int.toNat 0+0+0+1) terms (Int.ofNat terms.length) 0 [] []) λr3=>.bn (zbW r3) λr2=>.k r2
def zqU (terms:yB):=(zPl terms).fin default
def zpX:=zh zVC λx=>((zqU x.1).1,z1m (zqU x.1).2)
theorem zwI:Sound Tryz.prog zbD 125 zpX:=
 sU (cx':=zzP) (zi ⟨zkl.nodr,zAw,zqK.nodr,trivial⟩) call125 func125 (lOK (aC zLq aN)) (sg:=⟨[.own 107],[]⟩)
def zkx (F:yB->Bool×yB):Ab.Spec ty:=zh zSC λx=>((F x.1).1,z1m (F x.1).2)
def zHm (r:At):ARes ty:=⟨[.pure (.agg (base.enc 143 r))],[]⟩
def zkr (F:At->Bool×At):Ab.Spec ty:=zh z36 λx=>((F x.1).1,zHm (F x.1).2)
def zdS:Cx ty:={ base with nt:=8 }
def zhF (s:yC):Bool×yC:=(decide (s.length*128<=zbh),s)
def zjA:Ab.Spec ty:=zh (cx:=base) (zd (zg (vSl 145)) zq) λx=>((zhF x.1).1,⟨[.own 145 (zhF x.1).2],[]⟩)
theorem zud:zdT zdS f132 (body f132) ⟨[.own 145],[]⟩ [.pure (.lit (.slice none 0 0))]=some ⟨[.own 145 []],[]⟩:=by kernel_rfl
theorem zsW (p:Addr) (c:Nat):zdT zdS f132 (body f132) ⟨[.own 145],[]⟩ [.pure (.lit (.slice (some p) 0 c))]=some ⟨[.own 145 []],[]⟩:=by kernel_rfl
theorem ztZ (l:yC):zdT zdS f132 (body f132) ⟨[.own 145],[]⟩ [.pure (.sl 145 l)]=bif !l.isEmpty then bif decide ((([]:List (ty 145)).length+l.length)*128<=zbh) then some ⟨[.own 145 l],[]⟩ else none else none:=by kernel_rfl
theorem zsM:SdP 132 zjA:=
 zuT (cx':=zdS) (bytes:=128) zyG zet ⟨⟨rfl,rfl,rfl,rfl,rfl,rfl⟩,rfl⟩ (λg s h=>by cases h) call132 func132 (c:=body f132) (by kernel_rfl) (zqC (l:=[]) (by kernel_rfl) trivial) zud zsW ztZ (by kernel_rfl)
abbrev znw:=Unit×Unit×Unit×yB×Int×Int×Int×Int×Unit
abbrev znS:=yB×Term×yC×Unit
abbrev zBk:=yB×Int×Int×yB×Term×yC
abbrev znZ:=Unit×yB×Int×Int×Unit
abbrev zns:=yB×Unit
def zLh (zD:At->Bool×At) (t8:yB) (t9:Int) (t10:Int) (t18:Int) (t19:Int) (out_:yB) (t:Term) (factors:yC):Wy znw znS zBk:=.i (decide (t19<t18)) (.i (decide (0<=t19)&&decide (t19<Int.ofNat factors.length)) (.bn (zD (At.mk (factors.getD t19.toNat default).At.Kind (factors.getD t19.toNat default).At.Row (factors.getD t19.toNat default).At.Ag (factors.getD t19.toNat default).At.Func (factors.getD t19.toNat default).At.Items (factors.getD t19.toNat default).At.Op (factors.getD t19.toNat default).At.Bd)) λr2=>.i (decide (0<=t19)&&decide (t19<Int.ofNat factors.length)) (.i (decide (t19.toNat<factors.length)) (.h ((),(),(),t8,t9,t10,t18,(IntKind.i64.wrap (t19+1)),()) (out_,t,(factors.set t19.toNat (FO.mk (At.mk r2.Kind r2.Row r2.Ag r2.Func r2.Items r2.Op r2.Bd) (factors.getD t19.toNat default).Exp)),())) .d) .d) .d) (.k (t8,t9,t10,out_,t,factors))
def zyj (zD:At->Bool×At) (x:znw) (y:znS):=zLh zD x.2.2.2.1 x.2.2.2.2.1 x.2.2.2.2.2.1 x.2.2.2.2.2.2.1 x.2.2.2.2.2.2.2.1 y.1 y.2.1 y.2.2.1
def zLC (zD:At->Bool×At) (n:Nat) (t8:yB) (t9:Int) (t10:Int) (t18:Int) (t19:Int) (out_:yB) (t:Term) (factors:yC):=zB (zyj zD) default n ((),(),(),t8,t9,t10,t18,t19,()) (out_,t,factors,())
def zJf (r:zBk):LTree ty:=.done (.exit 2) [.own 168,.ptr 169 0,.own 170,.sl 107 r.1,.lit (.int .i64 r.2.1),.lit (.int .i64 r.2.2.1)] [.arr 107 r.2.2.2.1 false,.box (base.enc 107 r.2.2.2.2.1) false,.arr 145 r.2.2.2.2.2 false]
def zLz:LL ty znw:=za (zeJ 168) (za (zdd 169 0) (za (zeJ 170) (za (lSl 107) (za zj (za zj (za zj (za zj zl)))))))
def zLX:BL ty znS:=zeE 107 false (zeq (zdO (λx=>(⟨x.1,x.2.1⟩:Term)) (λx=>(x.Cf,x.Fs,())) (λ_=>rfl) (za (zO .i64) (za (lSl 145) zl))) false (zeE 145 false (zbb)))
def zLu (zD:At->Bool×At) (t8:yB) (t9:Int) (t10:Int) (out_:yB):Wy znZ zns (yB):=.i (decide (t10<t9)) (.i (decide (0<=t10)&&decide (t10<Int.ofNat t8.length)) (.bn (zhF (t8.getD t10.toNat default).Fs) λr5=>.bn (zLC zD (t8.length+t9.toNat +t10.toNat +(Int.ofNat r5.length).toNat +Int.toNat 0+out_.length+(t8.getD t10.toNat default).Fs.length+r5.length+1) t8 t9 t10 (Int.ofNat r5.length) 0 out_ (t8.getD t10.toNat default) r5) λr4=>.i (decide ((r4.2.2.2.1.length+[TO.mk r4.2.2.2.2.1.Cf r4.2.2.2.2.2].length)*32<=zbh)) (.h ((),(r4.1),(r4.2.1),(IntKind.i64.wrap (r4.2.2.1+1)),()) ((r4.2.2.2.1++[TO.mk r4.2.2.2.2.1.Cf r4.2.2.2.2.2]),())) .d) .d) (.k out_)
def zyf (zD:At->Bool×At) (x:znZ) (y:zns):=zLu zD x.2.1 x.2.2.1 x.2.2.2.1 y.1
def zL8 (zD:At->Bool×At) (n:Nat) (t8:yB) (t9:Int) (t10:Int) (out_:yB):=zB (zyf zD) default n ((),t8,t9,t10,()) (out_,())
def zJl (r:yB):LTree ty:=.done (.exit 0) [.own 168] [.arr 107 r false]
def zL7:LL ty znZ:=za (zeJ 168) (za (lSl 107) (za zj (za zj zl)))
def zMc:BL ty zns:=zeE 107 false (zbb)
def zJg (x:znw) (y:znS):Nat:=(x.2.2.2.1.length+Int.toNat x.2.2.2.2.1+Int.toNat x.2.2.2.2.2.1+Int.toNat x.2.2.2.2.2.2.1+Int.toNat x.2.2.2.2.2.2.2.1+y.1.length+y.2.1.Fs.length+y.2.2.1.length+1)
def zJE (x:znZ) (y:zns):Nat:=(x.2.1.length+Int.toNat x.2.2.1+Int.toNat x.2.2.2.1+y.1.length+1)
def zrm (zD:At->Bool×At):=zbX base 42 [(132,zjA),(200,(zkr zD))] [] [(3,[(3,.own 107),(8,.keep),(9,.keep),(10,.keep)]),(7,(kpL [3,5,6,8,9,10,18,19]))] [(3,1,(kpL [3])),(7,3,(kpL [3,5,6,8,9,10]))] [(7,spW zLz zLX (zyj zD) default zJf zJg),(3,spW zL7 zMc (zyf zD) default zJl zJE)] []
theorem zJ5 (zD:At->Bool×At):zF (zrm zD) (lp (body f141) 1):=zn (id:=7) (hl:=rfl)
theorem zJD (zD:At->Bool×At):zF (zrm zD) (lp (body f141) 0):=zn (id:=3) (hl:=rfl)
def zMD (zD:At->Bool×At) (a:yB):Wy0 (yB):=.bn (zL8 zD (a.length+(Int.ofNat a.length).toNat +Int.toNat 0+0+1) a (Int.ofNat a.length) 0 []) λr8=>.k r8
def zCz (zD:At->Bool×At) (a:yB):=(zMD zD a).fin default
theorem zG5 (zD:At->Bool×At) (zG1:SdP 200 (zkr zD)):SdP 141 (zkx (zCz zD)):=
 sT (cx':=(zrm zD)) (zi ⟨zsM,zG1,trivial⟩) call141 func141 (lOK (aC (zJD zD) (aC (zJ5 zD) aN))) (sg:=⟨[.own 107],[]⟩)
def zcX:Cx ty:={ base with nt:=8 }
def zeG (s:yA):Bool×yA:=(decide (s.length*24<=zbh),s)
def zha:Ab.Spec ty:=zh (cx:=base) (zd (zg (vSl 51)) zq) λx=>((zeG x.1).1,⟨[.own 51 (zeG x.1).2],[]⟩)
theorem zpG:zdT zcX f133 (body f133) ⟨[.own 51],[]⟩ [.pure (.lit (.slice none 0 0))]=some ⟨[.own 51 []],[]⟩:=by kernel_rfl
theorem zoh (p:Addr) (c:Nat):zdT zcX f133 (body f133) ⟨[.own 51],[]⟩ [.pure (.lit (.slice (some p) 0 c))]=some ⟨[.own 51 []],[]⟩:=by kernel_rfl
theorem zpg (l:yA):zdT zcX f133 (body f133) ⟨[.own 51],[]⟩ [.pure (.sl 51 l)]=bif !l.isEmpty then bif decide ((([]:List (ty 51)).length+l.length)*24<=zbh) then some ⟨[.own 51 l],[]⟩ else none else none:=by kernel_rfl
theorem zoo:SdP 133 zha:=
 zuT (cx':=zcX) (bytes:=24) zyG zet ⟨⟨rfl,rfl,rfl,rfl,rfl,rfl⟩,rfl⟩ (λg s h=>by cases h) call133 func133 (c:=body f133) (by kernel_rfl) (zqC (l:=[]) (by kernel_rfl) trivial) zpG zoh zpg (by kernel_rfl)
def zdq:Cx ty:={ base with nt:=8 }
def zfT (s:yD):Bool×yD:=(decide (s.length*56<=zbh),s)
def ziw:Ab.Spec ty:=zh (cx:=base) (zd (zg (vSl 169)) zq) λx=>((zfT x.1).1,⟨[.own 169 (zfT x.1).2],[]⟩)
theorem zrL:zdT zdq f134 (body f134) ⟨[.own 169],[]⟩ [.pure (.lit (.slice none 0 0))]=some ⟨[.own 169 []],[]⟩:=by kernel_rfl
theorem zrf (p:Addr) (c:Nat):zdT zdq f134 (body f134) ⟨[.own 169],[]⟩ [.pure (.lit (.slice (some p) 0 c))]=some ⟨[.own 169 []],[]⟩:=by kernel_rfl
theorem zrp (l:yD):zdT zdq f134 (body f134) ⟨[.own 169],[]⟩ [.pure (.sl 169 l)]=bif !l.isEmpty then bif decide ((([]:List (ty 169)).length+l.length)*56<=zbh) then some ⟨[.own 169 l],[]⟩ else none else none:=by kernel_rfl
theorem zqR:SdP 134 ziw:=
 zuT (cx':=zdq) (bytes:=56) zyG zet ⟨⟨rfl,rfl,rfl,rfl,rfl,rfl⟩,rfl⟩ (λg s h=>by cases h) call134 func134 (c:=body f134) (by kernel_rfl) (zqC (l:=[]) (by kernel_rfl) trivial) zrL zrf zrp (by kernel_rfl)
abbrev zdf:=Unit×Unit×Int×Int×Unit
abbrev zjy:=(Int×Int×Int×Unit×Int×yD×Int×Int×Int×ByteArray×Unit)×(Int×Int×Int×Unit×Int×Unit×Int×Int×Int×ByteArray×Unit)×yA×Unit
abbrev zwj:=Int×Int×Int×Int×yD×Int×Int×Int×ByteArray×Int×Int×Int×Int×Int×Int×Int×ByteArray×yA
abbrev zjB:=(Int×Int×Int×Unit×Int×Unit×Int×Int×Int×ByteArray×Unit)×(Int×Int×Int×Unit×Int×Unit×Int×Int×Int×ByteArray×Unit)×yA×yD×Unit
abbrev zwZ:=Int×Int×Int×Int×Int×Int×Int×ByteArray×Int×Int×Int×Int×Int×Int×Int×ByteArray×yA×yD
def zFb (zR:yB->Bool×yB) (t11:Int) (t12:Int) (x_0:Int) (x_1:Int) (x_2:Int) (x_3:Int) (x_4:yD) (x_5:Int) (x_6:Int) (x_7:Int) (x_8:ByteArray) (t2_0:Int) (t2_1:Int) (t2_2:Int) (t2_3:Int) (t2_4:Int) (t2_5:Int) (t2_6:Int) (t2_7:ByteArray) (b2:yA):Wy zdf zjy zwj:=.i (decide (t12<t11)) (.i (decide (0<=t12)&&decide (t12<Int.ofNat b2.length)) (.bn (zR (b2.getD t12.toNat default)) λr0=>.i (decide (0<=t12)&&decide (t12<Int.ofNat b2.length)) (.i (decide (t12.toNat<b2.length)) (.h ((),(),t11,(IntKind.i64.wrap (t12+1)),()) ((x_0,x_1,x_2,(),x_3,x_4,x_5,x_6,x_7,x_8,()),(t2_0,t2_1,t2_2,(),t2_3,(),t2_4,t2_5,t2_6,t2_7,()),(b2.set t12.toNat r0),())) .d) .d) .d) (.k (x_0,x_1,x_2,x_3,x_4,x_5,x_6,x_7,x_8,t2_0,t2_1,t2_2,t2_3,t2_4,t2_5,t2_6,t2_7,b2))
def zuP (zR:yB->Bool×yB) (x:zdf) (y:zjy):=zFb zR x.2.2.1 x.2.2.2.1 y.1.1 y.1.2.1 y.1.2.2.1 y.1.2.2.2.2.1 y.1.2.2.2.2.2.1 y.1.2.2.2.2.2.2.1 y.1.2.2.2.2.2.2.2.1 y.1.2.2.2.2.2.2.2.2.1 y.1.2.2.2.2.2.2.2.2.2.1 y.2.1.1 y.2.1.2.1 y.2.1.2.2.1 y.2.1.2.2.2.2.1 y.2.1.2.2.2.2.2.2.1 y.2.1.2.2.2.2.2.2.2.1 y.2.1.2.2.2.2.2.2.2.2.1 y.2.1.2.2.2.2.2.2.2.2.2.1 y.2.2.1
def zFp (zR:yB->Bool×yB) (n:Nat) (t11:Int) (t12:Int) (x_0:Int) (x_1:Int) (x_2:Int) (x_3:Int) (x_4:yD) (x_5:Int) (x_6:Int) (x_7:Int) (x_8:ByteArray) (t2_0:Int) (t2_1:Int) (t2_2:Int) (t2_3:Int) (t2_4:Int) (t2_5:Int) (t2_6:Int) (t2_7:ByteArray) (b2:yA):=zB (zuP zR) default n ((),(),t11,t12,()) ((x_0,x_1,x_2,(),x_3,x_4,x_5,x_6,x_7,x_8,()),(t2_0,t2_1,t2_2,(),t2_3,(),t2_4,t2_5,t2_6,t2_7,()),b2,())
def zEH (r:zwj):LTree ty:=.done (.exit 0) [.ptr 200 0,.ptr 201 0] [.box ([.lit (.int .i64 r.1),.lit (.int .i64 r.2.1),.lit (.int .i64 r.2.2.1),.own 202,.lit (.int .i64 r.2.2.2.1),.sl 169 r.2.2.2.2.1,.lit (.int .i64 r.2.2.2.2.2.1),.lit (.int .i64 r.2.2.2.2.2.2.1),.lit (.int .i64 r.2.2.2.2.2.2.2.1),.lit (.string r.2.2.2.2.2.2.2.2.1)]) false,.box ([.lit (.int .i64 r.2.2.2.2.2.2.2.2.2.1),.lit (.int .i64 r.2.2.2.2.2.2.2.2.2.2.1),.lit (.int .i64 r.2.2.2.2.2.2.2.2.2.2.2.1),.lit (.slice none 0 0),.lit (.int .i64 r.2.2.2.2.2.2.2.2.2.2.2.2.1),.lit (.slice none 0 0),.lit (.int .i64 r.2.2.2.2.2.2.2.2.2.2.2.2.2.1),.lit (.int .i64 r.2.2.2.2.2.2.2.2.2.2.2.2.2.2.1),.lit (.int .i64 r.2.2.2.2.2.2.2.2.2.2.2.2.2.2.2.1),.lit (.string r.2.2.2.2.2.2.2.2.2.2.2.2.2.2.2.2.1)]) false,.arr 51 r.2.2.2.2.2.2.2.2.2.2.2.2.2.2.2.2.2 false]
def zEU:LL ty zdf:=za (zdd 200 0) (za (zdd 201 0) (za zj (za zj zl)))
def zE5:BL ty zjy:=zeq (za (zO .i64) (za (zO .i64) (za (zO .i64) (za (zeJ 202) (za (zO .i64) (za (lSl 169) (za (zO .i64) (za (zO .i64) (za (zO .i64) (za zjj zl)))))))))) false (zeq (za (zO .i64) (za (zO .i64) (za (zO .i64) (za zTX (za (zO .i64) (za zTX (za (zO .i64) (za (zO .i64) (za (zO .i64) (za zjj zl)))))))))) false (zeE 51 false (zbb)))
def zFV (zR:yB->Bool×yB) (t32:Int) (t33:Int) (x_0:Int) (x_1:Int) (x_2:Int) (x_3:Int) (x_4:Int) (x_5:Int) (x_6:Int) (x_7:ByteArray) (t2_0:Int) (t2_1:Int) (t2_2:Int) (t2_3:Int) (t2_4:Int) (t2_5:Int) (t2_6:Int) (t2_7:ByteArray) (b2:yA) (b3:yD):Wy zdf zjB zwZ:=.i (decide (t33<t32)) (.i (decide (0<=t33)&&decide (t33<Int.ofNat b3.length)) (.bn (zR (b3.getD t33.toNat default).Ann) λr2=>.i (decide (0<=t33)&&decide (t33<Int.ofNat b3.length)) (.i (decide (t33.toNat<b3.length)) (.h ((),(),t32,(IntKind.i64.wrap (t33+1)),()) ((x_0,x_1,x_2,(),x_3,(),x_4,x_5,x_6,x_7,()),(t2_0,t2_1,t2_2,(),t2_3,(),t2_4,t2_5,t2_6,t2_7,()),b2,(b3.set t33.toNat (WO.mk (b3.getD t33.toNat default).Value r2)),())) .d) .d) .d) (.k (x_0,x_1,x_2,x_3,x_4,x_5,x_6,x_7,t2_0,t2_1,t2_2,t2_3,t2_4,t2_5,t2_6,t2_7,b2,b3))
def zuv (zR:yB->Bool×yB) (x:zdf) (y:zjB):=zFV zR x.2.2.1 x.2.2.2.1 y.1.1 y.1.2.1 y.1.2.2.1 y.1.2.2.2.2.1 y.1.2.2.2.2.2.2.1 y.1.2.2.2.2.2.2.2.1 y.1.2.2.2.2.2.2.2.2.1 y.1.2.2.2.2.2.2.2.2.2.1 y.2.1.1 y.2.1.2.1 y.2.1.2.2.1 y.2.1.2.2.2.2.1 y.2.1.2.2.2.2.2.2.1 y.2.1.2.2.2.2.2.2.2.1 y.2.1.2.2.2.2.2.2.2.2.1 y.2.1.2.2.2.2.2.2.2.2.2.1 y.2.2.1 y.2.2.2.1
def zFr (zR:yB->Bool×yB) (n:Nat) (t32:Int) (t33:Int) (x_0:Int) (x_1:Int) (x_2:Int) (x_3:Int) (x_4:Int) (x_5:Int) (x_6:Int) (x_7:ByteArray) (t2_0:Int) (t2_1:Int) (t2_2:Int) (t2_3:Int) (t2_4:Int) (t2_5:Int) (t2_6:Int) (t2_7:ByteArray) (b2:yA) (b3:yD):=zB (zuv zR) default n ((),(),t32,t33,()) ((x_0,x_1,x_2,(),x_3,(),x_4,x_5,x_6,x_7,()),(t2_0,t2_1,t2_2,(),t2_3,(),t2_4,t2_5,t2_6,t2_7,()),b2,b3,())
def zD6 (r:zwZ):LTree ty:=.done (.exit 2) [.ptr 200 0,.ptr 201 0] [.box ([.lit (.int .i64 r.1),.lit (.int .i64 r.2.1),.lit (.int .i64 r.2.2.1),.own 202,.lit (.int .i64 r.2.2.2.1),.own 203,.lit (.int .i64 r.2.2.2.2.1),.lit (.int .i64 r.2.2.2.2.2.1),.lit (.int .i64 r.2.2.2.2.2.2.1),.lit (.string r.2.2.2.2.2.2.2.1)]) false,.box ([.lit (.int .i64 r.2.2.2.2.2.2.2.2.1),.lit (.int .i64 r.2.2.2.2.2.2.2.2.2.1),.lit (.int .i64 r.2.2.2.2.2.2.2.2.2.2.1),.lit (.slice none 0 0),.lit (.int .i64 r.2.2.2.2.2.2.2.2.2.2.2.1),.lit (.slice none 0 0),.lit (.int .i64 r.2.2.2.2.2.2.2.2.2.2.2.2.1),.lit (.int .i64 r.2.2.2.2.2.2.2.2.2.2.2.2.2.1),.lit (.int .i64 r.2.2.2.2.2.2.2.2.2.2.2.2.2.2.1),.lit (.string r.2.2.2.2.2.2.2.2.2.2.2.2.2.2.2.1)]) false,.arr 51 r.2.2.2.2.2.2.2.2.2.2.2.2.2.2.2.2.1 false,.arr 169 r.2.2.2.2.2.2.2.2.2.2.2.2.2.2.2.2.2 false]
def zE3:BL ty zjB:=zeq (za (zO .i64) (za (zO .i64) (za (zO .i64) (za (zeJ 202) (za (zO .i64) (za (zeJ 203) (za (zO .i64) (za (zO .i64) (za (zO .i64) (za zjj zl)))))))))) false (zeq (za (zO .i64) (za (zO .i64) (za (zO .i64) (za zTX (za (zO .i64) (za zTX (za (zO .i64) (za (zO .i64) (za (zO .i64) (za zjj zl)))))))))) false (zeE 51 false (zeE 169 false (zbb))))
def zEw (x:zdf) (y:zjy):Nat:=(Int.toNat x.2.2.1+Int.toNat x.2.2.2.1+Int.toNat y.1.1+Int.toNat y.1.2.1+Int.toNat y.1.2.2.1+Int.toNat y.1.2.2.2.2.1+y.1.2.2.2.2.2.1.length+Int.toNat y.1.2.2.2.2.2.2.1+Int.toNat y.1.2.2.2.2.2.2.2.1+Int.toNat y.1.2.2.2.2.2.2.2.2.1+y.1.2.2.2.2.2.2.2.2.2.1.size+Int.toNat y.2.1.1+Int.toNat y.2.1.2.1+Int.toNat y.2.1.2.2.1+Int.toNat y.2.1.2.2.2.2.1+Int.toNat y.2.1.2.2.2.2.2.2.1+Int.toNat y.2.1.2.2.2.2.2.2.2.1+Int.toNat y.2.1.2.2.2.2.2.2.2.2.1+y.2.1.2.2.2.2.2.2.2.2.2.1.size+y.2.2.1.length+1)
def zDZ (x:zdf) (y:zjB):Nat:=(Int.toNat x.2.2.1+Int.toNat x.2.2.2.1+Int.toNat y.1.1+Int.toNat y.1.2.1+Int.toNat y.1.2.2.1+Int.toNat y.1.2.2.2.2.1+Int.toNat y.1.2.2.2.2.2.2.1+Int.toNat y.1.2.2.2.2.2.2.2.1+Int.toNat y.1.2.2.2.2.2.2.2.2.1+y.1.2.2.2.2.2.2.2.2.2.1.size+Int.toNat y.2.1.1+Int.toNat y.2.1.2.1+Int.toNat y.2.1.2.2.1+Int.toNat y.2.1.2.2.2.2.1+Int.toNat y.2.1.2.2.2.2.2.2.1+Int.toNat y.2.1.2.2.2.2.2.2.2.1+Int.toNat y.2.1.2.2.2.2.2.2.2.2.1+y.2.1.2.2.2.2.2.2.2.2.2.1.size+y.2.2.1.length+y.2.2.2.1.length+1)
def zmO (zR:yB->Bool×yB):=zbX base 50 [(133,zha),(134,ziw),(141,(zkx zR))] [] [(3,(kpL [1,2,11,12])),(9,(kpL [1,2,32,33]))] [(3,1,(kpL [1,2])),(9,3,(kpL [1,2]))] [(3,spW zEU zE5 (zuP zR) default zEH zEw),(9,spW zEU zE3 (zuv zR) default zD6 zDZ)] []
theorem zEp (zR:yB->Bool×yB):zF (zmO zR) (lp (body f200) 0):=zn (id:=3) (hl:=rfl)
theorem zDO (zR:yB->Bool×yB):zF (zmO zR) (lp (body f200) 1):=zn (id:=9) (hl:=rfl)
def zGJ (zR:yB->Bool×yB) (x_:At):Wy0 (At):=.bn (zeG x_.Ag) λr7=>.bn (zFp zR ((Int.ofNat r7.length).toNat +Int.toNat 0+x_.Kind.toNat +x_.Row.Table.toNat +x_.Row.Seq.toNat +x_.Func.toNat +x_.Items.length+x_.Op.toNat +x_.Bd.Kind.toNat +x_.Bd.Int.toNat +x_.Bd.Text.size+Int.toNat 0+Int.toNat 0+Int.toNat 0+Int.toNat 0+Int.toNat 0+Int.toNat 0+Int.toNat 0+(ByteArray.mk #[]).size+r7.length+1) (Int.ofNat r7.length) 0 x_.Kind x_.Row.Table x_.Row.Seq x_.Func x_.Items x_.Op x_.Bd.Kind x_.Bd.Int x_.Bd.Text 0 0 0 0 0 0 0 (ByteArray.mk #[]) r7) λr6=>.bn (zfT r6.2.2.2.2.1) λr5=>.bn (zFr zR ((Int.ofNat r5.length).toNat +Int.toNat 0+r6.1.toNat +r6.2.1.toNat +r6.2.2.1.toNat +r6.2.2.2.1.toNat +r6.2.2.2.2.2.1.toNat +r6.2.2.2.2.2.2.1.toNat +r6.2.2.2.2.2.2.2.1.toNat +r6.2.2.2.2.2.2.2.2.1.size+r6.2.2.2.2.2.2.2.2.2.1.toNat +r6.2.2.2.2.2.2.2.2.2.2.1.toNat +r6.2.2.2.2.2.2.2.2.2.2.2.1.toNat +r6.2.2.2.2.2.2.2.2.2.2.2.2.1.toNat +r6.2.2.2.2.2.2.2.2.2.2.2.2.2.1.toNat +r6.2.2.2.2.2.2.2.2.2.2.2.2.2.2.1.toNat +r6.2.2.2.2.2.2.2.2.2.2.2.2.2.2.2.1.toNat +r6.2.2.2.2.2.2.2.2.2.2.2.2.2.2.2.2.1.size+r6.2.2.2.2.2.2.2.2.2.2.2.2.2.2.2.2.2.length+r5.length+1) (Int.ofNat r5.length) 0 r6.1 r6.2.1 r6.2.2.1 r6.2.2.2.1 r6.2.2.2.2.2.1 r6.2.2.2.2.2.2.1 r6.2.2.2.2.2.2.2.1 r6.2.2.2.2.2.2.2.2.1 r6.2.2.2.2.2.2.2.2.2.1 r6.2.2.2.2.2.2.2.2.2.2.1 r6.2.2.2.2.2.2.2.2.2.2.2.1 r6.2.2.2.2.2.2.2.2.2.2.2.2.1 r6.2.2.2.2.2.2.2.2.2.2.2.2.2.1 r6.2.2.2.2.2.2.2.2.2.2.2.2.2.2.1 r6.2.2.2.2.2.2.2.2.2.2.2.2.2.2.2.1 r6.2.2.2.2.2.2.2.2.2.2.2.2.2.2.2.2.1 r6.2.2.2.2.2.2.2.2.2.2.2.2.2.2.2.2.2 r5) λr4=>.k (⟨r4.1,(⟨r4.2.1,r4.2.2.1⟩:RowID),r4.2.2.2.2.2.2.2.2.2.2.2.2.2.2.2.2.1,r4.2.2.2.1,r4.2.2.2.2.2.2.2.2.2.2.2.2.2.2.2.2.2,r4.2.2.2.2.1,(⟨r4.2.2.2.2.2.1,r4.2.2.2.2.2.2.1,r4.2.2.2.2.2.2.2.1⟩:Value)⟩:At)
def zxt (zR:yB->Bool×yB) (x_:At):=(zGJ zR x_).fin default
theorem zB0 (zR:yB->Bool×yB) (zMj:SdP 141 (zkx zR)):SdP 200 (zkr (zxt zR)):=
 sT (cx':=(zmO zR)) (zi ⟨zoo,zqR,zMj,trivial⟩) call200 func200 (lOK (aC (zEp zR) (aC (zDO zR) aN)))
def zG9:Nat->(yB->Bool×yB)×(At->Bool×At)
 | 0=>(λ_=>(false,default),λ_=>(false,default))
 | n+1=>(zCz ((zG9 n).2),zxt ((zG9 n).1))
def zCB (n:Nat):yB->Bool×yB:=(zG9 n).1
def zJs (n:Nat):At->Bool×At:=(zG9 n).2
theorem zT7:∀ n,SdP 141 (zkx (zCB n))/\SdP 200 (zkr (zJs n))
 | 0=>⟨z8 call141 (λ_=>rfl),z8 call200 (λ_=>rfl)⟩
 | n+1=>by
  have ih:=zT7 n;exact ⟨zG5 _ (ih.2),zB0 _ (ih.1)⟩
def zh5:yB->Bool×yB:=zCB 1000
def zf0:Ab.Spec ty:=zkx zh5
theorem zhR:SdP 141 zf0:=(zT7 1000).1
def zMS:=zbu base 9 [(103,zrx),(141,zf0)]
def zPr (a:yB):Wy0 (yB×Int):=.bn (zj2 a) λr1=>.i (!r1) (.k ([],6)) (.bn (zh5 a) λr0=>.k (r0,0))
def zfi (a:yB):=(zPr a).fin default
def zLa (r:yB×Int):ARes ty:=⟨[.own 107 r.1,.pure (.lit (.int .i64 r.2))],[]⟩
def zd1:=zh zSC λx=>((zfi x.1).1,zLa (zfi x.1).2)
theorem ze0:SdP 124 zd1:=
 sT (cx':=zMS) (zi ⟨zxE,zhR,trivial⟩) call124 func124 (lOK aN) (sg:=⟨[.own 107,.pure],[]⟩)
def zu8:=zbu base 27 []
def zv4 (n_:Int):Wy0 (yB):=.i (decide (n_<0)) .d (.i (decide (IntKind.i64.wrap (n_ - IntKind.i64.wrap (0 - 0))>0)) (.i (decide (0<IntKind.i64.wrap (n_ - IntKind.i64.wrap (0 - 0)))&&(decide (IntKind.i64.wrap (n_ - IntKind.i64.wrap (0 - 0))*Int.ofNat 32<=Int.ofNat zbh)&&(decide (IntKind.i64.wrap (n_ - IntKind.i64.wrap (0 - 0))<=Int.ofNat zbh)&& !Nat.beq 2 0))) (.k (List.take (Int.toNat 0 - Int.toNat 0) (List.replicate (IntKind.i64.wrap (n_ - IntKind.i64.wrap (0 - 0))).toNat (TO.mk 0 [])))) .d) (.k []))
def zhy (n_:Int):=(zv4 n_).fin default
def zv0:AL base (Unit×Int×Unit):=zd (zg zbaE) (zd (zg zgm) zq)
def zjF:=zh zv0 λx=>((zhy x.2.1).1,z1m (zhy x.2.1).2)
theorem zsO:SdP 193 zjF:=
 sT (cx':=zu8) (zi trivial) call193 func193 (lOK aN) (sg:=⟨[.own 107],[]⟩)
abbrev zei:=yA×Int×yA×Int×Int×Unit
abbrev zlM:=yA×Int
abbrev zeg:=Unit×yA×Int×Int×Unit
abbrev zea:=yB×Unit
def zt6 (slices:yA) (size:Int) (t9:yA) (t10:Int) (t11:Int):Wy zei Unit zlM:=.i (decide (t11<t10)) (.i (decide (0<=t11)&&decide (t11<Int.ofNat t9.length)) (.i (decide (IntKind.i64.wrap (size+Int.ofNat (List.length (t9.getD t11.toNat default)))<0)) .d (.h (slices,(IntKind.i64.wrap (size+Int.ofNat (List.length (t9.getD t11.toNat default)))),t9,t10,(IntKind.i64.wrap (t11+1)),()) ())) .d) (.k (slices,size))
def zjZ (x:zei) (y:Unit):=zt6 x.1 x.2.1 x.2.2.1 x.2.2.2.1 x.2.2.2.2.1
def ztR (n:Nat) (slices:yA) (size:Int) (t9:yA) (t10:Int) (t11:Int):=zB (zjZ) default n (slices,size,t9,t10,t11,()) ()
def zsN (r:zlM):LTree ty:=.done (.exit 0) [.sl 51 r.1,.lit (.int .i64 r.2)] []
def ztB:LL ty zei:=za (lSl 51) (za zj (za (lSl 51) (za zj (za zj zl))))
def zsP (t25:yA) (t26:Int) (t27:Int) (newslice:yB):Wy zeg zea (yB):=.i (decide (t27<t26)) (.i (decide (0<=t27)&&decide (t27<Int.ofNat t25.length)) (.i (decide ((newslice.length+List.length (t25.getD t27.toNat default))*32<=zbh)) (.h ((),t25,t26,(IntKind.i64.wrap (t27+1)),()) ((newslice++t25.getD t27.toNat default),())) .d) .d) (.k newslice)
def zjk (x:zeg) (y:zea):=zsP x.2.1 x.2.2.1 x.2.2.2.1 y.1
def zsY (n:Nat) (t25:yA) (t26:Int) (t27:Int) (newslice:yB):=zB (zjk) default n ((),t25,t26,t27,()) (newslice,())
def zse (r:yB):LTree ty:=.done (.exit 2) [.own 144] [.arr 107 r false]
def zsX:LL ty zeg:=za (zeJ 144) (za (lSl 51) (za zj (za zj zl)))
def zs1:BL ty zea:=zeE 107 false (zbb)
def zsV (x:zei) (y:Unit):Nat:=(x.1.length+Int.toNat x.2.1+x.2.2.1.length+Int.toNat x.2.2.2.1+Int.toNat x.2.2.2.2.1+1)
def zso (x:zeg) (y:zea):Nat:=(x.2.1.length+Int.toNat x.2.2.1+Int.toNat x.2.2.2.1+y.1.length+1)
def zfC:=zbX base 36 [(193,zjF)] [] [(3,(kpL [0,3,9,10,11])),(11,(kpL [6,25,26,27]))] [(3,1,(kpL [0,3])),(11,3,(kpL [6]))] [(3,spW ztB z3q (zjZ) default zsN zsV),(11,spW zsX zs1 (zjk) default zse zso)] [193]
theorem zs0:zF zfC (lp (body f126) 0):=zn (id:=3) (hl:=rfl)
theorem zsm:zF zfC (lp (body f126) 1):=zn (id:=11) (hl:=rfl)
def zuh (slices:yA):Wy0 (yB):=.bn (ztR (slices.length+Int.toNat 0+slices.length+(Int.ofNat slices.length).toNat +Int.toNat 0+1) slices 0 slices (Int.ofNat slices.length) 0) λr2=>.bn (zhy r2.2) λr1=>.bn (zsY (r2.1.length+(Int.ofNat r2.1.length).toNat +Int.toNat 0+r1.length+1) r2.1 (Int.ofNat r2.1.length) 0 r1) λr0=>.k r0
def zgB (slices:yA):=(zuh slices).fin default
def zuR:AL base (yA×Unit):=zd (zg (vSl 51)) zq
def ziU:=zh zuR λx=>((zgB x.1).1,z1m (zgB x.1).2)
theorem zrM:SdP 126 ziU:=
 sT (cx':=zfC) (zi ⟨zsO,trivial⟩) call126 func126 (lOK (aC zs0 (aC zsm aN))) (sg:=⟨[.own 107],[]⟩)
def zVZ:=zbu zbD 22 [(52,zcl),(124,zd1),(125,zpX),(126,ziU)]
def zXC (a:yB) (b:yB):Wy0 (yB×Int):=.bn (zb7 a) λr4=>.i (!r4) (.k ([],1)) (.bn (zb7 b) λr3=>.i (!r3) (.k ([],1)) (.bn (zgB [a,b]) λr2=>.bn (zqU r2) λr1=>.bn (zfi r1) λr0=>.k (r0.1,r0.2)))
def zw9 (a:yB) (b:yB):=(zXC a b).fin default
def zXo:AL zbD (yB×yB×Unit):=zd (zg (vSl 107)) (zd (zg (vSl 107)) zq)
def zvk:=zh zXo λx=>((zw9 x.1 x.2.1).1,zLa (zw9 x.1 x.2.1).2)
theorem zBd:Sound Tryz.prog zbD 72 zvk:=
 sU (cx':=zVZ) (zi ⟨zco.nodr,ze0.nodr,zwI,zrM.nodr,trivial⟩) call72 func72 (lOK aN) (sg:=⟨[.own 107,.pure],[]⟩)
def zIl:=zbu base 7 []
def zJh (x_:Row):Wy0 (Bool):=.k (Int.ofNat x_.Ann.length==0)
def zmh (x_:Row):=(zJh x_).fin default
def zJM:AL base (Row×Unit):=zd (zg (zcb 54)) zq
def ziC:=zh zJM λx=>((zmh x.1).1,zQK (zmh x.1).2)
theorem zlz:SdP 69 ziC:=
 sT (cx':=zIl) (zi trivial) call69 func69 (lOK aN)
def zOk:AL zbD (yB×((yE×Unit)×Unit)×Unit):=zd (zg (vSl 107)) (zd (zg (vFn 138 (zw5 (z0N (zw5 (vSl 65) zcR)) zcR))) zq)
def zjq (F:yB->yE->Bool×(yB×Int)):Ab.Spec ty:=zh zOk λx=>((F x.1 x.2.1.1.1).1,zLa (F x.1 x.2.1.1.1).2)
def zH6:AL zbD (At×((yE×Unit)×Unit)×Unit):=zd (zg (zcb 143)) (zd (zg (vFn 138 (zw5 (z0N (zw5 (vSl 65) zcR)) zcR))) zq)
def zjO (F:At->yE->Bool×(yB×Int)):Ab.Spec ty:=zh zH6 λx=>((F x.1 x.2.1.1.1).1,zLa (F x.1 x.2.1.1.1).2)
end Go.Proofs.YtoknknbmfmddbaaGreatDoor
end
