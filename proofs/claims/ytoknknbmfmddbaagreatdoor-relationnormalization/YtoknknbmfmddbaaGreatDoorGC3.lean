/- Texts of this claim, joined (the program, its functions in plain words, and what they compute). -/
import Derived.WalkKit
import Derived.WalkSpells
import Derived.Test.YtoknknbmfmddbaaGreatDoorGC2
set_option autoImplicit false
set_option linter.unusedVariables false
set_option linter.unusedSectionVars false
set_option linter.unusedSimpArgs false
set_option maxRecDepth 1000000
set_option maxHeartbeats 0
noncomputable section
namespace Go.Proofs.YtoknknbmfmddbaaGreatDoor
open Go Go.Ab
open Go.Proofs.Tryz
abbrev zdz:=yD×Unit×Int×Int×Unit
def zoP (zg:Wd->Bool×Bool) (s:yD) (t7:Int) (t8:Int):Wy zdz Unit (Int⊕Unit):=.i (decide (t8<t7)) (.i (decide (0<=t8)&&decide (t8<Int.ofNat s.length)) (.bn (zg (s.getD t8.toNat default)) λr0=>.i (r0) (.k (.inl t8)) (.h (s,(),t7,(IntKind.i64.wrap (t8+1)),()) ())) .d) (.k (.inr ()))
def zgZ (zg:Wd->Bool×Bool) (x:zdz) (y:Unit):=zoP zg x.1 x.2.2.1 x.2.2.2.1
def zoG (zg:Wd->Bool×Bool) (n:Nat) (s:yD) (t7:Int) (t8:Int):=zB (zgZ zg) (.inl default) n (s,(),t7,t8,()) ()
def zoN:LL ty zdz:=za (lSl 169) (za (lFn 179 (zl)) (za zj (za zj zl)))
def zoq (x:zdz) (y:Unit):Nat:=(x.1.length+Int.toNat x.2.2.1+Int.toNat x.2.2.2.1+1)
def zgX (zg:Wd->Bool×Bool):=zbZ base 19 [(179,(zdn zg))] [] [(2,(kpL [0,1,7,8]))] [(2,1,[]),(2,0,(kpL [4]))] [(2,spW zoN z6k (zgZ zg) (.inl default) zr4 zoq)] []
theorem zof (zg:Wd->Bool×Bool):zI (zgX zg) (lp (body f228) 0):=zo (id:=2) (hl:=rfl)
def zpO (zg:Wd->Bool×Bool) (s:yD):Wy0 (Int):=.bn (zoG zg (s.length+(Int.ofNat s.length).toNat +Int.toNat 0+1) s (Int.ofNat s.length) 0) λr2=>.i (isL r2) (.k (getL r2)) (.k (-1:Int))
def zcY (zg:Wd->Bool×Bool) (s:yD):=(zpO zg s).fin default
theorem zmV (zg:Wd->Bool×Bool) (zfY:SdP 179 (zdn zg)):SdP 228 (zc0 (zcY zg)):=
 sT (cx':=(zgX zg)) (zi ⟨zfY,trivial⟩) call228 func228 (lOK (aC (zof zg) aN))
def zem:Nat->(yB->Bool×Bool)×(At->Bool×Bool)×(yB->Bool×Bool)×(Wd->Bool×Bool)×(yA->Bool×Int)×(yA->Bool×Bool)×(yD->Bool×Int)×(yD->Bool×Bool)
 | 0=>(λ_=>(false,default),λ_=>(false,default),λ_=>(false,default),λ_=>(false,default),λ_=>(false,default),λ_=>(false,default),λ_=>(false,default),λ_=>(false,default))
 | n+1=>(znu ((zem n).2.1),zjC ((zem n).2.2.2.2.2.1) ((zem n).2.2.1) ((zem n).2.2.2.2.2.2.2) ((zem n).2.2.2.1),zkp ((zem n).1),zkm ((zem n).1),zcC ((zem n).2.2.1),zcm ((zem n).2.2.1) ((zem n).2.2.2.2.1),zcY ((zem n).2.2.2.1),zcJ ((zem n).2.2.2.1) ((zem n).2.2.2.2.2.2.1))
def zj1 (n:Nat):yB->Bool×Bool:=(zem n).1
def zmG (n:Nat):At->Bool×Bool:=(zem n).2.1
def ze8 (n:Nat):yB->Bool×Bool:=(zem n).2.2.1
def ze9 (n:Nat):Wd->Bool×Bool:=(zem n).2.2.2.1
def zcF (n:Nat):yA->Bool×Int:=(zem n).2.2.2.2.1
def zcj (n:Nat):yA->Bool×Bool:=(zem n).2.2.2.2.2.1
def zcU (n:Nat):yD->Bool×Int:=(zem n).2.2.2.2.2.2.1
def zcG (n:Nat):yD->Bool×Bool:=(zem n).2.2.2.2.2.2.2
theorem zPn (n:Nat):zj1 (n+1)=znu (zmG n):=rfl
theorem zJs (n:Nat):zmG (n+1)=zjC (zcj n) (ze8 n) (zcG n) (ze9 n):=rfl
theorem zFp (n:Nat):ze8 (n+1)=zkp (zj1 n):=rfl
theorem zFv (n:Nat):ze9 (n+1)=zkm (zj1 n):=rfl
theorem zmJ (n:Nat):zcF (n+1)=zcC (ze8 n):=rfl
theorem zlK (n:Nat):zcj (n+1)=zcm (ze8 n) (zcF n):=rfl
theorem zo3 (n:Nat):zcU (n+1)=zcY (ze9 n):=rfl
theorem zng (n:Nat):zcG (n+1)=zcJ (ze9 n) (zcU n):=rfl
theorem zZp:∀ n,SdP 52 (zhW (zj1 n))/\SdP 107 (zmS (zmG n))/\SdP 174 (zhW (ze8 n))/\SdP 179 (zdn (ze9 n))/\SdP 226 (zcE (zcF n))/\SdP 173 (zcl (zcj n))/\SdP 228 (zc0 (zcU n))/\SdP 178 (zcH (zcG n))
 | 0=>⟨zbk call52 (λ_=>rfl),zbk call107 (λ_=>rfl),zbk call174 (λ_=>rfl),zbk call179 (λ_=>rfl),zbk call226 (λ_=>rfl),zbk call173 (λ_=>rfl),zbk call228 (λ_=>rfl),zbk call178 (λ_=>rfl)⟩
 | n+1=>by
  have ih:=zZp n;exact ⟨zKh _ (ih.2.1),zFP _ _ _ _ (ih.2.2.2.2.2.1) (ih.2.2.1) (ih.2.2.2.2.2.2.2) (ih.2.2.2.1),zCI _ (ih.1),zCQ _ (ih.1),zlJ _ (ih.2.2.1),zkC _ _ (ih.2.2.1) (ih.2.2.2.2.1),zmV _ (ih.2.2.2.1),zl0 _ _ (ih.2.2.2.1) (ih.2.2.2.2.2.2.1)⟩
def zb9:yB->Bool×Bool:=zj1 1000
def zcn:Ab.Spec ty:=zhW zb9
theorem zcx:SdP 52 zcn:=(zZp 1000).1
def zT4 (r:ByteArray):ARes ty:=⟨[.pure (.lit (.string r))],[]⟩
def zYS:AL zbt (yB×Unit):=zd (ze (vSl 107)) zr
def zoZ (F:yB->Bool×ByteArray):Ab.Spec ty:=zh zYS λx=>((F x.1).1,zT4 (F x.1).2)
def zMq:AL zbt (At×Unit):=zd (ze (zbX 143)) zr
def zlW (F:At->Bool×ByteArray):Ab.Spec ty:=zh zMq λx=>((F x.1).1,zT4 (F x.1).2)
def zHK:AL zbt (yC×Unit):=zd (ze (vSl 145)) zr
def zgt (F:yC->Bool×ByteArray):Ab.Spec ty:=zh zHK λx=>((F x.1).1,zT4 (F x.1).2)
def zMp:=zbv base 2 []
def zN0:Wy0 (List ByteArray):=.k [ByteArray.mk #[(67:UInt8),(79:UInt8),(85:UInt8),(78:UInt8),(84:UInt8)],ByteArray.mk #[(83:UInt8),(85:UInt8),(77:UInt8)],ByteArray.mk #[(77:UInt8),(73:UInt8),(78:UInt8)],ByteArray.mk #[(77:UInt8),(65:UInt8),(88:UInt8)]]
def zb4:Bool×List ByteArray:=(zN0).fin default
def zKa (r:List ByteArray):ARes ty:=⟨[.own 9 r],[]⟩
def zx7:=zh z4C λx=>((zb4 ).1,zKa (zb4 ).2)
theorem zHy:SdP 265 zx7:=
 sT (cx':=zMp) (zi trivial) call265 func265 (lOK aN) (sg:=⟨[.own 9],[]⟩)
def zL2:=zbv base 2 []
def zNU:Wy0 (List ByteArray):=.k [ByteArray.mk #[(61:UInt8)],ByteArray.mk #[(60:UInt8),(62:UInt8)],ByteArray.mk #[(60:UInt8)],ByteArray.mk #[(60:UInt8),(61:UInt8)],ByteArray.mk #[(62:UInt8)],ByteArray.mk #[(62:UInt8),(61:UInt8)]]
def zdA:Bool×List ByteArray:=(zNU).fin default
def zx0:=zh z4C λx=>((zdA ).1,zKa (zdA ).2)
theorem zId:SdP 266 zx0:=
 sT (cx':=zL2) (zi trivial) call266 func266 (lOK aN) (sg:=⟨[.own 9],[]⟩)
def strings_Join (l:List ByteArray) (sep:ByteArray):Bool×ByteArray:=zXH l sep
def zo8:Ab.Spec ty:=zh (cx:=zbt) (zd (ze (vSl 9)) (zd (ze zxA) zr)) λx=>((strings_Join x.1 x.2.1).1,⟨[.pure (.lit (.string (strings_Join x.1 x.2.1).2))],[]⟩)
theorem zsK:Sound Tryz.prog zbt 44 zo8:=zbbj (T:=9) zSI rfl Go.Proofs.Tryz.lays156 Go.Proofs.Tryz.Builder_Extra_156 call44 (λs:ByteArray=>s) (λ_=>rfl) strings_Join (λl sep=>congrArg (λl=>zXH l sep) (List.map_id' (α:=ByteArray) l).symm)
def strconv_Itoa (x:Int):Bool×ByteArray:=zRZ x
def zAr:Ab.Spec ty:=zh (cx:=base) (zd (ze (zgu .i64)) zr) λx=>((strconv_Itoa x.1).1,⟨[.pure (.lit (.string (strconv_Itoa x.1).2))],[]⟩)
theorem zHf:SdP 216 zAr:=zbbH ze3 Go.Proofs.Tryz.laysM171 call216 (λ_ h=>h.1)
def z0V:=zbv base 15 [(116,zt6),(216,zAr)]
def zM2 (id:RowID):Wy0 (ByteArray):=.bn (zqw id) λr2=>.i (!r2) (.k (ByteArray.mk #[])) (.bn (strconv_Itoa id.Table) λr1=>.i (decide ((ByteArray.mk #[(116:UInt8)]).size+r1.size<=9223372036854775807)) (.i (decide ((ByteArray.mk #[(116:UInt8)]++r1).size+(ByteArray.mk #[(46:UInt8)]).size<=9223372036854775807)) (.bn (strconv_Itoa id.Seq) λr0=>.i (decide ((ByteArray.mk #[(116:UInt8)]++r1++ByteArray.mk #[(46:UInt8)]).size+r0.size<=9223372036854775807)) (.k (ByteArray.mk #[(116:UInt8)]++r1++ByteArray.mk #[(46:UInt8)]++r0)) .d) .d) .d)
def zwH (id:RowID):=(zM2 id).fin default
def zGy:=zh z95 λx=>((zwH x.1).1,zT4 (zwH x.1).2)
theorem zTJ:SdP 264 zGy:=
 sT (cx':=z0V) (zi ⟨zyV,zHf,trivial⟩) call264 func264 (lOK aN)
def ziX (m b:Int):Bool×ByteArray:=zv4 m b
def ztB:Ab.Spec ty:=zh (cx:=base) (zd (ze (zgu .i64)) (zd (ze (zgu .i64)) zr)) λx=>((ziX x.1 x.2.1).1,⟨[.pure (.lit (.string (ziX x.1 x.2.1).2))],[]⟩)
theorem zzH:SdP 92 ztB:=z1i ze3 Go.Proofs.Tryz.laysM173 call92 (λ_ h=>h.1)
def strings_ReplaceAll (s p q:ByteArray):Bool×ByteArray:=zp3 s p q
def zzY:Ab.Spec ty:=zh (cx:=zbt) (zd (ze zxA) (zd (ze zxA) (zd (ze zxA) zr))) λx=>((strings_ReplaceAll x.1 x.2.1 x.2.2.1).1,⟨[.pure (.lit (.string (strings_ReplaceAll x.1 x.2.1 x.2.2.1).2))],[]⟩)
theorem zKu:Sound Tryz.prog zbt 93 zzY:=z0E zSI rfl Go.Proofs.Tryz.lays155 Go.Proofs.Tryz.Builder_Extra_155 call93 (λ_ h=>h.2)
def z1h:=zbv zbt 27 [(91,zqS),(92,ztB),(93,zzY)]
def zQw (v:Value):Wy0 (ByteArray):=.bn (zpX v) λr2=>.i (!r2) (.k (ByteArray.mk #[])) (.i (v.Kind==0) (.bn (ziX v.Int 10) λr0=>.k r0) (.i (v.Kind==1) (.bn (strings_ReplaceAll v.Text (ByteArray.mk #[(39:UInt8)]) (ByteArray.mk #[(39:UInt8),(39:UInt8)])) λr1=>.i (decide ((ByteArray.mk #[(39:UInt8)]).size+r1.size<=9223372036854775807)) (.i (decide ((ByteArray.mk #[(39:UInt8)]++r1).size+(ByteArray.mk #[(39:UInt8)]).size<=9223372036854775807)) (.k (ByteArray.mk #[(39:UInt8)]++r1++ByteArray.mk #[(39:UInt8)])) .d) .d) (.i (v.Int==1) (.k (ByteArray.mk #[(84:UInt8),(82:UInt8),(85:UInt8),(69:UInt8)])) (.k (ByteArray.mk #[(70:UInt8),(65:UInt8),(76:UInt8),(83:UInt8),(69:UInt8)])))))
def zrf (v:Value):=(zQw v).fin default
def z3n:AL zbt (Value×Unit):=zd (ze (zbX 79)) zr
def zAn:=zh z3n λx=>((zrf x.1).1,zT4 (zrf x.1).2)
theorem zGz:Sound Tryz.prog zbt 45 zAn:=
 sU (cx':=z1h) (zi ⟨zt1.nodr,zzH.nodr,zKu,trivial⟩) call45 func45 (lOK aN)
abbrev zlo:=Unit×Unit×yD×Int×Int×Unit
abbrev zk2:=At×List ByteArray×Unit
abbrev zyl:=At×List ByteArray
def zf1 (zbp:yB->Bool×ByteArray) (t48:yD) (t49:Int) (t50:Int) (x_:At) (items:List ByteArray):Wy zlo zk2 zyl:=.i (decide (t50<t49)) (.i (decide (0<=t50)&&decide (t50<Int.ofNat t48.length)) (.bn (zrf (t48.getD t50.toNat default).Value) λr1=>.i (decide (r1.size+(ByteArray.mk #[(58:UInt8),(32:UInt8)]).size<=9223372036854775807)) (.bn (zbp (t48.getD t50.toNat default).Ann) λr0=>.i (decide ((r1++ByteArray.mk #[(58:UInt8),(32:UInt8)]).size+r0.size<=9223372036854775807)) (.i (decide ((items.length+[r1++ByteArray.mk #[(58:UInt8),(32:UInt8)]++r0].length)*16<=zA)) (.h ((),(),t48,t49,(IntKind.i64.wrap (t50+1)),()) (x_,(items++[r1++ByteArray.mk #[(58:UInt8),(32:UInt8)]++r0]),())) .d) .d) .d) .d) (.k (x_,items))
def znc (zbp:yB->Bool×ByteArray) (x:zlo) (y:zk2):=zf1 zbp x.2.2.1 x.2.2.2.1 x.2.2.2.2.1 y.1 y.2.1
def zvn (zbp:yB->Bool×ByteArray) (n:Nat) (t48:yD) (t49:Int) (t50:Int) (x_:At) (items:List ByteArray):=zB (znc zbp) default n ((),(),t48,t49,t50,()) (x_,items,())
def zFI (r:zyl):LTree ty:=.done (.exit 1) [.ptr 360 0,.own 361] [.box (base.enc 143 r.1) false,.arr 9 r.2 false]
def zHr:LL ty zlo:=za (zcI 360 0) (za (zgd 361) (za (lSl 169) (za zj (za zj zl))))
def zF0:BL ty zk2:=zd7 (zdv (λx=>(⟨x.1,⟨x.2.1,x.2.2.1⟩,x.2.2.2.1,x.2.2.2.2.1,x.2.2.2.2.2.1,x.2.2.2.2.2.2.1,⟨x.2.2.2.2.2.2.2.1,x.2.2.2.2.2.2.2.2.1,x.2.2.2.2.2.2.2.2.2.1⟩⟩:At)) (λx=>(x.Kind,x.Row.Table,x.Row.Seq,x.Ag,x.Func,x.Items,x.Op,x.Bd.Kind,x.Bd.Int,x.Bd.Text,())) (λ_=>rfl) (za (zT .i64) (za (zT .i64) (za (zT .i64) (za (lSl 51) (za (zT .i64) (za (lSl 169) (za (zT .i64) (za (zT .i64) (za (zT .i64) (za ztx zl))))))))))) false (zge 9 false (zbe))
def zE5 (x:zlo) (y:zk2):Nat:=(x.2.2.1.length+Int.toNat x.2.2.2.1+Int.toNat x.2.2.2.2.1+y.1.Ag.length+y.1.Items.length+y.2.1.length+1)
def zwE (zbp:yB->Bool×ByteArray):=zbZ zbt 90 [(44,zo8),(45,zAn),(94,(zoZ zbp)),(264,zGy),(265,zx7),(266,zx0)] [] [(12,[(1,.keep),(3,.own 9),(48,.keep),(49,.keep),(50,.keep)])] [(12,2,(kpL [1,3]))] [(12,spW zHr zF0 (znc zbp) default zFI zE5)] []
theorem zFd (zbp:yB->Bool×ByteArray):zI (zwE zbp) (lp (body f215) 0):=zo (id:=12) (hl:=rfl)
def zx1 (zbp:yB->Bool×ByteArray) (x_:At):Wy0 (ByteArray):=.i (x_.Kind==0) (.bn (zwH x_.Row) λr4=>.k r4) (.i (x_.Kind==1) (.i (decide ((0:Int)<=(0:Int))&&decide (0<Int.ofNat x_.Ag.length)) (.bn (zbp (x_.Ag.getD (Int.toNat 0) default)) λr6=>.i (decide ((ByteArray.mk #[(109:UInt8),(111:UInt8),(110:UInt8),(117:UInt8),(115:UInt8),(91:UInt8)]).size+r6.size<=9223372036854775807)) (.i (decide ((ByteArray.mk #[(109:UInt8),(111:UInt8),(110:UInt8),(117:UInt8),(115:UInt8),(91:UInt8)]++r6).size+(ByteArray.mk #[(44:UInt8),(32:UInt8)]).size<=9223372036854775807)) (.i (decide ((0:Int)<=(1:Int))&&decide (1<Int.ofNat x_.Ag.length)) (.bn (zbp (x_.Ag.getD (Int.toNat 1) default)) λr5=>.i (decide ((ByteArray.mk #[(109:UInt8),(111:UInt8),(110:UInt8),(117:UInt8),(115:UInt8),(91:UInt8)]++r6++ByteArray.mk #[(44:UInt8),(32:UInt8)]).size+r5.size<=9223372036854775807)) (.i (decide ((ByteArray.mk #[(109:UInt8),(111:UInt8),(110:UInt8),(117:UInt8),(115:UInt8),(91:UInt8)]++r6++ByteArray.mk #[(44:UInt8),(32:UInt8)]++r5).size+(ByteArray.mk #[(93:UInt8)]).size<=9223372036854775807)) (.k (ByteArray.mk #[(109:UInt8),(111:UInt8),(110:UInt8),(117:UInt8),(115:UInt8),(91:UInt8)]++r6++ByteArray.mk #[(44:UInt8),(32:UInt8)]++r5++ByteArray.mk #[(93:UInt8)])) .d) .d) .d) .d) .d) .d) (.i (x_.Kind==2) (.i (decide ((0:Int)<=(0:Int))&&decide (0<Int.ofNat x_.Ag.length)) (.bn (zbp (x_.Ag.getD (Int.toNat 0) default)) λr7=>.i (decide ((ByteArray.mk #[(100:UInt8),(101:UInt8),(108:UInt8),(116:UInt8),(97:UInt8),(91:UInt8)]).size+r7.size<=9223372036854775807)) (.i (decide ((ByteArray.mk #[(100:UInt8),(101:UInt8),(108:UInt8),(116:UInt8),(97:UInt8),(91:UInt8)]++r7).size+(ByteArray.mk #[(93:UInt8)]).size<=9223372036854775807)) (.k (ByteArray.mk #[(100:UInt8),(101:UInt8),(108:UInt8),(116:UInt8),(97:UInt8),(91:UInt8)]++r7++ByteArray.mk #[(93:UInt8)])) .d) .d) .d) (.i (x_.Kind==3) (.i (decide ((0:Int)<=(0:Int))&&decide (0<Int.ofNat x_.Ag.length)) (.bn (zbp (x_.Ag.getD (Int.toNat 0) default)) λr8=>.i (decide ((ByteArray.mk #[(97:UInt8),(98:UInt8),(115:UInt8),(101:UInt8),(110:UInt8),(116:UInt8),(91:UInt8)]).size+r8.size<=9223372036854775807)) (.i (decide ((ByteArray.mk #[(97:UInt8),(98:UInt8),(115:UInt8),(101:UInt8),(110:UInt8),(116:UInt8),(91:UInt8)]++r8).size+(ByteArray.mk #[(93:UInt8)]).size<=9223372036854775807)) (.k (ByteArray.mk #[(97:UInt8),(98:UInt8),(115:UInt8),(101:UInt8),(110:UInt8),(116:UInt8),(91:UInt8)]++r8++ByteArray.mk #[(93:UInt8)])) .d) .d) .d) (.bn (zvn zbp (x_.Items.length+(Int.ofNat x_.Items.length).toNat +Int.toNat 0+x_.Ag.length+x_.Items.length+0+1) x_.Items (Int.ofNat x_.Items.length) 0 (At.mk x_.Kind x_.Row x_.Ag x_.Func x_.Items x_.Op x_.Bd) []) λr11=>.i (decide (0<=r11.1.Func)&&decide (r11.1.Func<Int.ofNat zb4.2.length)) (.i (decide ((ByteArray.mk #[(116:UInt8),(101:UInt8),(115:UInt8),(116:UInt8),(91:UInt8)]).size+ByteArray.size (zb4.2.getD r11.1.Func.toNat default)<=9223372036854775807)) (.i (decide ((ByteArray.mk #[(116:UInt8),(101:UInt8),(115:UInt8),(116:UInt8),(91:UInt8)]++zb4.2.getD r11.1.Func.toNat default).size+(ByteArray.mk #[(123:UInt8)]).size<=9223372036854775807)) (.bn (strings_Join r11.2 (ByteArray.mk #[(59:UInt8),(32:UInt8)])) λr10=>.i (decide ((ByteArray.mk #[(116:UInt8),(101:UInt8),(115:UInt8),(116:UInt8),(91:UInt8)]++zb4.2.getD r11.1.Func.toNat default++ByteArray.mk #[(123:UInt8)]).size+r10.size<=9223372036854775807)) (.i (decide ((ByteArray.mk #[(116:UInt8),(101:UInt8),(115:UInt8),(116:UInt8),(91:UInt8)]++zb4.2.getD r11.1.Func.toNat default++ByteArray.mk #[(123:UInt8)]++r10).size+(ByteArray.mk #[(125:UInt8),(32:UInt8)]).size<=9223372036854775807)) (.i (decide (0<=IntKind.i64.wrap (r11.1.Op - 5))&&decide (IntKind.i64.wrap (r11.1.Op - 5)<Int.ofNat zdA.2.length)) (.i (decide ((ByteArray.mk #[(116:UInt8),(101:UInt8),(115:UInt8),(116:UInt8),(91:UInt8)]++zb4.2.getD r11.1.Func.toNat default++ByteArray.mk #[(123:UInt8)]++r10++ByteArray.mk #[(125:UInt8),(32:UInt8)]).size+ByteArray.size (zdA.2.getD (IntKind.i64.wrap (r11.1.Op - 5)).toNat default)<=9223372036854775807)) (.i (decide ((ByteArray.mk #[(116:UInt8),(101:UInt8),(115:UInt8),(116:UInt8),(91:UInt8)]++zb4.2.getD r11.1.Func.toNat default++ByteArray.mk #[(123:UInt8)]++r10++ByteArray.mk #[(125:UInt8),(32:UInt8)]++zdA.2.getD (IntKind.i64.wrap (r11.1.Op - 5)).toNat default).size+(ByteArray.mk #[(32:UInt8)]).size<=9223372036854775807)) (.bn (zrf r11.1.Bd) λr9=>.i (decide ((ByteArray.mk #[(116:UInt8),(101:UInt8),(115:UInt8),(116:UInt8),(91:UInt8)]++zb4.2.getD r11.1.Func.toNat default++ByteArray.mk #[(123:UInt8)]++r10++ByteArray.mk #[(125:UInt8),(32:UInt8)]++zdA.2.getD (IntKind.i64.wrap (r11.1.Op - 5)).toNat default++ByteArray.mk #[(32:UInt8)]).size+r9.size<=9223372036854775807)) (.i (decide ((ByteArray.mk #[(116:UInt8),(101:UInt8),(115:UInt8),(116:UInt8),(91:UInt8)]++zb4.2.getD r11.1.Func.toNat default++ByteArray.mk #[(123:UInt8)]++r10++ByteArray.mk #[(125:UInt8),(32:UInt8)]++zdA.2.getD (IntKind.i64.wrap (r11.1.Op - 5)).toNat default++ByteArray.mk #[(32:UInt8)]++r9).size+(ByteArray.mk #[(93:UInt8)]).size<=9223372036854775807)) (.k (ByteArray.mk #[(116:UInt8),(101:UInt8),(115:UInt8),(116:UInt8),(91:UInt8)]++zb4.2.getD r11.1.Func.toNat default++ByteArray.mk #[(123:UInt8)]++r10++ByteArray.mk #[(125:UInt8),(32:UInt8)]++zdA.2.getD (IntKind.i64.wrap (r11.1.Op - 5)).toNat default++ByteArray.mk #[(32:UInt8)]++r9++ByteArray.mk #[(93:UInt8)])) .d) .d) .d) .d) .d) .d) .d) .d) .d) .d))))
def ziM (zbp:yB->Bool×ByteArray) (x_:At):=(zx1 zbp x_).fin default
theorem zEs (zbp:yB->Bool×ByteArray) (zUL:Sound Tryz.prog zbt 94 (zoZ zbp)):Sound Tryz.prog zbt 215 (zlW (ziM zbp)):=
 sU (cx':=(zwE zbp)) (zi ⟨zsK,zGz,zUL,zTJ.nodr,zHy.nodr,zId.nodr,trivial⟩) call215 func215 (lOK (aC (zFd zbp) aN))
abbrev zjd:=Unit×yC×Int×Int×Unit
abbrev zi9:=List ByteArray×Unit
def zfc (zbd:At->Bool×ByteArray) (t7:yC) (t8:Int) (t9:Int) (out_:List ByteArray):Wy zjd zi9 (List ByteArray):=.i (decide (t9<t8)) (.i (decide (0<=t9)&&decide (t9<Int.ofNat t7.length)) (.bn (zbd (At.mk (t7.getD t9.toNat default).At.Kind (t7.getD t9.toNat default).At.Row (t7.getD t9.toNat default).At.Ag (t7.getD t9.toNat default).At.Func (t7.getD t9.toNat default).At.Items (t7.getD t9.toNat default).At.Op (t7.getD t9.toNat default).At.Bd)) λr1=>.i ((t7.getD t9.toNat default).Exp != 1) (.bn (strconv_Itoa (t7.getD t9.toNat default).Exp) λr0=>.i (decide ((ByteArray.mk #[(94:UInt8)]).size+r0.size<=9223372036854775807)) (.i (decide (r1.size+(ByteArray.mk #[(94:UInt8)]++r0).size<=9223372036854775807)) (.i (decide ((out_.length+[r1++(ByteArray.mk #[(94:UInt8)]++r0)].length)*16<=zA)) (.h ((),t7,t8,(IntKind.i64.wrap (t9+1)),()) ((out_++[r1++(ByteArray.mk #[(94:UInt8)]++r0)]),())) .d) .d) .d) (.i (decide ((out_.length+[r1].length)*16<=zA)) (.h ((),t7,t8,(IntKind.i64.wrap (t9+1)),()) ((out_++[r1]),())) .d)) .d) (.k out_)
def zlG (zbd:At->Bool×ByteArray) (x:zjd) (y:zi9):=zfc zbd x.2.1 x.2.2.1 x.2.2.2.1 y.1
def ztU (zbd:At->Bool×ByteArray) (n:Nat) (t7:yC) (t8:Int) (t9:Int) (out_:List ByteArray):=zB (zlG zbd) default n ((),t7,t8,t9,()) (out_,())
def zDz (r:List ByteArray):LTree ty:=.done (.exit 0) [.own 128] [.arr 9 r false]
def zEz:LL ty zjd:=za (zgd 128) (za (lSl 145) (za zj (za zj zl)))
def zEr:BL ty zi9:=zge 9 false (zbe)
def zEi (x:zjd) (y:zi9):Nat:=(x.2.1.length+Int.toNat x.2.2.1+Int.toNat x.2.2.2.1+y.1.length+1)
def ztW (zbd:At->Bool×ByteArray):=zbZ zbt 32 [(44,zo8),(215,(zlW zbd)),(216,zAr)] [] [(3,[(3,.own 9),(7,.keep),(8,.keep),(9,.keep)])] [(3,1,(kpL [3]))] [(3,spW zEz zEr (zlG zbd) default zDz zEi)] []
theorem zEh (zbd:At->Bool×ByteArray):zI (ztW zbd) (lp (body f154) 0):=zo (id:=3) (hl:=rfl)
def zuk (zbd:At->Bool×ByteArray) (l:yC):Wy0 (ByteArray):=.bn (ztU zbd (l.length+(Int.ofNat l.length).toNat +Int.toNat 0+0+1) l (Int.ofNat l.length) 0 []) λr5=>.bn (strings_Join r5 (ByteArray.mk #[(42:UInt8)])) λr4=>.k r4
def zgw (zbd:At->Bool×ByteArray) (l:yC):=(zuk zbd l).fin default
theorem zBB (zbd:At->Bool×ByteArray) (zIY:Sound Tryz.prog zbt 215 (zlW zbd)):Sound Tryz.prog zbt 154 (zgt (zgw zbd)):=
 sU (cx':=(ztW zbd)) (zi ⟨zsK,zIY,zHf.nodr,trivial⟩) call154 func154 (lOK (aC (zEh zbd) aN))
abbrev zsv:=Unit×yB×Int×Int×Unit
abbrev zs8:=List ByteArray×Unit
def zk4 (zV:yC->Bool×ByteArray) (t9:yB) (t10:Int) (t11:Int) (out_:List ByteArray):Wy zsv zs8 (List ByteArray):=.i (decide (t11<t10)) (.i (decide (0<=t11)&&decide (t11<Int.ofNat t9.length)) (.i (Int.ofNat (t9.getD t11.toNat default).Fs.length==0) (.bn (ziX (t9.getD t11.toNat default).Cf 10) λr0=>.i (decide ((out_.length+[r0].length)*16<=zA)) (.h ((),t9,t10,(IntKind.i64.wrap (t11+1)),()) ((out_++[r0]),())) .d) (.i ((t9.getD t11.toNat default).Cf==1) (.bn (zV (t9.getD t11.toNat default).Fs) λr1=>.i (decide ((out_.length+[r1].length)*16<=zA)) (.h ((),t9,t10,(IntKind.i64.wrap (t11+1)),()) ((out_++[r1]),())) .d) (.bn (ziX (t9.getD t11.toNat default).Cf 10) λr3=>.i (decide (r3.size+(ByteArray.mk #[(42:UInt8)]).size<=9223372036854775807)) (.bn (zV (t9.getD t11.toNat default).Fs) λr2=>.i (decide ((r3++ByteArray.mk #[(42:UInt8)]).size+r2.size<=9223372036854775807)) (.i (decide ((out_.length+[r3++ByteArray.mk #[(42:UInt8)]++r2].length)*16<=zA)) (.h ((),t9,t10,(IntKind.i64.wrap (t11+1)),()) ((out_++[r3++ByteArray.mk #[(42:UInt8)]++r2]),())) .d) .d) .d))) .d) (.k out_)
def zwb (zV:yC->Bool×ByteArray) (x:zsv) (y:zs8):=zk4 zV x.2.1 x.2.2.1 x.2.2.2.1 y.1
def zDL (zV:yC->Bool×ByteArray) (n:Nat) (t9:yB) (t10:Int) (t11:Int) (out_:List ByteArray):=zB (zwb zV) default n ((),t9,t10,t11,()) (out_,())
def zPs (r:List ByteArray):LTree ty:=.done (.exit 0) [.own 200] [.arr 9 r false]
def zRU:LL ty zsv:=za (zgd 200) (za (lSl 107) (za zj (za zj zl)))
def zSu:BL ty zs8:=zge 9 false (zbe)
def zQa (x:zsv) (y:zs8):Nat:=(x.2.1.length+Int.toNat x.2.2.1+Int.toNat x.2.2.2.1+y.1.length+1)
def zDG (zV:yC->Bool×ByteArray):=zbZ zbt 50 [(44,zo8),(92,ztB),(154,(zgt zV))] [] [(5,[(3,.own 9),(9,.keep),(10,.keep),(11,.keep)])] [(5,1,(kpL [3]))] [(5,spW zRU zSu (zwb zV) default zPs zQa)] []
theorem zPO (zV:yC->Bool×ByteArray):zI (zDG zV) (lp (body f94) 0):=zo (id:=5) (hl:=rfl)
def zER (zV:yC->Bool×ByteArray) (a:yB):Wy0 (ByteArray):=.i (Int.ofNat a.length==0) (.k (ByteArray.mk #[(48:UInt8)])) (.bn (zDL zV (a.length+(Int.ofNat a.length).toNat +Int.toNat 0+0+1) a (Int.ofNat a.length) 0 []) λr9=>.bn (strings_Join r9 (ByteArray.mk #[(32:UInt8),(43:UInt8),(32:UInt8)])) λr8=>.k r8)
def zo1 (zV:yC->Bool×ByteArray) (a:yB):=(zER zV a).fin default
theorem zL7 (zV:yC->Bool×ByteArray) (zFG:Sound Tryz.prog zbt 154 (zgt zV)):Sound Tryz.prog zbt 94 (zoZ (zo1 zV)):=
 sU (cx':=(zDG zV)) (zi ⟨zsK,zzH.nodr,zFG,trivial⟩) call94 func94 (lOK (aC (zPO zV) aN))
def zE6:Nat->(yB->Bool×ByteArray)×(At->Bool×ByteArray)×(yC->Bool×ByteArray)
 | 0=>(λ_=>(false,default),λ_=>(false,default),λ_=>(false,default))
 | n+1=>(zo1 ((zE6 n).2.2),ziM ((zE6 n).1),zgw ((zE6 n).2.1))
def zoO (n:Nat):yB->Bool×ByteArray:=(zE6 n).1
def zlP (n:Nat):At->Bool×ByteArray:=(zE6 n).2.1
def zgr (n:Nat):yC->Bool×ByteArray:=(zE6 n).2.2
theorem zR3 (n:Nat):zoO (n+1)=zo1 (zgr n):=rfl
theorem zH7 (n:Nat):zlP (n+1)=ziM (zoO n):=rfl
theorem zEu (n:Nat):zgr (n+1)=zgw (zlP n):=rfl
theorem zR0:∀ n,Sound Tryz.prog zbt 94 (zoZ (zoO n))/\Sound Tryz.prog zbt 215 (zlW (zlP n))/\Sound Tryz.prog zbt 154 (zgt (zgr n))
 | 0=>⟨zbk call94 (λ_=>rfl),zbk call215 (λ_=>rfl),zbk call154 (λ_=>rfl)⟩
 | n+1=>by
  have ih:=zR0 n;exact ⟨zL7 _ (ih.2.2),zEs _ (ih.1),zBB _ (ih.2.1)⟩
def zNa:yB->Bool×ByteArray:=zoO 1000
def zEl:Ab.Spec ty:=zoZ zNa
theorem zPb:Sound Tryz.prog zbt 94 zEl:=(zR0 1000).1
def zqQ:yC->Bool×ByteArray:=zgr 1000
def ztV:Ab.Spec ty:=zgt zqQ
theorem zDC:Sound Tryz.prog zbt 154 ztV:=(zR0 1000).2.2
def zRk:=zbv zbt 8 [(52,zcn),(94,zEl)]
def zUM (a:yB):Wy0 (ByteArray):=.bn (zb9 a) λr1=>.i (!r1) (.k (ByteArray.mk #[])) (.bn (zNa a) λr0=>.k r0)
def zAd (a:yB):=(zUM a).fin default
def zAB:=zh zYS λx=>((zAd x.1).1,zT4 (zAd x.1).2)
theorem zLX:Sound Tryz.prog zbt 46 zAB:=
 sU (cx':=zRk) (zi ⟨zcx.nodr,zPb,trivial⟩) call46 func46 (lOK aN)
def zTP:=zbv base 16 [(91,zqS)]
def zF3 (p:pair):Wy0 (Bool):=.bn (zpX p.v) λr0=>.i (!r0) (.k true) (.k (p.v.Kind != p.c.Type_))
def zmm (p:pair):=(zF3 p).fin default
def zWs:AL base (pair×Unit):=zd (ze (zbX 137)) zr
def znV:=zh zWs λx=>((zmm x.1).1,zUI (zmm x.1).2)
theorem ztw:SdP 102 znV:=
 sT (cx':=zTP) (zi ⟨zt1,trivial⟩) call102 func102 (lOK aN)
abbrev zxR:=yH×Unit×yG×Int×Int×Unit
abbrev zx5:=List pair×Unit
def zDh (l:yH) (t8:yG) (t9:Int) (t10:Int) (out_:List pair):Wy zxR zx5 (List pair):=.i (decide (t10<t9)) (.i (decide (0<=t10)&&decide (t10<Int.ofNat t8.length)) (.i (decide (0<=t10)&&decide (t10<Int.ofNat l.length)) (.i (decide ((out_.length+[pair.mk (l.getD t10.toNat default) (t8.getD t10.toNat default)].length)*56<=zA)) (.h (l,(),t8,t9,(IntKind.i64.wrap (t10+1)),()) ((out_++[pair.mk (l.getD t10.toNat default) (t8.getD t10.toNat default)]),())) .d) .d) .d) (.k out_)
def zDO (x:zxR) (y:zx5):=zDh x.1 x.2.2.1 x.2.2.2.1 x.2.2.2.2.1 y.1
def zC6 (n:Nat) (l:yH) (t8:yG) (t9:Int) (t10:Int) (out_:List pair):=zB (zDO) default n (l,(),t8,t9,t10,()) (out_,())
def z0l (r:List pair):LTree ty:=.done (.exit 0) [.own 104] [.arr 137 r false]
def z1v:LL ty zxR:=za (lSl 75) (za (zgd 104) (za (lSl 79) (za zj (za zj zl))))
def z2n:BL ty zx5:=zge 137 false (zbe)
def z0w (x:zxR) (y:zx5):Nat:=(x.1.length+x.2.2.1.length+Int.toNat x.2.2.2.1+Int.toNat x.2.2.2.2.1+y.1.length+1000)
def zM8:=zbZ base 26 [] [] [(3,[(0,.keep),(5,.own 137),(8,.keep),(9,.keep),(10,.keep)])] [(3,1,(kpL [5]))] [(3,spW z1v z2n (zDO) default z0l z0w)] []
theorem z0Z:zI zM8 (lp (body f101) 0):=zo (id:=3) (hl:=rfl)
def zQf (l:yH) (row:yG):Wy0 (List pair):=.bn (zC6 (l.length+row.length+(Int.ofNat row.length).toNat +Int.toNat 0+0+1000) l row (Int.ofNat row.length) 0 []) λr0=>.k r0
def zyw (l:yH) (row:yG):=(zQf l row).fin default
def z0g (r:List pair):ARes ty:=⟨[.own 137 r],[]⟩
def z4L:AL base (yH×yG×Unit):=zd (ze (vSl 75)) (zd (ze (vSl 79)) zr)
def zIM:=zh z4L λx=>((zyw x.1 x.2.1).1,z0g (zyw x.1 x.2.1).2)
theorem zWR:SdP 101 zIM:=
 sT (cx':=zM8) (zi trivial) call101 func101 (lOK (aC z0Z aN)) (sg:=⟨[.own 137],[]⟩)
abbrev zda:=List pair×Unit×Int×Int×Unit
def zoI (s:List pair) (t7:Int) (t8:Int):Wy zda Unit (Int⊕Unit):=.i (decide (t8<t7)) (.i (decide (0<=t8)&&decide (t8<Int.ofNat s.length)) (.bn (zmm (s.getD t8.toNat default)) λr0=>.i (r0) (.k (.inl t8)) (.h (s,(),t7,(IntKind.i64.wrap (t8+1)),()) ())) .d) (.k (.inr ()))
def zgR (x:zda) (y:Unit):=zoI x.1 x.2.2.1 x.2.2.2.1
def zoE (n:Nat) (s:List pair) (t7:Int) (t8:Int):=zB (zgR) (.inl default) n (s,(),t7,t8,()) ()
def zo5:LL ty zda:=za (lSl 137) (za (lFn 102 (zl)) (za zj (za zj zl)))
def zor (x:zda) (y:Unit):Nat:=(x.1.length+Int.toNat x.2.2.1+Int.toNat x.2.2.2.1+1000)
def zgU:=zbZ base 19 [(102,znV)] [] [(2,(kpL [0,1,7,8]))] [(2,1,[]),(2,0,(kpL [4]))] [(2,spW zo5 z6k (zgR) (.inl default) zr4 zor)] []
theorem zoe:zI zgU (lp (body f158) 0):=zo (id:=2) (hl:=rfl)
def zpf (s:List pair):Wy0 (Int):=.bn (zoE (s.length+(Int.ofNat s.length).toNat +Int.toNat 0+1000) s (Int.ofNat s.length) 0) λr2=>.i (isL r2) (.k (getL r2)) (.k (-1:Int))
def zc1 (s:List pair):=(zpf s).fin default
def zpq:AL base (List pair×Unit×Unit):=zd (ze (vSl 137)) (zd (ze (vFn 102 zc3)) zr)
def zgo:=zh zpq λx=>((zc1 x.1).1,zOz (zc1 x.1).2)
theorem zmU:SdP 158 zgo:=
 sT (cx':=zgU) (zi ⟨ztw,trivial⟩) call158 func158 (lOK (aC zoe aN))
def zm0:=zbv base 9 [(102,znV),(158,zgo)]
def zgn (s:List pair):Wy0 (Bool):=.bn (zc1 s) λr0=>.k (decide (r0≥0))
def zb2 (s:List pair):=(zgn s).fin default
def zfz:=zh zpq λx=>((zb2 x.1).1,zUI (zb2 x.1).2)
theorem zmc:SdP 100 zfz:=
 sT (cx':=zm0) (zi ⟨ztw,zmU,trivial⟩) call100 func100 (lOK aN)
def z0f:=zbv base 17 [(100,zfz),(101,zIM),(102,znV)]
def zM3 (l:yH) (row:yG):Wy0 (Bool):=.i (Int.ofNat l.length==Int.ofNat row.length) (.bn (zyw l row) λr1=>.bn (zb2 r1) λr0=>.k (!r0)) (.k false)
def zst (l:yH) (row:yG):=(zM3 l row).fin default
def zyr:=zh z4L λx=>((zst x.1 x.2.1).1,zUI (zst x.1 x.2.1).2)
theorem zEN:SdP 51 zyr:=
 sT (cx':=z0f) (zi ⟨zmc,zWR,ztw,trivial⟩) call51 func51 (lOK aN)
def z3Z:=zbv base 2 []
def z6B:Wy0 (List ByteArray):=.k [ByteArray.mk #[(73:UInt8),(78:UInt8),(84:UInt8),(69:UInt8),(71:UInt8),(69:UInt8),(82:UInt8)],ByteArray.mk #[(84:UInt8),(69:UInt8),(88:UInt8),(84:UInt8)],ByteArray.mk #[(66:UInt8),(79:UInt8),(79:UInt8),(76:UInt8),(69:UInt8),(65:UInt8),(78:UInt8)]]
def zFV:Bool×List ByteArray:=(z6B).fin default
def zLq:=zh z4C λx=>((zFV ).1,zKa (zFV ).2)
theorem zYt:SdP 87 zLq:=
 sT (cx':=z3Z) (zi trivial) call87 func87 (lOK aN) (sg:=⟨[.own 9],[]⟩)
def zYH:=zbv base 13 [(87,zLq)]
def zBQ (kind:Int):Wy0 (ByteArray):=.i (decide (kind<0)) (.k (ByteArray.mk #[])) (.i (decide (kind>2)) (.k (ByteArray.mk #[])) (.i (decide (0<=kind)&&decide (kind<Int.ofNat zFV.2.length)) (.k (zFV.2.getD kind.toNat default)) .d))
def zqr (kind:Int):=(zBQ kind).fin default
def zxx:=zh zYC λx=>((zqr x.1).1,zT4 (zqr x.1).2)
theorem zD7:SdP 43 zxx:=
 sT (cx':=zYH) (zi ⟨zYt,trivial⟩) call43 func43 (lOK aN)
def zHh:=zbv base 7 [(43,zxx)]
def zoy (c:Column):Wy0 (Bool):=.bn (zqr c.Type_) λr0=>.k (r0.toList==(ByteArray.mk #[]).toList)
def zbY (c:Column):=(zoy c).fin default
def zHz:AL base (Column×Unit):=zd (ze (zbX 75)) zr
def zhI:=zh zHz λx=>((zbY x.1).1,zUI (zbY x.1).2)
theorem zlf:SdP 99 zhI:=
 sT (cx':=zHh) (zi ⟨zD7,trivial⟩) call99 func99 (lOK aN)
abbrev zei:=yH×Unit×Int×Int×Unit
def zsW (s:yH) (t7:Int) (t8:Int):Wy zei Unit (Int⊕Unit):=.i (decide (t8<t7)) (.i (decide (0<=t8)&&decide (t8<Int.ofNat s.length)) (.bn (zbY (s.getD t8.toNat default)) λr0=>.i (r0) (.k (.inl t8)) (.h (s,(),t7,(IntKind.i64.wrap (t8+1)),()) ())) .d) (.k (.inr ()))
def zjj (x:zei) (y:Unit):=zsW x.1 x.2.2.1 x.2.2.2.1
def zs2 (n:Nat) (s:yH) (t7:Int) (t8:Int):=zB (zjj) (.inl default) n (s,(),t7,t8,()) ()
def zs7:LL ty zei:=za (lSl 75) (za (lFn 99 (zl)) (za zj (za zj zl)))
def zsj (x:zei) (y:Unit):Nat:=(x.1.length+Int.toNat x.2.2.1+Int.toNat x.2.2.2.1+1000)
def zji:=zbZ base 19 [(99,zhI)] [] [(2,(kpL [0,1,7,8]))] [(2,1,[]),(2,0,(kpL [4]))] [(2,spW zs7 z6k (zjj) (.inl default) zr4 zsj)] []
theorem zsh:zI zji (lp (body f157) 0):=zo (id:=2) (hl:=rfl)
def ztF (s:yH):Wy0 (Int):=.bn (zs2 (s.length+(Int.ofNat s.length).toNat +Int.toNat 0+1000) s (Int.ofNat s.length) 0) λr2=>.i (isL r2) (.k (getL r2)) (.k (-1:Int))
def zdM (s:yH):=(ztF s).fin default
def ztC:AL base (yH×Unit×Unit):=zd (ze (vSl 75)) (zd (ze (vFn 99 zc3)) zr)
def zik:=zh ztC λx=>((zdM x.1).1,zOz (zdM x.1).2)
theorem zq0:SdP 157 zik:=
 sT (cx':=zji) (zi ⟨zlf,trivial⟩) call157 func157 (lOK (aC zsh aN))
def zqv:=zbv base 9 [(99,zhI),(157,zik)]
def zil (s:yH):Wy0 (Bool):=.bn (zdM s) λr0=>.k (decide (r0≥0))
def zcr (s:yH):=(zil s).fin default
def zhd:=zh ztC λx=>((zcr x.1).1,zUI (zcr x.1).2)
theorem zo4:SdP 98 zhd:=
 sT (cx':=zqv) (zi ⟨zlf,zq0,trivial⟩) call98 func98 (lOK aN)
def zKg:=zbv base 11 [(98,zhd),(99,zhI)]
def zzK (l:yH):Wy0 (Bool):=.i (decide (Int.ofNat l.length<=16)) (.bn (zcr l) λr0=>.k (!r0)) (.k false)
def zhv (l:yH):=(zzK l).fin default
def zMf:AL base (yH×Unit):=zd (ze (vSl 75)) zr
def zoC:=zh zMf λx=>((zhv x.1).1,zUI (zhv x.1).2)
theorem zvw:SdP 50 zoC:=
 sT (cx':=zKg) (zi ⟨zo4,zlf,trivial⟩) call50 func50 (lOK aN)
abbrev zua:=Unit×yF×Int×Int×Unit
abbrev zpc:=Relation×Unit
def zo9 (t16:yF) (t17:Int) (t18:Int) (r:Relation):Wy zua zpc (Bool⊕Unit):=.i (decide (t18<t17)) (.i (decide (0<=t18)&&decide (t18<Int.ofNat t16.length)) (.bn (zst r.Columns (t16.getD t18.toNat default).Values) λr2=>.i (!r2) (.k (.inl false)) (.i (Int.ofNat (t16.getD t18.toNat default).Ann.length==0) (.k (.inl false)) (.bn (zb9 (t16.getD t18.toNat default).Ann) λr1=>.i (!r1) (.k (.inl false)) (.i (decide (t18>0)) (.i (decide (0<=IntKind.i64.wrap (t18 - 1))&&decide (IntKind.i64.wrap (t18 - 1)<Int.ofNat r.Rows.length)) (.bn (zcp (r.Rows.getD (IntKind.i64.wrap (t18 - 1)).toNat default) (t16.getD t18.toNat default)) λr0=>.i (decide (r0≥0)) (.k (.inl false)) (.h ((),t16,t17,(IntKind.i64.wrap (t18+1)),()) (r,()))) .d) (.h ((),t16,t17,(IntKind.i64.wrap (t18+1)),()) (r,())))))) .d) (.k (.inr ()))
def zAa (x:zua) (y:zpc):=zo9 x.2.1 x.2.2.1 x.2.2.2.1 y.1
def zIp (n:Nat) (t16:yF) (t17:Int) (t18:Int) (r:Relation):=zB (zAa) (.inl default) n ((),t16,t17,t18,()) (r,())
def zXX:LL ty zua:=za (zcI 228 0) (za (lSl 54) (za zj (za zj zl)))
def zX1:BL ty zpc:=zd7 (zdv (λx=>(⟨x.1,x.2.1⟩:Relation)) (λx=>(x.Columns,x.Rows,())) (λ_=>rfl) (za (lSl 75) (za (lSl 54) zl))) false (zbe)
def zWW (x:zua) (y:zpc):Nat:=(x.2.1.length+Int.toNat x.2.2.1+Int.toNat x.2.2.2.1+y.1.Columns.length+y.1.Rows.length+1000)
def zIt:=zbZ base 57 [(50,zoC),(51,zyr),(52,zcn),(53,zfF)] [] [(4,(kpL [1,16,17,18]))] [(4,1,[]),(4,0,(kpL [2]))] [(4,spW zXX zX1 (zAa) (.inl default) znl zWW)] []
theorem zU7:zI zIt (lp (body f14) 0):=zo (id:=4) (hl:=rfl)
def zLr (r:Relation):Wy0 (Bool):=.bn (zhv r.Columns) λr7=>.i (!r7) (.k false) (.i (decide (Int.ofNat r.Rows.length>1024)) (.k false) (.bn (zIp (r.Rows.length+(Int.ofNat r.Rows.length).toNat +Int.toNat 0+r.Columns.length+r.Rows.length+1000) r.Rows (Int.ofNat r.Rows.length) 0 r) λr6=>.i (isL r6) (.k (getL r6)) (.k true)))
def zmt (r:Relation):=(zLr r).fin default
def zZP:AL base zpc:=zd (ze (zbX 25)) zr
def zrm:=zh zZP λx=>((zmt x.1).1,zUI (zmt x.1).2)
theorem zvO:SdP 14 zrm:=
 sT (cx':=zIt) (zi ⟨zvw,zEN,zcx,zgP,trivial⟩) call14 func14 (lOK (aC zU7 aN))
abbrev ztd:=Unit×Unit×yH×Int×Int×Unit
abbrev zsy:=Relation×List ByteArray×Unit
abbrev zHq:=Relation×List ByteArray
abbrev zsF:=Unit×Unit×Unit×yF×Int×Int×yG×Int×Int×Unit
abbrev zte:=List ByteArray×Row×List ByteArray×Unit
abbrev zG1:=yF×Int×Int×List ByteArray×Row×List ByteArray
abbrev zto:=Unit×yF×Int×Int×Unit
abbrev zsX:=List ByteArray×Unit
def zWt (t16:yH) (t17:Int) (t18:Int) (r:Relation) (head:List ByteArray):Wy ztd zsy zHq:=.i (decide (t18<t17)) (.i (decide (0<=t18)&&decide (t18<Int.ofNat t16.length)) (.i (decide ((t16.getD t18.toNat default).Name.size+(ByteArray.mk #[(32:UInt8)]).size<=9223372036854775807)) (.bn (zqr (t16.getD t18.toNat default).Type_) λr2=>.i (decide (((t16.getD t18.toNat default).Name++ByteArray.mk #[(32:UInt8)]).size+r2.size<=9223372036854775807)) (.i (decide ((head.length+[(t16.getD t18.toNat default).Name++ByteArray.mk #[(32:UInt8)]++r2].length)*16<=zA)) (.h ((),(),t16,t17,(IntKind.i64.wrap (t18+1)),()) (r,(head++[(t16.getD t18.toNat default).Name++ByteArray.mk #[(32:UInt8)]++r2]),())) .d) .d) .d) .d) (.k (r,head))
def zG4 (x:ztd) (y:zsy):=zWt x.2.2.1 x.2.2.2.1 x.2.2.2.2.1 y.1 y.2.1
def zWj (n:Nat) (t16:yH) (t17:Int) (t18:Int) (r:Relation) (head:List ByteArray):=zB (zG4) default n ((),(),t16,t17,t18,()) (r,head,())
def zUg (r:zHq):LTree ty:=.done (.exit 0) [.ptr 272 0,.own 273] [.box (base.enc 25 r.1) false,.arr 9 r.2 false]
def zVl:LL ty ztd:=za (zcI 272 0) (za (zgd 273) (za (lSl 75) (za zj (za zj zl))))
def zVb:BL ty zsy:=zd7 (zdv (λx=>(⟨x.1,x.2.1⟩:Relation)) (λx=>(x.Columns,x.Rows,())) (λ_=>rfl) (za (lSl 75) (za (lSl 54) zl))) false (zge 9 false (zbe))
def zTK (t37:yF) (t38:Int) (t39:Int) (t44:yG) (t45:Int) (t46:Int) (out_:List ByteArray) (x_:Row) (l:List ByteArray):Wy zsF zte zG1:=.i (decide (t46<t45)) (.i (decide (0<=t46)&&decide (t46<Int.ofNat t44.length)) (.bn (zrf (t44.getD t46.toNat default)) λr4=>.i (decide ((l.length+[r4].length)*16<=zA)) (.h ((),(),(),t37,t38,t39,t44,t45,(IntKind.i64.wrap (t46+1)),()) (out_,x_,(l++[r4]),())) .d) .d) (.k (t37,t38,t39,out_,x_,l))
def zEB (x:zsF) (y:zte):=zTK x.2.2.2.1 x.2.2.2.2.1 x.2.2.2.2.2.1 x.2.2.2.2.2.2.1 x.2.2.2.2.2.2.2.1 x.2.2.2.2.2.2.2.2.1 y.1 y.2.1 y.2.2.1
def zT0 (n:Nat) (t37:yF) (t38:Int) (t39:Int) (t44:yG) (t45:Int) (t46:Int) (out_:List ByteArray) (x_:Row) (l:List ByteArray):=zB (zEB) default n ((),(),(),t37,t38,t39,t44,t45,t46,()) (out_,x_,l,())
def zSB (r:zG1):LTree ty:=.done (.exit 4) [.own 272,.ptr 273 0,.own 274,.sl 54 r.1,.lit (.int .i64 r.2.1),.lit (.int .i64 r.2.2.1)] [.arr 9 r.2.2.2.1 false,.box (base.enc 54 r.2.2.2.2.1) false,.arr 9 r.2.2.2.2.2 false]
def zUs:LL ty zsF:=za (zgd 272) (za (zcI 273 0) (za (zgd 274) (za (lSl 54) (za zj (za zj (za (lSl 79) (za zj (za zj zl))))))))
def zT3:BL ty zte:=zge 9 false (zd7 (zdv (λx=>(⟨x.1,x.2.1⟩:Row)) (λx=>(x.Values,x.Ann,())) (λ_=>rfl) (za (lSl 79) (za (lSl 107) zl))) false (zge 9 false (zbe)))
def zTO (t37:yF) (t38:Int) (t39:Int) (out_:List ByteArray):Wy zto zsX (List ByteArray):=.i (decide (t39<t38)) (.i (decide (0<=t39)&&decide (t39<Int.ofNat t37.length)) (.bn (zT0 (t37.length+t38.toNat +t39.toNat +(t37.getD t39.toNat default).Values.length+(Int.ofNat (t37.getD t39.toNat default).Values.length).toNat +Int.toNat 0+out_.length+(t37.getD t39.toNat default).Values.length+(t37.getD t39.toNat default).Ann.length+0+1000) t37 t38 t39 (t37.getD t39.toNat default).Values (Int.ofNat (t37.getD t39.toNat default).Values.length) 0 out_ (t37.getD t39.toNat default) []) λr8=>.bn (strings_Join r8.2.2.2.2.2 (ByteArray.mk #[(44:UInt8),(32:UInt8)])) λr7=>.i (decide (r7.size+(ByteArray.mk #[(32:UInt8),(124:UInt8),(32:UInt8)]).size<=9223372036854775807)) (.bn (zAd r8.2.2.2.2.1.Ann) λr6=>.i (decide ((r7++ByteArray.mk #[(32:UInt8),(124:UInt8),(32:UInt8)]).size+r6.size<=9223372036854775807)) (.i (decide ((r8.2.2.2.1.length+[r7++ByteArray.mk #[(32:UInt8),(124:UInt8),(32:UInt8)]++r6].length)*16<=zA)) (.h ((),(r8.1),(r8.2.1),(IntKind.i64.wrap (r8.2.2.1+1)),()) ((r8.2.2.2.1++[r7++ByteArray.mk #[(32:UInt8),(124:UInt8),(32:UInt8)]++r6]),())) .d) .d) .d) .d) (.k out_)
def zEX (x:zto) (y:zsX):=zTO x.2.1 x.2.2.1 x.2.2.2.1 y.1
def zUj (n:Nat) (t37:yF) (t38:Int) (t39:Int) (out_:List ByteArray):=zB (zEX) default n ((),t37,t38,t39,()) (out_,())
def zRv (r:List ByteArray):LTree ty:=.done (.exit 2) [.own 272] [.arr 9 r false]
def zTz:LL ty zto:=za (zgd 272) (za (lSl 54) (za zj (za zj zl)))
def zTx:BL ty zsX:=zge 9 false (zbe)
def zTu (x:ztd) (y:zsy):Nat:=(x.2.2.1.length+Int.toNat x.2.2.2.1+Int.toNat x.2.2.2.2.1+y.1.Columns.length+y.1.Rows.length+y.2.1.length+1000)
def zQ4 (x:zsF) (y:zte):Nat:=(x.2.2.2.1.length+Int.toNat x.2.2.2.2.1+Int.toNat x.2.2.2.2.2.1+x.2.2.2.2.2.2.1.length+Int.toNat x.2.2.2.2.2.2.2.1+Int.toNat x.2.2.2.2.2.2.2.2.1+y.1.length+y.2.1.Values.length+y.2.1.Ann.length+y.2.2.1.length+1000)
def zRu (x:zto) (y:zsX):Nat:=(x.2.1.length+Int.toNat x.2.2.1+Int.toNat x.2.2.2.1+y.1.length+1000)
def zs4:=zbZ zbt 68 [(14,zrm),(43,zxx),(44,zo8),(45,zAn),(46,zAB)] [] [(5,[(1,.keep),(3,.own 9),(16,.keep),(17,.keep),(18,.keep)]),(11,(kpL [6,37,38,39])),(15,[(6,.keep),(8,.keep),(9,.own 9),(37,.keep),(38,.keep),(39,.keep),(44,.keep),(45,.keep),(46,.keep)])] [(5,1,(kpL [1,3])),(11,3,(kpL [6])),(15,5,(kpL [6,8,9,37,38,39]))] [(5,spW zVl zVb (zG4) default zUg zTu),(15,spW zUs zT3 (zEB) default zSB zQ4),(11,spW zTz zTx (zEX) default zRv zRu)] []
theorem zTt:zI zs4 (lp (body f12) 0):=zo (id:=5) (hl:=rfl)
theorem zQY:zI zs4 (lp (body f12) 2):=zo (id:=15) (hl:=rfl)
theorem zRC:zI zs4 (lp (body f12) 1):=zo (id:=11) (hl:=rfl)
def zYi (r:Relation):Wy0 (List ByteArray):=.bn (zmt r) λr15=>.i (!r15) (.k []) (.bn (zWj (r.Columns.length+(Int.ofNat r.Columns.length).toNat +Int.toNat 0+r.Columns.length+r.Rows.length+0+1000) r.Columns (Int.ofNat r.Columns.length) 0 r []) λr14=>.bn (strings_Join r14.2 (ByteArray.mk #[(44:UInt8),(32:UInt8)])) λr13=>.bn (zUj (r14.1.Rows.length+(Int.ofNat r14.1.Rows.length).toNat +Int.toNat 0+[r13].length+1000) r14.1.Rows (Int.ofNat r14.1.Rows.length) 0 [r13]) λr12=>.k r12)
def zMM (r:Relation):=(zYi r).fin default
def zYL:AL zbt (Relation×Unit):=zd (ze (zbX 25)) zr
def zDY:=zh zYL λx=>((zMM x.1).1,zKa (zMM x.1).2)
theorem zOM:Sound Tryz.prog zbt 12 zDY:=
 sU (cx':=zs4) (zi ⟨zvO.nodr,zD7.nodr,zsK,zGz,zLX,trivial⟩) call12 func12 (lOK (aC zTt (aC zRC (aC zQY aN)))) (sg:=⟨[.own 9],[]⟩)
def zDU (k:Go.Value) (l:List (Go.Value×Int)):Option Int:=zRt (ty:=ty) (V:=3) k l
def zbbY (k:Go.Value) (l:List (Go.Value×Int)):Bool:=zH8 (ty:=ty) (V:=3) k l
def zbba (k:Go.Value) (x:Int) (l:List (Go.Value×Int)):List (Go.Value×Int):=zFO (ty:=ty) (V:=3) k x l
def zkY (x:yB) (a b lim:Int):Bool×yB:=z3r zbW x a b lim
def zzf:Ab.Spec ty:=zh (cx:=base) (zd (zse 107) (zd (ze (zgu .i64)) (zd (ze (zgu .i64)) (zd (ze (zgu .i64)) (zd (ze (vFn 104 zc3)) zr))))) λx=>((zkY x.1 x.2.1 x.2.2.1 x.2.2.2.1).1,⟨[],[some ⟨107,(zkY x.1 x.2.1 x.2.2.1 x.2.2.2.1).2⟩]⟩)
theorem zz7 (c:Unit) (x y:Term) (h:(zbW x y).1=true):zit ((AV.agg (base.enc 107 x)::AV.agg (base.enc 107 y)::(zc3:VL base Unit).enc c).map Arg.pure)=some (true,⟨[.pure (.lit (.int .i64 (zbW x y).2))],[]⟩):=by
 rw [<- h]; kernel_rfl
theorem zyD:SdP 231 zzf:=by
 letI:DecidableEq (ty 107):=inferInstanceAs (DecidableEq Term)
 exact zbb6 (T:=107) ze3 rfl Go.Proofs.Tryz.pdqTerm Tryz.isAgg107 (by unfold zt; exact Tryz.sizeOf107) call231 zlI zc3 (λc=>zbW) zz7
open Go.Proofs Go.RowKit
def zbM (x:yB):Bool×yB:=z84 zbW x
def zeZ:Ab.Spec ty:=zh (cx:=base) (zd (zse 107) (zd (ze (vFn 104 zc3)) zr)) λx=>((zbM x.1).1,⟨[],[some ⟨107,(zbM x.1).2⟩]⟩)
set_option maxHeartbeats 1000000 in
theorem zsU:SdP 192 zeZ where
 enters:=call192
 calls:=λavs r hsp w F vs hF ha hsep=>by
  unfold zeZ zh at hsp;split at hsp
  ·rename_i x hx;simp only [qa,qb] at hsp;obtain ⟨hpre,rfl⟩:=hsp;have hk:=(zd (zse 107) (zd (ze (vFn 104 zc3)) zr):AL base _).kind vs avs x hx;have ha':=(zd (zse 107) (zd (ze (vFn 104 zc3)) zr):AL base _).ok Tryz.prog ze3 F w vs avs x hx ha;rw [hk] at hsep ⊢;clear hk hx ha;obtain ⟨l0,c,u0⟩:=x;obtain ⟨l,rfl⟩:∃ l:yB,l=l0:=⟨l0,rfl⟩;obtain ⟨v,vs',rfl,hv,hv'⟩:=ha'.inv;obtain ⟨fv,vs'',rfl,hfv,h0⟩:=hv'.inv;obtain rfl:=h0.nil_left.1
   have hsl:∃ p cap,v=.slice p l.length cap:=by
    obtain ⟨⟨xs,hown,_⟩,_⟩:=(show zdc base F w v 107 l/\∀ b,zbf v=some b->¬ F b from hv)
    rcases hown.2 with ⟨h1,h2⟩ | ⟨g0,cap,cur,h1,_⟩
    ·exact ⟨none,0,by rw [h1,show l.length=0 from h2]⟩
    ·exact ⟨_,cap,h1⟩
   have hok:SortOK (α:=Term) zbW l:=of_decide_eq_true (p:=SortOK (α:=Term) zbW l) hpre;have hlen:l.length<4611686018427387904:=hok.size;have hbl:Lib.bitLen l.length<4611686018427387904:=Nat.lt_of_le_of_lt (Lib.bitLen_le l.length 62 (by omega) (by omega)) (by omega)
   have hpp:(zkY l 0 (l.length:Int) ((Lib.bitLen l.length:Nat):Int)).1=true:=by
    show (decide (SortOK (α:=Term) zbW l)&&(decide ((0:Int)=0)&&(decide ((l.length:Int)=l.length)&&(decide ((0:Int)<=((Lib.bitLen l.length:Nat):Int))&&decide (((Lib.bitLen l.length:Nat):Int)<4611686018427387904)))))=true;simp only [qc,qe];exact ⟨hok,trivial,trivial,by omega,by omega⟩
   have hp:=(zyD).calls [.own 107 l,.pure (.lit (.int .i64 0)),.pure (.lit (.int .i64 (l.length:Int))),.pure (.lit (.int .i64 ((Lib.bitLen l.length:Nat):Int))),.pure (.fn 104 [])] ⟨[],[some ⟨107,(zbM l).2⟩]⟩
    (by rw [<- hpp]; kernel_rfl) w F [v,.int .i64 0,.int .i64 (l.length:Int),.int .i64 ((Lib.bitLen l.length:Nat):Int),fv] hF (.cons hv (.cons (Rep.lit _) (.cons (Rep.lit _) (.cons (Rep.lit _) (.cons hfv .nil))))) hsep
   replace hp:Calls Tryz.prog 231 #[v,.int .i64 0,.int .i64 (l.length:Int),.int .i64 ((Lib.bitLen l.length:Nat):Int),fv] w λe w'=>∃ u,e=.returned u/\Post base F w [v] ⟨[],[some ⟨107,(zbM l).2⟩]⟩ u w':=hp
   show Calls Tryz.prog 192 #[v,fv] w λe w'=>∃ u,e=.returned u/\Post base F w [v] ⟨[],[some ⟨107,(zbM l).2⟩]⟩ u w'
   have hb:Calls Tryz.prog 205 #[.int .u64 (l.length:Int)] w λe w'=>e=.returned (.int .i64 ((Lib.bitLen l.length:Nat):Int))/\w'=w:=by
    have h:=Any.bits_Len Go.Proofs.Tryz.lays125 (l.length:Int) w (by omega) (by omega)
    rwa [Int.toNat_natCast] at h
   have wr:IntKind.u64.wrap (l.length:Int)=l.length:=by simp [IntKind.wrap,IntKind.bits,IntKind.signed]; omega
   generalize (zbM l).2=res at hp ⊢;generalize hn:l.length=m at *;generalize Lib.bitLen m=bl at *;clear hpp hv hfv hsep hok hpre hF;obtain ⟨p,cap,rfl⟩:=hsl;clear hn
   go_enter func192,ntmps192
   go_wp2_with (first | (go_at_call 205; refine hb.mono ?_; rintro e w' ⟨rfl,rfl⟩) | (go_at_call 231; refine hp.mono ?_; rintro e w' ⟨u,rfl,hpost⟩; obtain rfl:=hpost.unit))
   go_end0
   exact ⟨_,rfl,hpost⟩
  ·cases hsp
end Go.Proofs.YtoknknbmfmddbaaGreatDoor
namespace Go.Proofs.YtoknknbmfmddbaaGreatDoor
open Go Go.Ab
open Go.Proofs.Tryz
abbrev zn4:=Unit×Unit×yB×Int×Int×Unit
abbrev znP:=(List (_root_.Go.Value×Int))×yB×Unit
def zj0 (t11:yB) (t12:Int) (t13:Int) (at_:List (_root_.Go.Value×Int)) (out_:yB):Wy zn4 znP (yB):=.i (decide (t13<t12)) (.i (decide (0<=t13)&&decide (t13<Int.ofNat t11.length)) (.bn (zqQ (t11.getD t13.toNat default).Fs) λr0=>.i (zbbY (Value.string r0) at_) (.i (decide (0<=(zDU (Value.string r0) at_).getD 0)&&decide ((zDU (Value.string r0) at_).getD 0<Int.ofNat out_.length)) (.i (decide (0<=(zDU (Value.string r0) at_).getD 0)&&decide ((zDU (Value.string r0) at_).getD 0<Int.ofNat out_.length)) (.i (decide (Int.toNat ((zDU (Value.string r0) at_).getD 0)<out_.length)) (.h ((),(),t11,t12,(IntKind.i64.wrap (t13+1)),()) (at_,(out_.set (Int.toNat ((zDU (Value.string r0) at_).getD 0)) (TO.mk (if 1152921504606846976<IntKind.i64.wrap ((out_.getD (Int.toNat ((zDU (Value.string r0) at_).getD 0)) default).Cf+(t11.getD t13.toNat default).Cf) then 1152921504606846976 else IntKind.i64.wrap ((out_.getD (Int.toNat ((zDU (Value.string r0) at_).getD 0)) default).Cf+(t11.getD t13.toNat default).Cf)) (out_.getD (Int.toNat ((zDU (Value.string r0) at_).getD 0)) default).Fs)),())) .d) .d) .d) (.i (decide ((out_.length+[t11.getD t13.toNat default].length)*32<=zA)) (.h ((),(),t11,t12,(IntKind.i64.wrap (t13+1)),()) ((zbba (Value.string r0) (Int.ofNat out_.length) at_),(out_++[t11.getD t13.toNat default]),())) .d)) .d) (.k out_)
def zuY (x:zn4) (y:znP):=zj0 x.2.2.1 x.2.2.2.1 x.2.2.2.2.1 y.1 y.2.1
def zuD (n:Nat) (t11:yB) (t12:Int) (t13:Int) (at_:List (_root_.Go.Value×Int)) (out_:yB):=zB (zuY) default n ((),(),t11,t12,t13,()) (at_,out_,())
def zN9 (r:yB):LTree ty:=.done (.exit 0) [.own 208] [.arr 107 r false]
def zQu:LL ty zn4:=za (lMp 208) (za (zgd 209) (za (lSl 107) (za zj (za zj zl))))
def zQg:BL ty znP:=bMp 9 3 false (zge 107 false (zbe))
def zOs (x:zn4) (y:znP):Nat:=(x.2.2.1.length+Int.toNat x.2.2.2.1+Int.toNat x.2.2.2.2.1+y.1.length+y.2.1.length+1)
def zBU:=zbZ zbt 52 [(104,zit),(154,ztV),(192,zeZ)] [(192,[true,false])] [(4,[(3,.keep),(4,.own 107),(11,.keep),(12,.keep),(13,.keep)])] [(4,1,(kpL [4]))] [(4,spW zQu zQg (zuY) default zN9 zOs)] []
theorem zNq:zI zBU (lp (body f125) 0):=zo (id:=4) (hl:=rfl)
def zDg (terms:yB):Wy0 (yB):=.bn (zuD (terms.length+(Int.ofNat terms.length).toNat +Int.toNat 0+0+0+1) terms (Int.ofNat terms.length) 0 [] []) λr3=>.bn (zbM r3) λr2=>.k r2
def zh5 (terms:yB):=(zDg terms).fin default
def zrT:=zh zYS λx=>((zh5 x.1).1,z3K (zh5 x.1).2)
theorem zy3:Sound Tryz.prog zbt 125 zrT:=
 sU (cx':=zBU) (zi ⟨zlI.nodr,zDC,zsU.nodr,trivial⟩) call125 func125 (lOK (aC zNq aN)) (sg:=⟨[.own 107],[]⟩)
def zl8 (F:yB->Bool×yB):Ab.Spec ty:=zh zVa λx=>((F x.1).1,z3K (F x.1).2)
def zI8 (r:At):ARes ty:=⟨[.pure (.agg (base.enc 143 r))],[]⟩
def zlO (F:At->Bool×At):Ab.Spec ty:=zh z9g λx=>((F x.1).1,zI8 (F x.1).2)
def zev:Cx ty:={ base with nt:=8 }
def ze6 (s:yC):Bool×yC:=(decide (s.length*128<=zA),s)
def zlj:Ab.Spec ty:=zh (cx:=base) (zd (ze (vSl 145)) zr) λx=>((ze6 x.1).1,⟨[.own 145 (ze6 x.1).2],[]⟩)
theorem zw3:zew zev f132 (body f132) ⟨[.own 145],[]⟩ [.pure (.lit (.slice none 0 0))]=some ⟨[.own 145 []],[]⟩:=by kernel_rfl
theorem zve (p:Addr) (c:Nat):zew zev f132 (body f132) ⟨[.own 145],[]⟩ [.pure (.lit (.slice (some p) 0 c))]=some ⟨[.own 145 []],[]⟩:=by kernel_rfl
theorem zvP (l:yC):zew zev f132 (body f132) ⟨[.own 145],[]⟩ [.pure (.sl 145 l)]=bif !l.isEmpty then bif decide ((([]:List (ty 145)).length+l.length)*128<=zA) then some ⟨[.own 145 l],[]⟩ else none else none:=by kernel_rfl
theorem zu5:SdP 132 zlj:=
 zxj (cx':=zev) (bytes:=128) zA5 ze3 ⟨⟨rfl,rfl,rfl,rfl,rfl,rfl⟩,rfl⟩ (λg s h=>by cases h) call132 func132 (c:=body f132) (by kernel_rfl) (zsB (l:=[]) (by kernel_rfl) trivial) zw3 zve zvP (by kernel_rfl)
abbrev zpN:=Unit×Unit×Unit×yB×Int×Int×Int×Int×Unit
abbrev zpF:=yB×Term×yC×Unit
abbrev zD2:=yB×Int×Int×yB×Term×yC
abbrev zpj:=Unit×yB×Int×Int×Unit
abbrev zpM:=yB×Unit
def zjB (zJ:At->Bool×At) (t8:yB) (t9:Int) (t10:Int) (t18:Int) (t19:Int) (out_:yB) (t:Term) (factors:yC):Wy zpN zpF zD2:=.i (decide (t19<t18)) (.i (decide (0<=t19)&&decide (t19<Int.ofNat factors.length)) (.bn (zJ (At.mk (factors.getD t19.toNat default).At.Kind (factors.getD t19.toNat default).At.Row (factors.getD t19.toNat default).At.Ag (factors.getD t19.toNat default).At.Func (factors.getD t19.toNat default).At.Items (factors.getD t19.toNat default).At.Op (factors.getD t19.toNat default).At.Bd)) λr2=>.i (decide (0<=t19)&&decide (t19<Int.ofNat factors.length)) (.i (decide (t19.toNat<factors.length)) (.h ((),(),(),t8,t9,t10,t18,(IntKind.i64.wrap (t19+1)),()) (out_,t,(factors.set t19.toNat (FO.mk (At.mk r2.Kind r2.Row r2.Ag r2.Func r2.Items r2.Op r2.Bd) (factors.getD t19.toNat default).Exp)),())) .d) .d) .d) (.k (t8,t9,t10,out_,t,factors))
def ztE (zJ:At->Bool×At) (x:zpN) (y:zpF):=zjB zJ x.2.2.2.1 x.2.2.2.2.1 x.2.2.2.2.2.1 x.2.2.2.2.2.2.1 x.2.2.2.2.2.2.2.1 y.1 y.2.1 y.2.2.1
def zAT (zJ:At->Bool×At) (n:Nat) (t8:yB) (t9:Int) (t10:Int) (t18:Int) (t19:Int) (out_:yB) (t:Term) (factors:yC):=zB (ztE zJ) default n ((),(),(),t8,t9,t10,t18,t19,()) (out_,t,factors,())
def zMy (r:zD2):LTree ty:=.done (.exit 2) [.own 168,.ptr 169 0,.own 170,.sl 107 r.1,.lit (.int .i64 r.2.1),.lit (.int .i64 r.2.2.1)] [.arr 107 r.2.2.2.1 false,.box (base.enc 107 r.2.2.2.2.1) false,.arr 145 r.2.2.2.2.2 false]
def zNy:LL ty zpN:=za (zgd 168) (za (zcI 169 0) (za (zgd 170) (za (lSl 107) (za zj (za zj (za zj (za zj zl)))))))
def zNV:BL ty zpF:=zge 107 false (zd7 (zdv (λx=>(⟨x.1,x.2.1⟩:Term)) (λx=>(x.Cf,x.Fs,())) (λ_=>rfl) (za (zT .i64) (za (lSl 145) zl))) false (zge 145 false (zbe)))
def zju (zJ:At->Bool×At) (t8:yB) (t9:Int) (t10:Int) (out_:yB):Wy zpj zpM (yB):=.i (decide (t10<t9)) (.i (decide (0<=t10)&&decide (t10<Int.ofNat t8.length)) (.bn (ze6 (t8.getD t10.toNat default).Fs) λr5=>.bn (zAT zJ (t8.length+t9.toNat +t10.toNat +(Int.ofNat r5.length).toNat +Int.toNat 0+out_.length+(t8.getD t10.toNat default).Fs.length+r5.length+1) t8 t9 t10 (Int.ofNat r5.length) 0 out_ (t8.getD t10.toNat default) r5) λr4=>.i (decide ((r4.2.2.2.1.length+[TO.mk r4.2.2.2.2.1.Cf r4.2.2.2.2.2].length)*32<=zA)) (.h ((),(r4.1),(r4.2.1),(IntKind.i64.wrap (r4.2.2.1+1)),()) ((r4.2.2.2.1++[TO.mk r4.2.2.2.2.1.Cf r4.2.2.2.2.2]),())) .d) .d) (.k out_)
def ztG (zJ:At->Bool×At) (x:zpj) (y:zpM):=zju zJ x.2.1 x.2.2.1 x.2.2.2.1 y.1
def zAI (zJ:At->Bool×At) (n:Nat) (t8:yB) (t9:Int) (t10:Int) (out_:yB):=zB (ztG zJ) default n ((),t8,t9,t10,()) (out_,())
def zMj (r:yB):LTree ty:=.done (.exit 0) [.own 168] [.arr 107 r false]
def zOB:LL ty zpj:=za (zgd 168) (za (lSl 107) (za zj (za zj zl)))
def zN3:BL ty zpM:=zge 107 false (zbe)
def zL5 (x:zpN) (y:zpF):Nat:=(x.2.2.2.1.length+Int.toNat x.2.2.2.2.1+Int.toNat x.2.2.2.2.2.1+Int.toNat x.2.2.2.2.2.2.1+Int.toNat x.2.2.2.2.2.2.2.1+y.1.length+y.2.1.Fs.length+y.2.2.1.length+1)
def zMA (x:zpj) (y:zpM):Nat:=(x.2.1.length+Int.toNat x.2.2.1+Int.toNat x.2.2.2.1+y.1.length+1)
def ztv (zJ:At->Bool×At):=zbZ base 42 [(132,zlj),(200,(zlO zJ))] [] [(3,[(3,.own 107),(8,.keep),(9,.keep),(10,.keep)]),(7,(kpL [3,5,6,8,9,10,18,19]))] [(3,1,(kpL [3])),(7,3,(kpL [3,5,6,8,9,10]))] [(7,spW zNy zNV (ztE zJ) default zMy zL5),(3,spW zOB zN3 (ztG zJ) default zMj zMA)] []
theorem zMk (zJ:At->Bool×At):zI (ztv zJ) (lp (body f141) 1):=zo (id:=7) (hl:=rfl)
theorem zMb (zJ:At->Bool×At):zI (ztv zJ) (lp (body f141) 0):=zo (id:=3) (hl:=rfl)
def zCr (zJ:At->Bool×At) (a:yB):Wy0 (yB):=.bn (zAI zJ (a.length+(Int.ofNat a.length).toNat +Int.toNat 0+0+1) a (Int.ofNat a.length) 0 []) λr8=>.k r8
def zlX (zJ:At->Bool×At) (a:yB):=(zCr zJ a).fin default
theorem zIV (zJ:At->Bool×At) (zIQ:SdP 200 (zlO zJ)):SdP 141 (zl8 (zlX zJ)):=
 sT (cx':=(ztv zJ)) (zi ⟨zu5,zIQ,trivial⟩) call141 func141 (lOK (aC (zMb zJ) (aC (zMk zJ) aN))) (sg:=⟨[.own 107],[]⟩)
def zdg:Cx ty:={ base with nt:=8 }
def zdG (s:yA):Bool×yA:=(decide (s.length*24<=zA),s)
def zh9:Ab.Spec ty:=zh (cx:=base) (zd (ze (vSl 51)) zr) λx=>((zdG x.1).1,⟨[.own 51 (zdG x.1).2],[]⟩)
theorem zrw:zew zdg f133 (body f133) ⟨[.own 51],[]⟩ [.pure (.lit (.slice none 0 0))]=some ⟨[.own 51 []],[]⟩:=by kernel_rfl
theorem zqt (p:Addr) (c:Nat):zew zdg f133 (body f133) ⟨[.own 51],[]⟩ [.pure (.lit (.slice (some p) 0 c))]=some ⟨[.own 51 []],[]⟩:=by kernel_rfl
theorem zqZ (l:yA):zew zdg f133 (body f133) ⟨[.own 51],[]⟩ [.pure (.sl 51 l)]=bif !l.isEmpty then bif decide ((([]:List (ty 51)).length+l.length)*24<=zA) then some ⟨[.own 51 l],[]⟩ else none else none:=by kernel_rfl
theorem zqq:SdP 133 zh9:=
 zxj (cx':=zdg) (bytes:=24) zA5 ze3 ⟨⟨rfl,rfl,rfl,rfl,rfl,rfl⟩,rfl⟩ (λg s h=>by cases h) call133 func133 (c:=body f133) (by kernel_rfl) (zsB (l:=[]) (by kernel_rfl) trivial) zrw zqt zqZ (by kernel_rfl)
def zdP:Cx ty:={ base with nt:=8 }
def zes (s:yD):Bool×yD:=(decide (s.length*56<=zA),s)
def zjm:Ab.Spec ty:=zh (cx:=base) (zd (ze (vSl 169)) zr) λx=>((zes x.1).1,⟨[.own 169 (zes x.1).2],[]⟩)
theorem zt0:zew zdP f134 (body f134) ⟨[.own 169],[]⟩ [.pure (.lit (.slice none 0 0))]=some ⟨[.own 169 []],[]⟩:=by kernel_rfl
theorem zsE (p:Addr) (c:Nat):zew zdP f134 (body f134) ⟨[.own 169],[]⟩ [.pure (.lit (.slice (some p) 0 c))]=some ⟨[.own 169 []],[]⟩:=by kernel_rfl
theorem ztA (l:yD):zew zdP f134 (body f134) ⟨[.own 169],[]⟩ [.pure (.sl 169 l)]=bif !l.isEmpty then bif decide ((([]:List (ty 169)).length+l.length)*56<=zA) then some ⟨[.own 169 l],[]⟩ else none else none:=by kernel_rfl
theorem zs3:SdP 134 zjm:=
 zxj (cx':=zdP) (bytes:=56) zA5 ze3 ⟨⟨rfl,rfl,rfl,rfl,rfl,rfl⟩,rfl⟩ (λg s h=>by cases h) call134 func134 (c:=body f134) (by kernel_rfl) (zsB (l:=[]) (by kernel_rfl) trivial) zt0 zsE ztA (by kernel_rfl)
abbrev zdD:=Unit×Unit×Int×Int×Unit
abbrev zk6:=(Int×Int×Int×Unit×Int×yD×Int×Int×Int×ByteArray×Unit)×(Int×Int×Int×Unit×Int×Unit×Int×Int×Int×ByteArray×Unit)×yA×Unit
abbrev zy2:=Int×Int×Int×Int×yD×Int×Int×Int×ByteArray×Int×Int×Int×Int×Int×Int×Int×ByteArray×yA
abbrev zkG:=(Int×Int×Int×Unit×Int×Unit×Int×Int×Int×ByteArray×Unit)×(Int×Int×Int×Unit×Int×Unit×Int×Int×Int×ByteArray×Unit)×yA×yD×Unit
abbrev zy9:=Int×Int×Int×Int×Int×Int×Int×ByteArray×Int×Int×Int×Int×Int×Int×Int×ByteArray×yA×yD
def zgC (zS:yB->Bool×yB) (t11:Int) (t12:Int) (x_0:Int) (x_1:Int) (x_2:Int) (x_3:Int) (x_4:yD) (x_5:Int) (x_6:Int) (x_7:Int) (x_8:ByteArray) (t2_0:Int) (t2_1:Int) (t2_2:Int) (t2_3:Int) (t2_4:Int) (t2_5:Int) (t2_6:Int) (t2_7:ByteArray) (b2:yA):Wy zdD zk6 zy2:=.i (decide (t12<t11)) (.i (decide (0<=t12)&&decide (t12<Int.ofNat b2.length)) (.bn (zS (b2.getD t12.toNat default)) λr0=>.i (decide (0<=t12)&&decide (t12<Int.ofNat b2.length)) (.i (decide (t12.toNat<b2.length)) (.h ((),(),t11,(IntKind.i64.wrap (t12+1)),()) ((x_0,x_1,x_2,(),x_3,x_4,x_5,x_6,x_7,x_8,()),(t2_0,t2_1,t2_2,(),t2_3,(),t2_4,t2_5,t2_6,t2_7,()),(b2.set t12.toNat r0),())) .d) .d) .d) (.k (x_0,x_1,x_2,x_3,x_4,x_5,x_6,x_7,x_8,t2_0,t2_1,t2_2,t2_3,t2_4,t2_5,t2_6,t2_7,b2))
def zog (zS:yB->Bool×yB) (x:zdD) (y:zk6):=zgC zS x.2.2.1 x.2.2.2.1 y.1.1 y.1.2.1 y.1.2.2.1 y.1.2.2.2.2.1 y.1.2.2.2.2.2.1 y.1.2.2.2.2.2.2.1 y.1.2.2.2.2.2.2.2.1 y.1.2.2.2.2.2.2.2.2.1 y.1.2.2.2.2.2.2.2.2.2.1 y.2.1.1 y.2.1.2.1 y.2.1.2.2.1 y.2.1.2.2.2.2.1 y.2.1.2.2.2.2.2.2.1 y.2.1.2.2.2.2.2.2.2.1 y.2.1.2.2.2.2.2.2.2.2.1 y.2.1.2.2.2.2.2.2.2.2.2.1 y.2.2.1
def zws (zS:yB->Bool×yB) (n:Nat) (t11:Int) (t12:Int) (x_0:Int) (x_1:Int) (x_2:Int) (x_3:Int) (x_4:yD) (x_5:Int) (x_6:Int) (x_7:Int) (x_8:ByteArray) (t2_0:Int) (t2_1:Int) (t2_2:Int) (t2_3:Int) (t2_4:Int) (t2_5:Int) (t2_6:Int) (t2_7:ByteArray) (b2:yA):=zB (zog zS) default n ((),(),t11,t12,()) ((x_0,x_1,x_2,(),x_3,x_4,x_5,x_6,x_7,x_8,()),(t2_0,t2_1,t2_2,(),t2_3,(),t2_4,t2_5,t2_6,t2_7,()),b2,())
def zGd (r:zy2):LTree ty:=.done (.exit 0) [.ptr 200 0,.ptr 201 0] [.box ([.lit (.int .i64 r.1),.lit (.int .i64 r.2.1),.lit (.int .i64 r.2.2.1),.own 202,.lit (.int .i64 r.2.2.2.1),.sl 169 r.2.2.2.2.1,.lit (.int .i64 r.2.2.2.2.2.1),.lit (.int .i64 r.2.2.2.2.2.2.1),.lit (.int .i64 r.2.2.2.2.2.2.2.1),.lit (.string r.2.2.2.2.2.2.2.2.1)]) false,.box ([.lit (.int .i64 r.2.2.2.2.2.2.2.2.2.1),.lit (.int .i64 r.2.2.2.2.2.2.2.2.2.2.1),.lit (.int .i64 r.2.2.2.2.2.2.2.2.2.2.2.1),.lit (.slice none 0 0),.lit (.int .i64 r.2.2.2.2.2.2.2.2.2.2.2.2.1),.lit (.slice none 0 0),.lit (.int .i64 r.2.2.2.2.2.2.2.2.2.2.2.2.2.1),.lit (.int .i64 r.2.2.2.2.2.2.2.2.2.2.2.2.2.2.1),.lit (.int .i64 r.2.2.2.2.2.2.2.2.2.2.2.2.2.2.2.1),.lit (.string r.2.2.2.2.2.2.2.2.2.2.2.2.2.2.2.2.1)]) false,.arr 51 r.2.2.2.2.2.2.2.2.2.2.2.2.2.2.2.2.2 false]
def zHS:LL ty zdD:=za (zcI 200 0) (za (zcI 201 0) (za zj (za zj zl)))
def zH1:BL ty zk6:=zd7 (za (zT .i64) (za (zT .i64) (za (zT .i64) (za (zgd 202) (za (zT .i64) (za (lSl 169) (za (zT .i64) (za (zT .i64) (za (zT .i64) (za ztx zl)))))))))) false (zd7 (za (zT .i64) (za (zT .i64) (za (zT .i64) (za zIm (za (zT .i64) (za zIm (za (zT .i64) (za (zT .i64) (za (zT .i64) (za ztx zl)))))))))) false (zge 51 false (zbe)))
def zgy (zS:yB->Bool×yB) (t32:Int) (t33:Int) (x_0:Int) (x_1:Int) (x_2:Int) (x_3:Int) (x_4:Int) (x_5:Int) (x_6:Int) (x_7:ByteArray) (t2_0:Int) (t2_1:Int) (t2_2:Int) (t2_3:Int) (t2_4:Int) (t2_5:Int) (t2_6:Int) (t2_7:ByteArray) (b2:yA) (b3:yD):Wy zdD zkG zy9:=.i (decide (t33<t32)) (.i (decide (0<=t33)&&decide (t33<Int.ofNat b3.length)) (.bn (zS (b3.getD t33.toNat default).Ann) λr2=>.i (decide (0<=t33)&&decide (t33<Int.ofNat b3.length)) (.i (decide (t33.toNat<b3.length)) (.h ((),(),t32,(IntKind.i64.wrap (t33+1)),()) ((x_0,x_1,x_2,(),x_3,(),x_4,x_5,x_6,x_7,()),(t2_0,t2_1,t2_2,(),t2_3,(),t2_4,t2_5,t2_6,t2_7,()),b2,(b3.set t33.toNat (WO.mk (b3.getD t33.toNat default).Value r2)),())) .d) .d) .d) (.k (x_0,x_1,x_2,x_3,x_4,x_5,x_6,x_7,t2_0,t2_1,t2_2,t2_3,t2_4,t2_5,t2_6,t2_7,b2,b3))
def zod (zS:yB->Bool×yB) (x:zdD) (y:zkG):=zgy zS x.2.2.1 x.2.2.2.1 y.1.1 y.1.2.1 y.1.2.2.1 y.1.2.2.2.2.1 y.1.2.2.2.2.2.2.1 y.1.2.2.2.2.2.2.2.1 y.1.2.2.2.2.2.2.2.2.1 y.1.2.2.2.2.2.2.2.2.2.1 y.2.1.1 y.2.1.2.1 y.2.1.2.2.1 y.2.1.2.2.2.2.1 y.2.1.2.2.2.2.2.2.1 y.2.1.2.2.2.2.2.2.2.1 y.2.1.2.2.2.2.2.2.2.2.1 y.2.1.2.2.2.2.2.2.2.2.2.1 y.2.2.1 y.2.2.2.1
def zww (zS:yB->Bool×yB) (n:Nat) (t32:Int) (t33:Int) (x_0:Int) (x_1:Int) (x_2:Int) (x_3:Int) (x_4:Int) (x_5:Int) (x_6:Int) (x_7:ByteArray) (t2_0:Int) (t2_1:Int) (t2_2:Int) (t2_3:Int) (t2_4:Int) (t2_5:Int) (t2_6:Int) (t2_7:ByteArray) (b2:yA) (b3:yD):=zB (zod zS) default n ((),(),t32,t33,()) ((x_0,x_1,x_2,(),x_3,(),x_4,x_5,x_6,x_7,()),(t2_0,t2_1,t2_2,(),t2_3,(),t2_4,t2_5,t2_6,t2_7,()),b2,b3,())
def zGn (r:zy9):LTree ty:=.done (.exit 2) [.ptr 200 0,.ptr 201 0] [.box ([.lit (.int .i64 r.1),.lit (.int .i64 r.2.1),.lit (.int .i64 r.2.2.1),.own 202,.lit (.int .i64 r.2.2.2.1),.own 203,.lit (.int .i64 r.2.2.2.2.1),.lit (.int .i64 r.2.2.2.2.2.1),.lit (.int .i64 r.2.2.2.2.2.2.1),.lit (.string r.2.2.2.2.2.2.2.1)]) false,.box ([.lit (.int .i64 r.2.2.2.2.2.2.2.2.1),.lit (.int .i64 r.2.2.2.2.2.2.2.2.2.1),.lit (.int .i64 r.2.2.2.2.2.2.2.2.2.2.1),.lit (.slice none 0 0),.lit (.int .i64 r.2.2.2.2.2.2.2.2.2.2.2.1),.lit (.slice none 0 0),.lit (.int .i64 r.2.2.2.2.2.2.2.2.2.2.2.2.1),.lit (.int .i64 r.2.2.2.2.2.2.2.2.2.2.2.2.2.1),.lit (.int .i64 r.2.2.2.2.2.2.2.2.2.2.2.2.2.2.1),.lit (.string r.2.2.2.2.2.2.2.2.2.2.2.2.2.2.2.1)]) false,.arr 51 r.2.2.2.2.2.2.2.2.2.2.2.2.2.2.2.2.1 false,.arr 169 r.2.2.2.2.2.2.2.2.2.2.2.2.2.2.2.2.2 false]
def zHA:BL ty zkG:=zd7 (za (zT .i64) (za (zT .i64) (za (zT .i64) (za (zgd 202) (za (zT .i64) (za (zgd 203) (za (zT .i64) (za (zT .i64) (za (zT .i64) (za ztx zl)))))))))) false (zd7 (za (zT .i64) (za (zT .i64) (za (zT .i64) (za zIm (za (zT .i64) (za zIm (za (zT .i64) (za (zT .i64) (za (zT .i64) (za ztx zl)))))))))) false (zge 51 false (zge 169 false (zbe))))
def zGi (x:zdD) (y:zk6):Nat:=(Int.toNat x.2.2.1+Int.toNat x.2.2.2.1+Int.toNat y.1.1+Int.toNat y.1.2.1+Int.toNat y.1.2.2.1+Int.toNat y.1.2.2.2.2.1+y.1.2.2.2.2.2.1.length+Int.toNat y.1.2.2.2.2.2.2.1+Int.toNat y.1.2.2.2.2.2.2.2.1+Int.toNat y.1.2.2.2.2.2.2.2.2.1+y.1.2.2.2.2.2.2.2.2.2.1.size+Int.toNat y.2.1.1+Int.toNat y.2.1.2.1+Int.toNat y.2.1.2.2.1+Int.toNat y.2.1.2.2.2.2.1+Int.toNat y.2.1.2.2.2.2.2.2.1+Int.toNat y.2.1.2.2.2.2.2.2.2.1+Int.toNat y.2.1.2.2.2.2.2.2.2.2.1+y.2.1.2.2.2.2.2.2.2.2.2.1.size+y.2.2.1.length+1)
def zGO (x:zdD) (y:zkG):Nat:=(Int.toNat x.2.2.1+Int.toNat x.2.2.2.1+Int.toNat y.1.1+Int.toNat y.1.2.1+Int.toNat y.1.2.2.1+Int.toNat y.1.2.2.2.2.1+Int.toNat y.1.2.2.2.2.2.2.1+Int.toNat y.1.2.2.2.2.2.2.2.1+Int.toNat y.1.2.2.2.2.2.2.2.2.1+y.1.2.2.2.2.2.2.2.2.2.1.size+Int.toNat y.2.1.1+Int.toNat y.2.1.2.1+Int.toNat y.2.1.2.2.1+Int.toNat y.2.1.2.2.2.2.1+Int.toNat y.2.1.2.2.2.2.2.2.1+Int.toNat y.2.1.2.2.2.2.2.2.2.1+Int.toNat y.2.1.2.2.2.2.2.2.2.2.1+y.2.1.2.2.2.2.2.2.2.2.2.1.size+y.2.2.1.length+y.2.2.2.1.length+1)
def zoi (zS:yB->Bool×yB):=zbZ base 50 [(133,zh9),(134,zjm),(141,(zl8 zS))] [] [(3,(kpL [1,2,11,12])),(9,(kpL [1,2,32,33]))] [(3,1,(kpL [1,2])),(9,3,(kpL [1,2]))] [(3,spW zHS zH1 (zog zS) default zGd zGi),(9,spW zHS zHA (zod zS) default zGn zGO)] []
theorem zGj (zS:yB->Bool×yB):zI (zoi zS) (lp (body f200) 0):=zo (id:=3) (hl:=rfl)
theorem zF6 (zS:yB->Bool×yB):zI (zoi zS) (lp (body f200) 1):=zo (id:=9) (hl:=rfl)
def zya (zS:yB->Bool×yB) (x_:At):Wy0 (At):=.bn (zdG x_.Ag) λr7=>.bn (zws zS ((Int.ofNat r7.length).toNat +Int.toNat 0+x_.Kind.toNat +x_.Row.Table.toNat +x_.Row.Seq.toNat +x_.Func.toNat +x_.Items.length+x_.Op.toNat +x_.Bd.Kind.toNat +x_.Bd.Int.toNat +x_.Bd.Text.size+Int.toNat 0+Int.toNat 0+Int.toNat 0+Int.toNat 0+Int.toNat 0+Int.toNat 0+Int.toNat 0+(ByteArray.mk #[]).size+r7.length+1) (Int.ofNat r7.length) 0 x_.Kind x_.Row.Table x_.Row.Seq x_.Func x_.Items x_.Op x_.Bd.Kind x_.Bd.Int x_.Bd.Text 0 0 0 0 0 0 0 (ByteArray.mk #[]) r7) λr6=>.bn (zes r6.2.2.2.2.1) λr5=>.bn (zww zS ((Int.ofNat r5.length).toNat +Int.toNat 0+r6.1.toNat +r6.2.1.toNat +r6.2.2.1.toNat +r6.2.2.2.1.toNat +r6.2.2.2.2.2.1.toNat +r6.2.2.2.2.2.2.1.toNat +r6.2.2.2.2.2.2.2.1.toNat +r6.2.2.2.2.2.2.2.2.1.size+r6.2.2.2.2.2.2.2.2.2.1.toNat +r6.2.2.2.2.2.2.2.2.2.2.1.toNat +r6.2.2.2.2.2.2.2.2.2.2.2.1.toNat +r6.2.2.2.2.2.2.2.2.2.2.2.2.1.toNat +r6.2.2.2.2.2.2.2.2.2.2.2.2.2.1.toNat +r6.2.2.2.2.2.2.2.2.2.2.2.2.2.2.1.toNat +r6.2.2.2.2.2.2.2.2.2.2.2.2.2.2.2.1.toNat +r6.2.2.2.2.2.2.2.2.2.2.2.2.2.2.2.2.1.size+r6.2.2.2.2.2.2.2.2.2.2.2.2.2.2.2.2.2.length+r5.length+1) (Int.ofNat r5.length) 0 r6.1 r6.2.1 r6.2.2.1 r6.2.2.2.1 r6.2.2.2.2.2.1 r6.2.2.2.2.2.2.1 r6.2.2.2.2.2.2.2.1 r6.2.2.2.2.2.2.2.2.1 r6.2.2.2.2.2.2.2.2.2.1 r6.2.2.2.2.2.2.2.2.2.2.1 r6.2.2.2.2.2.2.2.2.2.2.2.1 r6.2.2.2.2.2.2.2.2.2.2.2.2.1 r6.2.2.2.2.2.2.2.2.2.2.2.2.2.1 r6.2.2.2.2.2.2.2.2.2.2.2.2.2.2.1 r6.2.2.2.2.2.2.2.2.2.2.2.2.2.2.2.1 r6.2.2.2.2.2.2.2.2.2.2.2.2.2.2.2.2.1 r6.2.2.2.2.2.2.2.2.2.2.2.2.2.2.2.2.2 r5) λr4=>.k (⟨r4.1,(⟨r4.2.1,r4.2.2.1⟩:RowID),r4.2.2.2.2.2.2.2.2.2.2.2.2.2.2.2.2.1,r4.2.2.2.1,r4.2.2.2.2.2.2.2.2.2.2.2.2.2.2.2.2.2,r4.2.2.2.2.1,(⟨r4.2.2.2.2.2.1,r4.2.2.2.2.2.2.1,r4.2.2.2.2.2.2.2.1⟩:Value)⟩:At)
def ziO (zS:yB->Bool×yB) (x_:At):=(zya zS x_).fin default
theorem zEp (zS:yB->Bool×yB) (zP1:SdP 141 (zl8 zS)):SdP 200 (zlO (ziO zS)):=
 sT (cx':=(zoi zS)) (zi ⟨zqq,zs3,zP1,trivial⟩) call200 func200 (lOK (aC (zGj zS) (aC (zF6 zS) aN)))
def zI5:Nat->(yB->Bool×yB)×(At->Bool×At)
 | 0=>(λ_=>(false,default),λ_=>(false,default))
 | n+1=>(zlX ((zI5 n).2),ziO ((zI5 n).1))
def zmf (n:Nat):yB->Bool×yB:=(zI5 n).1
def zlT (n:Nat):At->Bool×At:=(zI5 n).2
theorem zNK (n:Nat):zmf (n+1)=zlX (zlT n):=rfl
theorem zIk (n:Nat):zlT (n+1)=ziO (zmf n):=rfl
theorem zWl:∀ n,SdP 141 (zl8 (zmf n))/\SdP 200 (zlO (zlT n))
 | 0=>⟨zbk call141 (λ_=>rfl),zbk call200 (λ_=>rfl)⟩
 | n+1=>by
  have ih:=zWl n;exact ⟨zIV _ (ih.2),zEp _ (ih.1)⟩
def zgT:yB->Bool×yB:=zmf 1000
def zgK:Ab.Spec ty:=zl8 zgT
theorem ziR:SdP 141 zgK:=(zWl 1000).1
def zQo:=zbv base 9 [(103,ztN),(141,zgK)]
def zDH (a:yB):Wy0 (yB×Int):=.bn (zlt a) λr1=>.i (!r1) (.k ([],6)) (.bn (zgT a) λr0=>.k (r0,0))
def zek (a:yB):=(zDH a).fin default
def zOp (r:yB×Int):ARes ty:=⟨[.own 107 r.1,.pure (.lit (.int .i64 r.2))],[]⟩
def zeF:=zh zVa λx=>((zek x.1).1,zOp (zek x.1).2)
theorem zft:SdP 124 zeF:=
 sT (cx':=zQo) (zi ⟨zzL,ziR,trivial⟩) call124 func124 (lOK aN) (sg:=⟨[.own 107,.pure],[]⟩)
def zxn:=zbv base 27 []
def zmz (n_:Int):Wy0 (yB):=.i (decide (n_<0)) .d (.i (decide (IntKind.i64.wrap (n_ - IntKind.i64.wrap (0 - 0))>0)) (.i (decide (0<IntKind.i64.wrap (n_ - IntKind.i64.wrap (0 - 0)))&&(decide (IntKind.i64.wrap (n_ - IntKind.i64.wrap (0 - 0))*Int.ofNat 32<=Int.ofNat zA)&&(decide (IntKind.i64.wrap (n_ - IntKind.i64.wrap (0 - 0))<=Int.ofNat zA)&& !Nat.beq 2 0))) (.k (List.take (Int.toNat 0 - Int.toNat 0) (List.replicate (IntKind.i64.wrap (n_ - IntKind.i64.wrap (0 - 0))).toNat (TO.mk 0 [])))) .d) (.k []))
def zdN (n_:Int):=(zmz n_).fin default
def zyg:AL base (Unit×Int×Unit):=zd (ze zbbt) (zd (ze zgq) zr)
def zk5:=zh zyg λx=>((zdN x.2.1).1,z3K (zdN x.2.1).2)
theorem zu6:SdP 193 zk5:=
 sT (cx':=zxn) (zi trivial) call193 func193 (lOK aN) (sg:=⟨[.own 107],[]⟩)
abbrev zeJ:=yA×Int×yA×Int×Int×Unit
abbrev zm6:=yA×Int
abbrev zeV:=Unit×yA×Int×Int×Unit
abbrev zeW:=yB×Unit
def zcZ (slices:yA) (size:Int) (t9:yA) (t10:Int) (t11:Int):Wy zeJ Unit zm6:=.i (decide (t11<t10)) (.i (decide (0<=t11)&&decide (t11<Int.ofNat t9.length)) (.i (decide (IntKind.i64.wrap (size+Int.ofNat (List.length (t9.getD t11.toNat default)))<0)) .d (.h (slices,(IntKind.i64.wrap (size+Int.ofNat (List.length (t9.getD t11.toNat default)))),t9,t10,(IntKind.i64.wrap (t11+1)),()) ())) .d) (.k (slices,size))
def zgg (x:zeJ) (y:Unit):=zcZ x.1 x.2.1 x.2.2.1 x.2.2.2.1 x.2.2.2.2.1
def zla (n:Nat) (slices:yA) (size:Int) (t9:yA) (t10:Int) (t11:Int):=zB (zgg) default n (slices,size,t9,t10,t11,()) ()
def zu0 (r:zm6):LTree ty:=.done (.exit 0) [.sl 51 r.1,.lit (.int .i64 r.2)] []
def zvF:LL ty zeJ:=za (lSl 51) (za zj (za (lSl 51) (za zj (za zj zl))))
def zcR (t25:yA) (t26:Int) (t27:Int) (newslice:yB):Wy zeV zeW (yB):=.i (decide (t27<t26)) (.i (decide (0<=t27)&&decide (t27<Int.ofNat t25.length)) (.i (decide ((newslice.length+List.length (t25.getD t27.toNat default))*32<=zA)) (.h ((),t25,t26,(IntKind.i64.wrap (t27+1)),()) ((newslice++t25.getD t27.toNat default),())) .d) .d) (.k newslice)
def zfT (x:zeV) (y:zeW):=zcR x.2.1 x.2.2.1 x.2.2.2.1 y.1
def zkA (n:Nat) (t25:yA) (t26:Int) (t27:Int) (newslice:yB):=zB (zfT) default n ((),t25,t26,t27,()) (newslice,())
def zug (r:yB):LTree ty:=.done (.exit 2) [.own 144] [.arr 107 r false]
def zvc:LL ty zeV:=za (zgd 144) (za (lSl 51) (za zj (za zj zl)))
def zvd:BL ty zeW:=zge 107 false (zbe)
def zvf (x:zeJ) (y:Unit):Nat:=(x.1.length+Int.toNat x.2.1+x.2.2.1.length+Int.toNat x.2.2.2.1+Int.toNat x.2.2.2.2.1+1)
def zut (x:zeV) (y:zeW):Nat:=(x.2.1.length+Int.toNat x.2.2.1+Int.toNat x.2.2.2.1+y.1.length+1)
def zgf:=zbZ base 36 [(193,zk5)] [] [(3,(kpL [0,3,9,10,11])),(11,(kpL [6,25,26,27]))] [(3,1,(kpL [0,3])),(11,3,(kpL [6]))] [(3,spW zvF z6k (zgg) default zu0 zvf),(11,spW zvc zvd (zfT) default zug zut)] [193]
theorem zu9:zI zgf (lp (body f126) 0):=zo (id:=3) (hl:=rfl)
theorem zuX:zI zgf (lp (body f126) 1):=zo (id:=11) (hl:=rfl)
def zlF (slices:yA):Wy0 (yB):=.bn (zla (slices.length+Int.toNat 0+slices.length+(Int.ofNat slices.length).toNat +Int.toNat 0+1) slices 0 slices (Int.ofNat slices.length) 0) λr2=>.bn (zdN r2.2) λr1=>.bn (zkA (r2.1.length+(Int.ofNat r2.1.length).toNat +Int.toNat 0+r1.length+1) r2.1 (Int.ofNat r2.1.length) 0 r1) λr0=>.k r0
def zdu (slices:yA):=(zlF slices).fin default
def zwr:AL base (yA×Unit):=zd (ze (vSl 51)) zr
def zkb:=zh zwr λx=>((zdu x.1).1,z3K (zdu x.1).2)
theorem ztZ:SdP 126 zkb:=
 sT (cx':=zgf) (zi ⟨zu6,trivial⟩) call126 func126 (lOK (aC zu9 (aC zuX aN))) (sg:=⟨[.own 107],[]⟩)
def zYf:=zbv zbt 22 [(52,zcn),(124,zeF),(125,zrT),(126,zkb)]
def zKJ (a:yB) (b:yB):Wy0 (yB×Int):=.bn (zb9 a) λr4=>.i (!r4) (.k ([],1)) (.bn (zb9 b) λr3=>.i (!r3) (.k ([],1)) (.bn (zdu [a,b]) λr2=>.bn (zh5 r2) λr1=>.bn (zek r1) λr0=>.k (r0.1,r0.2)))
def zql (a:yB) (b:yB):=(zKJ a b).fin default
def z03:AL zbt (yB×yB×Unit):=zd (ze (vSl 107)) (zd (ze (vSl 107)) zr)
def zxM:=zh z03 λx=>((zql x.1 x.2.1).1,zOp (zql x.1 x.2.1).2)
theorem zCX:Sound Tryz.prog zbt 72 zxM:=
 sU (cx':=zYf) (zi ⟨zcx.nodr,zft.nodr,zy3,ztZ.nodr,trivial⟩) call72 func72 (lOK aN) (sg:=⟨[.own 107,.pure],[]⟩)
def zLM:=zbv base 7 []
def zMD (x_:Row):Wy0 (Bool):=.k (Int.ofNat x_.Ann.length==0)
def zhr (x_:Row):=(zMD x_).fin default
def zL9:AL base (Row×Unit):=zd (ze (zbX 54)) zr
def zjM:=zh zL9 λx=>((zhr x.1).1,zUI (zhr x.1).2)
theorem znf:SdP 69 zjM:=
 sT (cx':=zLM) (zi trivial) call69 func69 (lOK aN)
def zQI:AL zbt (yB×((yE×Unit)×Unit)×Unit):=zd (ze (vSl 107)) (zd (ze (vFn 138 (zzd (z3k (zzd (vSl 65) zc3)) zc3))) zr)
def zlk (F:yB->yE->Bool×(yB×Int)):Ab.Spec ty:=zh zQI λx=>((F x.1 x.2.1.1.1).1,zOp (F x.1 x.2.1.1.1).2)
def zLO:AL zbt (At×((yE×Unit)×Unit)×Unit):=zd (ze (zbX 143)) (zd (ze (vFn 138 (zzd (z3k (zzd (vSl 65) zc3)) zc3))) zr)
def zk8 (F:At->yE->Bool×(yB×Int)):Ab.Spec ty:=zh zLO λx=>((F x.1 x.2.1.1.1).1,zOp (F x.1 x.2.1.1.1).2)
end Go.Proofs.YtoknknbmfmddbaaGreatDoor
end
