/- Texts of this claim, joined (the program, its functions in plain words, and what they compute). -/
import Derived.WalkKit
import Derived.WalkSpells
import Derived.Test.YtoknknbmfmddbaaGreatDoorGC2
set_option autoImplicit false
set_option linter.unusedVariables false
set_option linter.unusedSectionVars false
set_option linter.unusedSimpArgs false
set_option maxRecDepth 1000000
set_option maxHeartbeats 0
noncomputable section
namespace Go.Proofs.YtoknknbmfmddbaaGreatDoor
open Go Go.Ab
open Go.Proofs.Tryz
abbrev zc8:=yD×Unit×Int×Int×Unit
def zm5 (zf:Wd->Bool×Bool) (s:yD) (t7:Int) (t8:Int):Wy zc8 Unit (Int⊕Unit):=.i (decide (t8<t7)) (.i (decide (0<=t8)&&decide (t8<Int.ofNat s.length)) (.bn (zf (s.getD t8.toNat default)) λr0=>.i (r0) (.k (.inl t8)) (.h (s,(),t7,(IntKind.i64.wrap (t8+1)),()) ())) .d) (.k (.inr ()))
def zfV (zf:Wd->Bool×Bool) (x:zc8) (y:Unit):=zm5 zf x.1 x.2.2.1 x.2.2.2.1
def znb (zf:Wd->Bool×Bool) (n:Nat) (s:yD) (t7:Int) (t8:Int):=zD (zfV zf) (.inl default) n (s,(),t7,t8,()) ()
def znj:LL ty zc8:=za (lSl 169) (za (lFn 179 (zn)) (za zj (za zj zn)))
def zmZ (x:zc8) (y:Unit):Nat:=(x.1.length+Int.toNat x.2.2.1+Int.toNat x.2.2.2.1+1)
def zfZ (zf:Wd->Bool×Bool):=zb4 base 19 [(179,(zcZ zf))] [] [(2,(kpL [0,1,7,8]))] [(2,1,[]),(2,0,(kpL [4]))] [(2,spW znj z0j (zfV zf) (.inl default) zpL zmZ)] []
theorem zmX (zf:Wd->Bool×Bool):zM (zfZ zf) (lp (body f228) 0):=zu (id:=2) (hl:=rfl)
def znP (zf:Wd->Bool×Bool) (s:yD):Wy0 (Int):=.bn (znb zf (s.length+(Int.ofNat s.length).toNat +Int.toNat 0+1) s (Int.ofNat s.length) 0) λr2=>.i (isL r2) (.k (getL r2)) (.k (-1:Int))
def zcJ (zf:Wd->Bool×Bool) (s:yD):=(znP zf s).fin default
theorem zlM (zf:Wd->Bool×Bool) (ze8:SdP 179 (zcZ zf)):SdP 228 (zcI (zcJ zf)):=
 sT (cx':=(zfZ zf)) (zk ⟨ze8,trivial⟩) call228 func228 (lOK (aC (zmX zf) aN))
def zdF:Nat->(yB->Bool×Bool)×(At->Bool×Bool)×(yB->Bool×Bool)×(Wd->Bool×Bool)×(yA->Bool×Int)×(yA->Bool×Bool)×(yD->Bool×Int)×(yD->Bool×Bool)
 | 0=>(λ_=>(false,default),λ_=>(false,default),λ_=>(false,default),λ_=>(false,default),λ_=>(false,default),λ_=>(false,default),λ_=>(false,default),λ_=>(false,default))
 | n+1=>(zlP ((zdF n).2.1),zig ((zdF n).2.2.2.2.2.1) ((zdF n).2.2.1) ((zdF n).2.2.2.2.2.2.2) ((zdF n).2.2.2.1),zi8 ((zdF n).1),zja ((zdF n).1),zco ((zdF n).2.2.1),zcc ((zdF n).2.2.1) ((zdF n).2.2.2.2.1),zcJ ((zdF n).2.2.2.1),zcx ((zdF n).2.2.2.1) ((zdF n).2.2.2.2.2.2.1))
def ziN (n:Nat):yB->Bool×Bool:=(zdF n).1
def zle (n:Nat):At->Bool×Bool:=(zdF n).2.1
def zeq (n:Nat):yB->Bool×Bool:=(zdF n).2.2.1
def zep (n:Nat):Wd->Bool×Bool:=(zdF n).2.2.2.1
def zcn (n:Nat):yA->Bool×Int:=(zdF n).2.2.2.2.1
def zcb (n:Nat):yA->Bool×Bool:=(zdF n).2.2.2.2.2.1
def zcH (n:Nat):yD->Bool×Int:=(zdF n).2.2.2.2.2.2.1
def zcu (n:Nat):yD->Bool×Bool:=(zdF n).2.2.2.2.2.2.2
theorem zLS (n:Nat):ziN (n+1)=zlP (zle n):=rfl
theorem zGp (n:Nat):zle (n+1)=zig (zcb n) (zeq n) (zcu n) (zep n):=rfl
theorem zCI (n:Nat):zeq (n+1)=zi8 (ziN n):=rfl
theorem zCX (n:Nat):zep (n+1)=zja (ziN n):=rfl
theorem zk2 (n:Nat):zcn (n+1)=zco (zeq n):=rfl
theorem zkj (n:Nat):zcb (n+1)=zcc (zeq n) (zcn n):=rfl
theorem znp (n:Nat):zcH (n+1)=zcJ (zep n):=rfl
theorem zlu (n:Nat):zcu (n+1)=zcx (zep n) (zcH n):=rfl
theorem zVK:∀ n,SdP 52 (zgN (ziN n))/\SdP 107 (zlk (zle n))/\SdP 174 (zgN (zeq n))/\SdP 179 (zcZ (zep n))/\SdP 226 (zcp (zcn n))/\SdP 173 (zcd (zcb n))/\SdP 228 (zcI (zcH n))/\SdP 178 (zcv (zcu n))
 | 0=>⟨zbl call52 (λ_=>rfl),zbl call107 (λ_=>rfl),zbl call174 (λ_=>rfl),zbl call179 (λ_=>rfl),zbl call226 (λ_=>rfl),zbl call173 (λ_=>rfl),zbl call228 (λ_=>rfl),zbl call178 (λ_=>rfl)⟩
 | n+1=>by
  have ih:=zVK n;exact ⟨zHw _ (ih.2.1),zCv _ _ _ _ (ih.2.2.2.2.2.1) (ih.2.2.1) (ih.2.2.2.2.2.2.2) (ih.2.2.2.1),zz8 _ (ih.1),zz6 _ (ih.1),zkh _ (ih.2.2.1),zjm _ _ (ih.2.2.1) (ih.2.2.2.2.1),zlM _ (ih.2.2.2.1),zkB _ _ (ih.2.2.2.1) (ih.2.2.2.2.2.2.1)⟩
def zcs:yB->Bool×Bool:=ziN 1000
def zce:Ab.Spec ty:=zgN zcs
theorem zck:SdP 52 zce:=(zVK 1000).1
def zQD (r:ByteArray):ARes ty:=⟨[.pure (.lit (.string r))],[]⟩
def zU3:AL zby (yB×Unit):=zd (zg (vSl 107)) zw
def zm7 (F:yB->Bool×ByteArray):Ab.Spec ty:=zh zU3 λx=>((F x.1).1,zQD (F x.1).2)
def zJb:AL zby (At×Unit):=zd (zg (zcj 143)) zw
def zkq (F:At->Bool×ByteArray):Ab.Spec ty:=zh zJb λx=>((F x.1).1,zQD (F x.1).2)
def zFh:AL zby (yC×Unit):=zd (zg (vSl 145)) zw
def zfA (F:yC->Bool×ByteArray):Ab.Spec ty:=zh zFh λx=>((F x.1).1,zQD (F x.1).2)
def zIA:=zbG base 2 []
def zLd:Wy0 (List ByteArray):=.k [ByteArray.mk #[(67:UInt8),(79:UInt8),(85:UInt8),(78:UInt8),(84:UInt8)],ByteArray.mk #[(83:UInt8),(85:UInt8),(77:UInt8)],ByteArray.mk #[(77:UInt8),(73:UInt8),(78:UInt8)],ByteArray.mk #[(77:UInt8),(65:UInt8),(88:UInt8)]]
def zcq:Bool×List ByteArray:=(zLd).fin default
def zHU (r:List ByteArray):ARes ty:=⟨[.own 9 r],[]⟩
def zvR:=zh zYH λx=>((zcq ).1,zHU (zcq ).2)
theorem zE4:SdP 265 zvR:=
 sT (cx':=zIA) (zk trivial) call265 func265 (lOK aN) (sg:=⟨[.own 9],[]⟩)
def zIW:=zbG base 2 []
def zLj:Wy0 (List ByteArray):=.k [ByteArray.mk #[(61:UInt8)],ByteArray.mk #[(60:UInt8),(62:UInt8)],ByteArray.mk #[(60:UInt8)],ByteArray.mk #[(60:UInt8),(61:UInt8)],ByteArray.mk #[(62:UInt8)],ByteArray.mk #[(62:UInt8),(61:UInt8)]]
def zeb:Bool×List ByteArray:=(zLj).fin default
def zvG:=zh zYH λx=>((zeb ).1,zHU (zeb ).2)
theorem zFf:SdP 266 zvG:=
 sT (cx':=zIW) (zk trivial) call266 func266 (lOK aN) (sg:=⟨[.own 9],[]⟩)
def strings_Join (l:List ByteArray) (sep:ByteArray):Bool×ByteArray:=z07 l sep
def zm8:Ab.Spec ty:=zh (cx:=zby) (zd (zg (vSl 9)) (zd (zg zvy) zw)) λx=>((strings_Join x.1 x.2.1).1,⟨[.pure (.lit (.string (strings_Join x.1 x.2.1).2))],[]⟩)
theorem zqK:Sound Tryz.prog zby 44 zm8:=z5r (T:=9) zPy rfl Go.Proofs.Tryz.lays156 Go.Proofs.Tryz.Builder_Extra_156 call44 (λs:ByteArray=>s) (λ_=>rfl) strings_Join (λl sep=>congrArg (λl=>z07 l sep) (List.map_id' (α:=ByteArray) l).symm)
def strconv_Itoa (x:Int):Bool×ByteArray:=zUd x
def zxz:Ab.Spec ty:=zh (cx:=base) (zd (zg (zfx .i64)) zw) λx=>((strconv_Itoa x.1).1,⟨[.pure (.lit (.string (strconv_Itoa x.1).2))],[]⟩)
theorem zDT:SdP 216 zxz:=z4r zdj Go.Proofs.Tryz.laysM171 call216 (λ_ h=>h.1)
def zWv:=zbG base 15 [(116,zrW),(216,zxz)]
def zXE (id:RowID):Wy0 (ByteArray):=.bn (zoJ id) λr2=>.i (!r2) (.k (ByteArray.mk #[])) (.bn (strconv_Itoa id.Table) λr1=>.i (decide ((ByteArray.mk #[(116:UInt8)]).size+r1.size<=9223372036854775807)) (.i (decide ((ByteArray.mk #[(116:UInt8)]++r1).size+(ByteArray.mk #[(46:UInt8)]).size<=9223372036854775807)) (.bn (strconv_Itoa id.Seq) λr0=>.i (decide ((ByteArray.mk #[(116:UInt8)]++r1++ByteArray.mk #[(46:UInt8)]).size+r0.size<=9223372036854775807)) (.k (ByteArray.mk #[(116:UInt8)]++r1++ByteArray.mk #[(46:UInt8)]++r0)) .d) .d) .d)
def zEU (id:RowID):=(zXE id).fin default
def zD1:=zh z3p λx=>((zEU x.1).1,zQD (zEU x.1).2)
theorem zRj:SdP 264 zD1:=
 sT (cx':=zWv) (zk ⟨zv9,zDT,trivial⟩) call264 func264 (lOK aN)
def zm2 (m b:Int):Bool×ByteArray:=zw0 m b
def zrm:Ab.Spec ty:=zh (cx:=base) (zd (zg (zfx .i64)) (zd (zg (zfx .i64)) zw)) λx=>((zm2 x.1 x.2.1).1,⟨[.pure (.lit (.string (zm2 x.1 x.2.1).2))],[]⟩)
theorem zw6:SdP 92 zrm:=zX6 zdj Go.Proofs.Tryz.laysM173 call92 (λ_ h=>h.1)
def strings_ReplaceAll (s p q:ByteArray):Bool×ByteArray:=zuV s p q
def zxa:Ab.Spec ty:=zh (cx:=zby) (zd (zg zvy) (zd (zg zvy) (zd (zg zvy) zw))) λx=>((strings_ReplaceAll x.1 x.2.1 x.2.2.1).1,⟨[.pure (.lit (.string (strings_ReplaceAll x.1 x.2.1 x.2.2.1).2))],[]⟩)
theorem zHV:Sound Tryz.prog zby 93 zxa:=zV0 zPy rfl Go.Proofs.Tryz.lays155 Go.Proofs.Tryz.Builder_Extra_155 call93 (λ_ h=>h.2)
def zXD:=zbG zby 27 [(91,zoT),(92,zrm),(93,zxa)]
def zYN (v:Value):Wy0 (ByteArray):=.bn (zob v) λr2=>.i (!r2) (.k (ByteArray.mk #[])) (.i (v.Kind==0) (.bn (zm2 v.Int 10) λr0=>.k r0) (.i (v.Kind==1) (.bn (strings_ReplaceAll v.Text (ByteArray.mk #[(39:UInt8)]) (ByteArray.mk #[(39:UInt8),(39:UInt8)])) λr1=>.i (decide ((ByteArray.mk #[(39:UInt8)]).size+r1.size<=9223372036854775807)) (.i (decide ((ByteArray.mk #[(39:UInt8)]++r1).size+(ByteArray.mk #[(39:UInt8)]).size<=9223372036854775807)) (.k (ByteArray.mk #[(39:UInt8)]++r1++ByteArray.mk #[(39:UInt8)])) .d) .d) (.i (v.Int==1) (.k (ByteArray.mk #[(84:UInt8),(82:UInt8),(85:UInt8),(69:UInt8)])) (.k (ByteArray.mk #[(70:UInt8),(65:UInt8),(76:UInt8),(83:UInt8),(69:UInt8)])))))
def zwD (v:Value):=(zYN v).fin default
def zZb:AL zby (Value×Unit):=zd (zg (zcj 79)) zw
def zxD:=zh zZb λx=>((zwD x.1).1,zQD (zwD x.1).2)
theorem zDd:Sound Tryz.prog zby 45 zxD:=
 sU (cx':=zXD) (zk ⟨zrS.nodr,zw6.nodr,zHV,trivial⟩) call45 func45 (lOK aN)
abbrev zjK:=Unit×Unit×yD×Int×Int×Unit
abbrev zjq:=At×List ByteArray×Unit
abbrev zwn:=At×List ByteArray
def zEm (zbi:yB->Bool×ByteArray) (t48:yD) (t49:Int) (t50:Int) (x_:At) (items:List ByteArray):Wy zjK zjq zwn:=.i (decide (t50<t49)) (.i (decide (0<=t50)&&decide (t50<Int.ofNat t48.length)) (.bn (zwD (t48.getD t50.toNat default).Value) λr1=>.i (decide (r1.size+(ByteArray.mk #[(58:UInt8),(32:UInt8)]).size<=9223372036854775807)) (.bn (zbi (t48.getD t50.toNat default).Ann) λr0=>.i (decide ((r1++ByteArray.mk #[(58:UInt8),(32:UInt8)]).size+r0.size<=9223372036854775807)) (.i (decide ((items.length+[r1++ByteArray.mk #[(58:UInt8),(32:UInt8)]++r0].length)*16<=zbm)) (.h ((),(),t48,t49,(IntKind.i64.wrap (t50+1)),()) (x_,(items++[r1++ByteArray.mk #[(58:UInt8),(32:UInt8)]++r0]),())) .d) .d) .d) .d) (.k (x_,items))
def zs3 (zbi:yB->Bool×ByteArray) (x:zjK) (y:zjq):=zEm zbi x.2.2.1 x.2.2.2.1 x.2.2.2.2.1 y.1 y.2.1
def zDS (zbi:yB->Bool×ByteArray) (n:Nat) (t48:yD) (t49:Int) (t50:Int) (x_:At) (items:List ByteArray):=zD (zs3 zbi) default n ((),(),t48,t49,t50,()) (x_,items,())
def zCL (r:zwn):LTree ty:=.done (.exit 1) [.ptr 360 0,.own 361] [.box (base.enc 143 r.1) false,.arr 9 r.2 false]
def zD5:LL ty zjK:=za (zde 360 0) (za (zcG 361) (za (lSl 169) (za zj (za zj zn))))
def zC5:BL ty zjq:=zev (zgF (λx=>(⟨x.1,⟨x.2.1,x.2.2.1⟩,x.2.2.2.1,x.2.2.2.2.1,x.2.2.2.2.2.1,x.2.2.2.2.2.2.1,⟨x.2.2.2.2.2.2.2.1,x.2.2.2.2.2.2.2.2.1,x.2.2.2.2.2.2.2.2.2.1⟩⟩:At)) (λx=>(x.Kind,x.Row.Table,x.Row.Seq,x.Ag,x.Func,x.Items,x.Op,x.Bd.Kind,x.Bd.Int,x.Bd.Text,())) (λ_=>rfl) (za (zN .i64) (za (zN .i64) (za (zN .i64) (za (lSl 51) (za (zN .i64) (za (lSl 169) (za (zN .i64) (za (zN .i64) (za (zN .i64) (za ztm zn))))))))))) false (zcV 9 false (zbd))
def zCt (x:zjK) (y:zjq):Nat:=(x.2.2.1.length+Int.toNat x.2.2.2.1+Int.toNat x.2.2.2.2.1+y.1.Ag.length+y.1.Items.length+y.2.1.length+1)
def zuh (zbi:yB->Bool×ByteArray):=zb4 zby 90 [(44,zm8),(45,zxD),(94,(zm7 zbi)),(264,zD1),(265,zvR),(266,zvG)] [] [(12,[(1,.keep),(3,.own 9),(48,.keep),(49,.keep),(50,.keep)])] [(12,2,(kpL [1,3]))] [(12,spW zD5 zC5 (zs3 zbi) default zCL zCt)] []
theorem zCb (zbi:yB->Bool×ByteArray):zM (zuh zbi) (lp (body f215) 0):=zu (id:=12) (hl:=rfl)
def zF3 (zbi:yB->Bool×ByteArray) (x_:At):Wy0 (ByteArray):=.i (x_.Kind==0) (.bn (zEU x_.Row) λr4=>.k r4) (.i (x_.Kind==1) (.i (decide ((0:Int)<=(0:Int))&&decide (0<Int.ofNat x_.Ag.length)) (.bn (zbi (x_.Ag.getD (Int.toNat 0) default)) λr6=>.i (decide ((ByteArray.mk #[(109:UInt8),(111:UInt8),(110:UInt8),(117:UInt8),(115:UInt8),(91:UInt8)]).size+r6.size<=9223372036854775807)) (.i (decide ((ByteArray.mk #[(109:UInt8),(111:UInt8),(110:UInt8),(117:UInt8),(115:UInt8),(91:UInt8)]++r6).size+(ByteArray.mk #[(44:UInt8),(32:UInt8)]).size<=9223372036854775807)) (.i (decide ((0:Int)<=(1:Int))&&decide (1<Int.ofNat x_.Ag.length)) (.bn (zbi (x_.Ag.getD (Int.toNat 1) default)) λr5=>.i (decide ((ByteArray.mk #[(109:UInt8),(111:UInt8),(110:UInt8),(117:UInt8),(115:UInt8),(91:UInt8)]++r6++ByteArray.mk #[(44:UInt8),(32:UInt8)]).size+r5.size<=9223372036854775807)) (.i (decide ((ByteArray.mk #[(109:UInt8),(111:UInt8),(110:UInt8),(117:UInt8),(115:UInt8),(91:UInt8)]++r6++ByteArray.mk #[(44:UInt8),(32:UInt8)]++r5).size+(ByteArray.mk #[(93:UInt8)]).size<=9223372036854775807)) (.k (ByteArray.mk #[(109:UInt8),(111:UInt8),(110:UInt8),(117:UInt8),(115:UInt8),(91:UInt8)]++r6++ByteArray.mk #[(44:UInt8),(32:UInt8)]++r5++ByteArray.mk #[(93:UInt8)])) .d) .d) .d) .d) .d) .d) (.i (x_.Kind==2) (.i (decide ((0:Int)<=(0:Int))&&decide (0<Int.ofNat x_.Ag.length)) (.bn (zbi (x_.Ag.getD (Int.toNat 0) default)) λr7=>.i (decide ((ByteArray.mk #[(100:UInt8),(101:UInt8),(108:UInt8),(116:UInt8),(97:UInt8),(91:UInt8)]).size+r7.size<=9223372036854775807)) (.i (decide ((ByteArray.mk #[(100:UInt8),(101:UInt8),(108:UInt8),(116:UInt8),(97:UInt8),(91:UInt8)]++r7).size+(ByteArray.mk #[(93:UInt8)]).size<=9223372036854775807)) (.k (ByteArray.mk #[(100:UInt8),(101:UInt8),(108:UInt8),(116:UInt8),(97:UInt8),(91:UInt8)]++r7++ByteArray.mk #[(93:UInt8)])) .d) .d) .d) (.i (x_.Kind==3) (.i (decide ((0:Int)<=(0:Int))&&decide (0<Int.ofNat x_.Ag.length)) (.bn (zbi (x_.Ag.getD (Int.toNat 0) default)) λr8=>.i (decide ((ByteArray.mk #[(97:UInt8),(98:UInt8),(115:UInt8),(101:UInt8),(110:UInt8),(116:UInt8),(91:UInt8)]).size+r8.size<=9223372036854775807)) (.i (decide ((ByteArray.mk #[(97:UInt8),(98:UInt8),(115:UInt8),(101:UInt8),(110:UInt8),(116:UInt8),(91:UInt8)]++r8).size+(ByteArray.mk #[(93:UInt8)]).size<=9223372036854775807)) (.k (ByteArray.mk #[(97:UInt8),(98:UInt8),(115:UInt8),(101:UInt8),(110:UInt8),(116:UInt8),(91:UInt8)]++r8++ByteArray.mk #[(93:UInt8)])) .d) .d) .d) (.bn (zDS zbi (x_.Items.length+(Int.ofNat x_.Items.length).toNat +Int.toNat 0+x_.Ag.length+x_.Items.length+0+1) x_.Items (Int.ofNat x_.Items.length) 0 (At.mk x_.Kind x_.Row x_.Ag x_.Func x_.Items x_.Op x_.Bd) []) λr11=>.i (decide (0<=r11.1.Func)&&decide (r11.1.Func<Int.ofNat zcq.2.length)) (.i (decide ((ByteArray.mk #[(116:UInt8),(101:UInt8),(115:UInt8),(116:UInt8),(91:UInt8)]).size+ByteArray.size (zcq.2.getD r11.1.Func.toNat default)<=9223372036854775807)) (.i (decide ((ByteArray.mk #[(116:UInt8),(101:UInt8),(115:UInt8),(116:UInt8),(91:UInt8)]++zcq.2.getD r11.1.Func.toNat default).size+(ByteArray.mk #[(123:UInt8)]).size<=9223372036854775807)) (.bn (strings_Join r11.2 (ByteArray.mk #[(59:UInt8),(32:UInt8)])) λr10=>.i (decide ((ByteArray.mk #[(116:UInt8),(101:UInt8),(115:UInt8),(116:UInt8),(91:UInt8)]++zcq.2.getD r11.1.Func.toNat default++ByteArray.mk #[(123:UInt8)]).size+r10.size<=9223372036854775807)) (.i (decide ((ByteArray.mk #[(116:UInt8),(101:UInt8),(115:UInt8),(116:UInt8),(91:UInt8)]++zcq.2.getD r11.1.Func.toNat default++ByteArray.mk #[(123:UInt8)]++r10).size+(ByteArray.mk #[(125:UInt8),(32:UInt8)]).size<=9223372036854775807)) (.i (decide (0<=IntKind.i64.wrap (r11.1.Op - 5))&&decide (IntKind.i64.wrap (r11.1.Op - 5)<Int.ofNat zeb.2.length)) (.i (decide ((ByteArray.mk #[(116:UInt8),(101:UInt8),(115:UInt8),(116:UInt8),(91:UInt8)]++zcq.2.getD r11.1.Func.toNat default++ByteArray.mk #[(123:UInt8)]++r10++ByteArray.mk #[(125:UInt8),(32:UInt8)]).size+ByteArray.size (zeb.2.getD (IntKind.i64.wrap (r11.1.Op - 5)).toNat default)<=9223372036854775807)) (.i (decide ((ByteArray.mk #[(116:UInt8),(101:UInt8),(115:UInt8),(116:UInt8),(91:UInt8)]++zcq.2.getD r11.1.Func.toNat default++ByteArray.mk #[(123:UInt8)]++r10++ByteArray.mk #[(125:UInt8),(32:UInt8)]++zeb.2.getD (IntKind.i64.wrap (r11.1.Op - 5)).toNat default).size+(ByteArray.mk #[(32:UInt8)]).size<=9223372036854775807)) (.bn (zwD r11.1.Bd) λr9=>.i (decide ((ByteArray.mk #[(116:UInt8),(101:UInt8),(115:UInt8),(116:UInt8),(91:UInt8)]++zcq.2.getD r11.1.Func.toNat default++ByteArray.mk #[(123:UInt8)]++r10++ByteArray.mk #[(125:UInt8),(32:UInt8)]++zeb.2.getD (IntKind.i64.wrap (r11.1.Op - 5)).toNat default++ByteArray.mk #[(32:UInt8)]).size+r9.size<=9223372036854775807)) (.i (decide ((ByteArray.mk #[(116:UInt8),(101:UInt8),(115:UInt8),(116:UInt8),(91:UInt8)]++zcq.2.getD r11.1.Func.toNat default++ByteArray.mk #[(123:UInt8)]++r10++ByteArray.mk #[(125:UInt8),(32:UInt8)]++zeb.2.getD (IntKind.i64.wrap (r11.1.Op - 5)).toNat default++ByteArray.mk #[(32:UInt8)]++r9).size+(ByteArray.mk #[(93:UInt8)]).size<=9223372036854775807)) (.k (ByteArray.mk #[(116:UInt8),(101:UInt8),(115:UInt8),(116:UInt8),(91:UInt8)]++zcq.2.getD r11.1.Func.toNat default++ByteArray.mk #[(123:UInt8)]++r10++ByteArray.mk #[(125:UInt8),(32:UInt8)]++zeb.2.getD (IntKind.i64.wrap (r11.1.Op - 5)).toNat default++ByteArray.mk #[(32:UInt8)]++r9++ByteArray.mk #[(93:UInt8)])) .d) .d) .d) .d) .d) .d) .d) .d) .d) .d))))
def zxb (zbi:yB->Bool×ByteArray) (x_:At):=(zF3 zbi x_).fin default
theorem zBz (zbi:yB->Bool×ByteArray) (zRs:Sound Tryz.prog zby 94 (zm7 zbi)):Sound Tryz.prog zby 215 (zkq (zxb zbi)):=
 sU (cx':=(zuh zbi)) (zk ⟨zqK,zDd,zRs,zRj.nodr,zE4.nodr,zFf.nodr,trivial⟩) call215 func215 (lOK (aC (zCb zbi) aN))
abbrev zhZ:=Unit×yC×Int×Int×Unit
abbrev zh8:=List ByteArray×Unit
def zBH (z7:At->Bool×ByteArray) (t7:yC) (t8:Int) (t9:Int) (out_:List ByteArray):Wy zhZ zh8 (List ByteArray):=.i (decide (t9<t8)) (.i (decide (0<=t9)&&decide (t9<Int.ofNat t7.length)) (.bn (z7 (At.mk (t7.getD t9.toNat default).At.Kind (t7.getD t9.toNat default).At.Row (t7.getD t9.toNat default).At.Ag (t7.getD t9.toNat default).At.Func (t7.getD t9.toNat default).At.Items (t7.getD t9.toNat default).At.Op (t7.getD t9.toNat default).At.Bd)) λr1=>.i ((t7.getD t9.toNat default).Exp != 1) (.bn (strconv_Itoa (t7.getD t9.toNat default).Exp) λr0=>.i (decide ((ByteArray.mk #[(94:UInt8)]).size+r0.size<=9223372036854775807)) (.i (decide (r1.size+(ByteArray.mk #[(94:UInt8)]++r0).size<=9223372036854775807)) (.i (decide ((out_.length+[r1++(ByteArray.mk #[(94:UInt8)]++r0)].length)*16<=zbm)) (.h ((),t7,t8,(IntKind.i64.wrap (t9+1)),()) ((out_++[r1++(ByteArray.mk #[(94:UInt8)]++r0)]),())) .d) .d) .d) (.i (decide ((out_.length+[r1].length)*16<=zbm)) (.h ((),t7,t8,(IntKind.i64.wrap (t9+1)),()) ((out_++[r1]),())) .d)) .d) (.k out_)
def zrG (z7:At->Bool×ByteArray) (x:zhZ) (y:zh8):=zBH z7 x.2.1 x.2.2.1 x.2.2.2.1 y.1
def zBI (z7:At->Bool×ByteArray) (n:Nat) (t7:yC) (t8:Int) (t9:Int) (out_:List ByteArray):=zD (zrG z7) default n ((),t7,t8,t9,()) (out_,())
def zAN (r:List ByteArray):LTree ty:=.done (.exit 0) [.own 128] [.arr 9 r false]
def zBE:LL ty zhZ:=za (zcG 128) (za (lSl 145) (za zj (za zj zn)))
def zBF:BL ty zh8:=zcV 9 false (zbd)
def zAL (x:zhZ) (y:zh8):Nat:=(x.2.1.length+Int.toNat x.2.2.1+Int.toNat x.2.2.2.1+y.1.length+1)
def zrC (z7:At->Bool×ByteArray):=zb4 zby 32 [(44,zm8),(215,(zkq z7)),(216,zxz)] [] [(3,[(3,.own 9),(7,.keep),(8,.keep),(9,.keep)])] [(3,1,(kpL [3]))] [(3,spW zBE zBF (zrG z7) default zAN zAL)] []
theorem zAJ (z7:At->Bool×ByteArray):zM (zrC z7) (lp (body f154) 0):=zu (id:=3) (hl:=rfl)
def zCU (z7:At->Bool×ByteArray) (l:yC):Wy0 (ByteArray):=.bn (zBI z7 (l.length+(Int.ofNat l.length).toNat +Int.toNat 0+0+1) l (Int.ofNat l.length) 0 []) λr5=>.bn (strings_Join r5 (ByteArray.mk #[(42:UInt8)])) λr4=>.k r4
def zuJ (z7:At->Bool×ByteArray) (l:yC):=(zCU z7 l).fin default
theorem zyL (z7:At->Bool×ByteArray) (zFP:Sound Tryz.prog zby 215 (zkq z7)):Sound Tryz.prog zby 154 (zfA (zuJ z7)):=
 sU (cx':=(zrC z7)) (zk ⟨zqK,zFP,zDT.nodr,trivial⟩) call154 func154 (lOK (aC (zAJ z7) aN))
abbrev zqq:=Unit×yB×Int×Int×Unit
abbrev zqX:=List ByteArray×Unit
def zPe (zS:yC->Bool×ByteArray) (t9:yB) (t10:Int) (t11:Int) (out_:List ByteArray):Wy zqq zqX (List ByteArray):=.i (decide (t11<t10)) (.i (decide (0<=t11)&&decide (t11<Int.ofNat t9.length)) (.i (Int.ofNat (t9.getD t11.toNat default).Fs.length==0) (.bn (zm2 (t9.getD t11.toNat default).Cf 10) λr0=>.i (decide ((out_.length+[r0].length)*16<=zbm)) (.h ((),t9,t10,(IntKind.i64.wrap (t11+1)),()) ((out_++[r0]),())) .d) (.i ((t9.getD t11.toNat default).Cf==1) (.bn (zS (t9.getD t11.toNat default).Fs) λr1=>.i (decide ((out_.length+[r1].length)*16<=zbm)) (.h ((),t9,t10,(IntKind.i64.wrap (t11+1)),()) ((out_++[r1]),())) .d) (.bn (zm2 (t9.getD t11.toNat default).Cf 10) λr3=>.i (decide (r3.size+(ByteArray.mk #[(42:UInt8)]).size<=9223372036854775807)) (.bn (zS (t9.getD t11.toNat default).Fs) λr2=>.i (decide ((r3++ByteArray.mk #[(42:UInt8)]).size+r2.size<=9223372036854775807)) (.i (decide ((out_.length+[r3++ByteArray.mk #[(42:UInt8)]++r2].length)*16<=zbm)) (.h ((),t9,t10,(IntKind.i64.wrap (t11+1)),()) ((out_++[r3++ByteArray.mk #[(42:UInt8)]++r2]),())) .d) .d) .d))) .d) (.k out_)
def zBb (zS:yC->Bool×ByteArray) (x:zqq) (y:zqX):=zPe zS x.2.1 x.2.2.1 x.2.2.2.1 y.1
def zOJ (zS:yC->Bool×ByteArray) (n:Nat) (t9:yB) (t10:Int) (t11:Int) (out_:List ByteArray):=zD (zBb zS) default n ((),t9,t10,t11,()) (out_,())
def zNF (r:List ByteArray):LTree ty:=.done (.exit 0) [.own 200] [.arr 9 r false]
def zPC:LL ty zqq:=za (zcG 200) (za (lSl 107) (za zj (za zj zn)))
def zOx:BL ty zqX:=zcV 9 false (zbd)
def zM2 (x:zqq) (y:zqX):Nat:=(x.2.1.length+Int.toNat x.2.2.1+Int.toNat x.2.2.2.1+y.1.length+1)
def zAQ (zS:yC->Bool×ByteArray):=zb4 zby 50 [(44,zm8),(92,zrm),(154,(zfA zS))] [] [(5,[(3,.own 9),(9,.keep),(10,.keep),(11,.keep)])] [(5,1,(kpL [3]))] [(5,spW zPC zOx (zBb zS) default zNF zM2)] []
theorem zND (zS:yC->Bool×ByteArray):zM (zAQ zS) (lp (body f94) 0):=zu (id:=5) (hl:=rfl)
def zQJ (zS:yC->Bool×ByteArray) (a:yB):Wy0 (ByteArray):=.i (Int.ofNat a.length==0) (.k (ByteArray.mk #[(48:UInt8)])) (.bn (zOJ zS (a.length+(Int.ofNat a.length).toNat +Int.toNat 0+0+1) a (Int.ofNat a.length) 0 []) λr9=>.bn (strings_Join r9 (ByteArray.mk #[(32:UInt8),(43:UInt8),(32:UInt8)])) λr8=>.k r8)
def zFM (zS:yC->Bool×ByteArray) (a:yB):=(zQJ zS a).fin default
theorem zJy (zS:yC->Bool×ByteArray) (zCD:Sound Tryz.prog zby 154 (zfA zS)):Sound Tryz.prog zby 94 (zm7 (zFM zS)):=
 sU (cx':=(zAQ zS)) (zk ⟨zqK,zw6.nodr,zCD,trivial⟩) call94 func94 (lOK (aC (zND zS) aN))
def zCJ:Nat->(yB->Bool×ByteArray)×(At->Bool×ByteArray)×(yC->Bool×ByteArray)
 | 0=>(λ_=>(false,default),λ_=>(false,default),λ_=>(false,default))
 | n+1=>(zFM ((zCJ n).2.2),zxb ((zCJ n).1),zuJ ((zCJ n).2.1))
def zFI (n:Nat):yB->Bool×ByteArray:=(zCJ n).1
def zIx (n:Nat):At->Bool×ByteArray:=(zCJ n).2.1
def zuI (n:Nat):yC->Bool×ByteArray:=(zCJ n).2.2
theorem zPn:∀ n,Sound Tryz.prog zby 94 (zm7 (zFI n))/\Sound Tryz.prog zby 215 (zkq (zIx n))/\Sound Tryz.prog zby 154 (zfA (zuI n))
 | 0=>⟨zbl call94 (λ_=>rfl),zbl call215 (λ_=>rfl),zbl call154 (λ_=>rfl)⟩
 | n+1=>by
  have ih:=zPn n;exact ⟨zJy _ (ih.2.2),zBz _ (ih.1),zyL _ (ih.2.1)⟩
def zJH:yB->Bool×ByteArray:=zFI 1000
def zBv:Ab.Spec ty:=zm7 zJH
theorem zMT:Sound Tryz.prog zby 94 zBv:=(zPn 1000).1
def zwH:yC->Bool×ByteArray:=zuI 1000
def zrD:Ab.Spec ty:=zfA zwH
theorem zA6:Sound Tryz.prog zby 154 zrD:=(zPn 1000).2.2
def zPd:=zbG zby 8 [(52,zce),(94,zBv)]
def zQp (a:yB):Wy0 (ByteArray):=.bn (zcs a) λr1=>.i (!r1) (.k (ByteArray.mk #[])) (.bn (zJH a) λr0=>.k r0)
def zxK (a:yB):=(zQp a).fin default
def zyl:=zh zU3 λx=>((zxK x.1).1,zQD (zxK x.1).2)
theorem zIV:Sound Tryz.prog zby 46 zyl:=
 sU (cx':=zPd) (zk ⟨zck.nodr,zMT,trivial⟩) call46 func46 (lOK aN)
def zRd:=zbG base 16 [(91,zoT)]
def zRM (p:pair):Wy0 (Bool):=.bn (zob p.v) λr0=>.i (!r0) (.k true) (.k (p.v.Kind != p.c.Type_))
def zyW (p:pair):=(zRM p).fin default
def zTs:AL base (pair×Unit):=zd (zg (zcj 137)) zw
def zmu:=zh zTs λx=>((zyW x.1).1,zQZ (zyW x.1).2)
theorem zrs:SdP 102 zmu:=
 sT (cx':=zRd) (zk ⟨zrS,trivial⟩) call102 func102 (lOK aN)
abbrev zvN:=yI×Unit×yH×Int×Int×Unit
abbrev zvP:=List pair×Unit
def zXd (l:yI) (t8:yH) (t9:Int) (t10:Int) (out_:List pair):Wy zvN zvP (List pair):=.i (decide (t10<t9)) (.i (decide (0<=t10)&&decide (t10<Int.ofNat t8.length)) (.i (decide (0<=t10)&&decide (t10<Int.ofNat l.length)) (.i (decide ((out_.length+[pair.mk (l.getD t10.toNat default) (t8.getD t10.toNat default)].length)*56<=zbm)) (.h (l,(),t8,t9,(IntKind.i64.wrap (t10+1)),()) ((out_++[pair.mk (l.getD t10.toNat default) (t8.getD t10.toNat default)]),())) .d) .d) .d) (.k out_)
def zJ7 (x:zvN) (y:zvP):=zXd x.1 x.2.2.1 x.2.2.2.1 x.2.2.2.2.1 y.1
def zYe (n:Nat) (l:yI) (t8:yH) (t9:Int) (t10:Int) (out_:List pair):=zD (zJ7) default n (l,(),t8,t9,t10,()) (out_,())
def zV1 (r:List pair):LTree ty:=.done (.exit 0) [.own 104] [.arr 137 r false]
def zYg:LL ty zvN:=za (lSl 75) (za (zcG 104) (za (lSl 79) (za zj (za zj zn))))
def zXn:BL ty zvP:=zcV 137 false (zbd)
def zWT (x:zvN) (y:zvP):Nat:=(x.1.length+x.2.2.1.length+Int.toNat x.2.2.2.1+Int.toNat x.2.2.2.2.1+y.1.length+1000)
def zJE:=zb4 base 26 [] [] [(3,[(0,.keep),(5,.own 137),(8,.keep),(9,.keep),(10,.keep)])] [(3,1,(kpL [5]))] [(3,spW zYg zXn (zJ7) default zV1 zWT)] []
theorem zWH:zM zJE (lp (body f101) 0):=zu (id:=3) (hl:=rfl)
def zZn (l:yI) (row:yH):Wy0 (List pair):=.bn (zYe (l.length+row.length+(Int.ofNat row.length).toNat +Int.toNat 0+0+1000) l row (Int.ofNat row.length) 0 []) λr0=>.k r0
def zIq (l:yI) (row:yH):=(zZn l row).fin default
def zWN (r:List pair):ARes ty:=⟨[.own 137 r],[]⟩
def zZj:AL base (yI×yH×Unit):=zd (zg (vSl 75)) (zd (zg (vSl 79)) zw)
def zFH:=zh zZj λx=>((zIq x.1 x.2.1).1,zWN (zIq x.1 x.2.1).2)
theorem zTq:SdP 101 zFH:=
 sT (cx':=zJE) (zk trivial) call101 func101 (lOK (aC zWH aN)) (sg:=⟨[.own 137],[]⟩)
abbrev zcT:=List pair×Unit×Int×Int×Unit
def zno (s:List pair) (t7:Int) (t8:Int):Wy zcT Unit (Int⊕Unit):=.i (decide (t8<t7)) (.i (decide (0<=t8)&&decide (t8<Int.ofNat s.length)) (.bn (zyW (s.getD t8.toNat default)) λr0=>.i (r0) (.k (.inl t8)) (.h (s,(),t7,(IntKind.i64.wrap (t8+1)),()) ())) .d) (.k (.inr ()))
def zfU (x:zcT) (y:Unit):=zno x.1 x.2.2.1 x.2.2.2.1
def znc (n:Nat) (s:List pair) (t7:Int) (t8:Int):=zD (zfU) (.inl default) n (s,(),t7,t8,()) ()
def znl:LL ty zcT:=za (lSl 137) (za (lFn 102 (zn)) (za zj (za zj zn)))
def zm0 (x:zcT) (y:Unit):Nat:=(x.1.length+Int.toNat x.2.2.1+Int.toNat x.2.2.2.1+1000)
def zfR:=zb4 base 19 [(102,zmu)] [] [(2,(kpL [0,1,7,8]))] [(2,1,[]),(2,0,(kpL [4]))] [(2,spW znl z0j (zfU) (.inl default) zpL zm0)] []
theorem zmN:zM zfR (lp (body f158) 0):=zu (id:=2) (hl:=rfl)
def znX (s:List pair):Wy0 (Int):=.bn (znc (s.length+(Int.ofNat s.length).toNat +Int.toNat 0+1000) s (Int.ofNat s.length) 0) λr2=>.i (isL r2) (.k (getL r2)) (.k (-1:Int))
def zdM (s:List pair):=(znX s).fin default
def zny:AL base (List pair×Unit×Unit):=zd (zg (vSl 137)) (zd (zg (vFn 102 zcr)) zw)
def zft:=zh zny λx=>((zdM x.1).1,zLf (zdM x.1).2)
theorem zlY:SdP 158 zft:=
 sT (cx':=zfR) (zk ⟨zrs,trivial⟩) call158 func158 (lOK (aC zmN aN))
def zlo:=zbG base 9 [(102,zmu),(158,zft)]
def zl8 (s:List pair):Wy0 (Bool):=.bn (zdM s) λr0=>.k (decide (r0≥0))
def zdx (s:List pair):=(zl8 s).fin default
def zeP:=zh zny λx=>((zdx x.1).1,zQZ (zdx x.1).2)
theorem zkL:SdP 100 zeP:=
 sT (cx':=zlo) (zk ⟨zrs,zlY,trivial⟩) call100 func100 (lOK aN)
def zVQ:=zbG base 17 [(100,zeP),(101,zFH),(102,zmu)]
def zYh (l:yI) (row:yH):Wy0 (Bool):=.i (Int.ofNat l.length==Int.ofNat row.length) (.bn (zIq l row) λr1=>.bn (zdx r1) λr0=>.k (!r0)) (.k false)
def zyA (l:yI) (row:yH):=(zYh l row).fin default
def zwP:=zh zZj λx=>((zyA x.1 x.2.1).1,zQZ (zyA x.1 x.2.1).2)
theorem zBN:SdP 51 zwP:=
 sT (cx':=zVQ) (zk ⟨zkL,zTq,zrs,trivial⟩) call51 func51 (lOK aN)
def zZi:=zbG base 2 []
def z0H:Wy0 (List ByteArray):=.k [ByteArray.mk #[(73:UInt8),(78:UInt8),(84:UInt8),(69:UInt8),(71:UInt8),(69:UInt8),(82:UInt8)],ByteArray.mk #[(84:UInt8),(69:UInt8),(88:UInt8),(84:UInt8)],ByteArray.mk #[(66:UInt8),(79:UInt8),(79:UInt8),(76:UInt8),(69:UInt8),(65:UInt8),(78:UInt8)]]
def zC4:Bool×List ByteArray:=(z0H).fin default
def zHZ:=zh zYH λx=>((zC4 ).1,zHU (zC4 ).2)
theorem zU2:SdP 87 zHZ:=
 sT (cx':=zZi) (zk trivial) call87 func87 (lOK aN) (sg:=⟨[.own 9],[]⟩)
def zUO:=zbG base 13 [(87,zHZ)]
def zWq (kind:Int):Wy0 (ByteArray):=.i (decide (kind<0)) (.k (ByteArray.mk #[])) (.i (decide (kind>2)) (.k (ByteArray.mk #[])) (.i (decide (0<=kind)&&decide (kind<Int.ofNat zC4.2.length)) (.k (zC4.2.getD kind.toNat default)) .d))
def zw3 (kind:Int):=(zWq kind).fin default
def zvm:=zh zUr λx=>((zw3 x.1).1,zQD (zw3 x.1).2)
theorem zBe:SdP 43 zvm:=
 sT (cx':=zUO) (zk ⟨zU2,trivial⟩) call43 func43 (lOK aN)
def zDc:=zbG base 7 [(43,zvm)]
def zFp (c:Column):Wy0 (Bool):=.bn (zw3 c.Type_) λr0=>.k (r0.toList==(ByteArray.mk #[]).toList)
def zoE (c:Column):=(zFp c).fin default
def zE5:AL base (Column×Unit):=zd (zg (zcj 75)) zw
def zgA:=zh zE5 λx=>((zoE x.1).1,zQZ (zoE x.1).2)
theorem zjo:SdP 99 zgA:=
 sT (cx':=zDc) (zk ⟨zBe,trivial⟩) call99 func99 (lOK aN)
abbrev zdz:=yI×Unit×Int×Int×Unit
def zqz (s:yI) (t7:Int) (t8:Int):Wy zdz Unit (Int⊕Unit):=.i (decide (t8<t7)) (.i (decide (0<=t8)&&decide (t8<Int.ofNat s.length)) (.bn (zoE (s.getD t8.toNat default)) λr0=>.i (r0) (.k (.inl t8)) (.h (s,(),t7,(IntKind.i64.wrap (t8+1)),()) ())) .d) (.k (.inr ()))
def zh6 (x:zdz) (y:Unit):=zqz x.1 x.2.2.1 x.2.2.2.1
def zqt (n:Nat) (s:yI) (t7:Int) (t8:Int):=zD (zh6) (.inl default) n (s,(),t7,t8,()) ()
def zqr:LL ty zdz:=za (lSl 75) (za (lFn 99 (zn)) (za zj (za zj zn)))
def zp6 (x:zdz) (y:Unit):Nat:=(x.1.length+Int.toNat x.2.2.1+Int.toNat x.2.2.2.1+1000)
def zh3:=zb4 base 19 [(99,zgA)] [] [(2,(kpL [0,1,7,8]))] [(2,1,[]),(2,0,(kpL [4]))] [(2,spW zqr z0j (zh6) (.inl default) zpL zp6)] []
theorem zpH:zM zh3 (lp (body f157) 0):=zu (id:=2) (hl:=rfl)
def zrq (s:yI):Wy0 (Int):=.bn (zqt (s.length+(Int.ofNat s.length).toNat +Int.toNat 0+1000) s (Int.ofNat s.length) 0) λr2=>.i (isL r2) (.k (getL r2)) (.k (-1:Int))
def zeL (s:yI):=(zrq s).fin default
def zrw:AL base (yI×Unit×Unit):=zd (zg (vSl 75)) (zd (zg (vFn 99 zcr)) zw)
def zg9:=zh zrw λx=>((zeL x.1).1,zLf (zeL x.1).2)
theorem zoX:SdP 157 zg9:=
 sT (cx':=zh3) (zk ⟨zjo,trivial⟩) call157 func157 (lOK (aC zpH aN))
def zo3:=zbG base 9 [(99,zgA),(157,zg9)]
def zpA (s:yI):Wy0 (Bool):=.bn (zeL s) λr0=>.k (decide (r0≥0))
def zee (s:yI):=(zpA s).fin default
def zf9:=zh zrw λx=>((zee x.1).1,zQZ (zee x.1).2)
theorem zne:SdP 98 zf9:=
 sT (cx':=zo3) (zk ⟨zjo,zoX,trivial⟩) call98 func98 (lOK aN)
def zHe:=zbG base 11 [(98,zf9),(99,zgA)]
def zI0 (l:yI):Wy0 (Bool):=.i (decide (Int.ofNat l.length<=16)) (.bn (zee l) λr0=>.k (!r0)) (.k false)
def zmy (l:yI):=(zI0 l).fin default
def zIz:AL base (yI×Unit):=zd (zg (vSl 75)) zw
def zmS:=zh zIz λx=>((zmy x.1).1,zQZ (zmy x.1).2)
theorem zs2:SdP 50 zmS:=
 sT (cx':=zHe) (zk ⟨zne,zjo,trivial⟩) call50 func50 (lOK aN)
abbrev zrY:=Unit×yG×Int×Int×Unit
abbrev znr:=Relation×Unit
def zUl (t16:yG) (t17:Int) (t18:Int) (r:Relation):Wy zrY znr (Bool⊕Unit):=.i (decide (t18<t17)) (.i (decide (0<=t18)&&decide (t18<Int.ofNat t16.length)) (.bn (zyA r.Columns (t16.getD t18.toNat default).Values) λr2=>.i (!r2) (.k (.inl false)) (.i (Int.ofNat (t16.getD t18.toNat default).Ann.length==0) (.k (.inl false)) (.bn (zcs (t16.getD t18.toNat default).Ann) λr1=>.i (!r1) (.k (.inl false)) (.i (decide (t18>0)) (.i (decide (0<=IntKind.i64.wrap (t18 - 1))&&decide (IntKind.i64.wrap (t18 - 1)<Int.ofNat r.Rows.length)) (.bn (zdp (r.Rows.getD (IntKind.i64.wrap (t18 - 1)).toNat default) (t16.getD t18.toNat default)) λr0=>.i (decide (r0≥0)) (.k (.inl false)) (.h ((),t16,t17,(IntKind.i64.wrap (t18+1)),()) (r,()))) .d) (.h ((),t16,t17,(IntKind.i64.wrap (t18+1)),()) (r,())))))) .d) (.k (.inr ()))
def zFt (x:zrY) (y:znr):=zUl x.2.1 x.2.2.1 x.2.2.2.1 y.1
def zUN (n:Nat) (t16:yG) (t17:Int) (t18:Int) (r:Relation):=zD (zFt) (.inl default) n ((),t16,t17,t18,()) (r,())
def zUM:LL ty zrY:=za (zde 228 0) (za (lSl 54) (za zj (za zj zn)))
def zU7:BL ty znr:=zev (zgF (λx=>(⟨x.1,x.2.1⟩:Relation)) (λx=>(x.Columns,x.Rows,())) (λ_=>rfl) (za (lSl 75) (za (lSl 54) zn))) false (zbd)
def zS9 (x:zrY) (y:znr):Nat:=(x.2.1.length+Int.toNat x.2.2.1+Int.toNat x.2.2.2.1+y.1.Columns.length+y.1.Rows.length+1000)
def zFL:=zb4 base 57 [(50,zmS),(51,zwP),(52,zce),(53,zeU)] [] [(4,(kpL [1,16,17,18]))] [(4,1,[]),(4,0,(kpL [2]))] [(4,spW zUM zU7 (zFt) (.inl default) zlq zS9)] []
theorem zSP:zM zFL (lp (body f14) 0):=zu (id:=4) (hl:=rfl)
def zWr (r:Relation):Wy0 (Bool):=.bn (zmy r.Columns) λr7=>.i (!r7) (.k false) (.i (decide (Int.ofNat r.Rows.length>1024)) (.k false) (.bn (zUN (r.Rows.length+(Int.ofNat r.Rows.length).toNat +Int.toNat 0+r.Columns.length+r.Rows.length+1000) r.Rows (Int.ofNat r.Rows.length) 0 r) λr6=>.i (isL r6) (.k (getL r6)) (.k true)))
def zCq (r:Relation):=(zWr r).fin default
def zWP:AL base znr:=zd (zg (zcj 25)) zw
def zvo:=zh zWP λx=>((zCq x.1).1,zQZ (zCq x.1).2)
theorem zAC:SdP 14 zvo:=
 sT (cx':=zFL) (zk ⟨zs2,zBN,zck,zfF,trivial⟩) call14 func14 (lOK (aC zSP aN))
abbrev zqW:=Unit×Unit×yI×Int×Int×Unit
abbrev zqT:=Relation×List ByteArray×Unit
abbrev zC6:=Relation×List ByteArray
abbrev zqQ:=Unit×Unit×Unit×yG×Int×Int×yH×Int×Int×Unit
abbrev zqA:=List ByteArray×Row×List ByteArray×Unit
abbrev zEd:=yG×Int×Int×List ByteArray×Row×List ByteArray
abbrev zqC:=Unit×yG×Int×Int×Unit
abbrev zre:=List ByteArray×Unit
def zSg (t16:yI) (t17:Int) (t18:Int) (r:Relation) (head:List ByteArray):Wy zqW zqT zC6:=.i (decide (t18<t17)) (.i (decide (0<=t18)&&decide (t18<Int.ofNat t16.length)) (.i (decide ((t16.getD t18.toNat default).Name.size+(ByteArray.mk #[(32:UInt8)]).size<=9223372036854775807)) (.bn (zw3 (t16.getD t18.toNat default).Type_) λr2=>.i (decide (((t16.getD t18.toNat default).Name++ByteArray.mk #[(32:UInt8)]).size+r2.size<=9223372036854775807)) (.i (decide ((head.length+[(t16.getD t18.toNat default).Name++ByteArray.mk #[(32:UInt8)]++r2].length)*16<=zbm)) (.h ((),(),t16,t17,(IntKind.i64.wrap (t18+1)),()) (r,(head++[(t16.getD t18.toNat default).Name++ByteArray.mk #[(32:UInt8)]++r2]),())) .d) .d) .d) .d) (.k (r,head))
def zEp (x:zqW) (y:zqT):=zSg x.2.2.1 x.2.2.2.1 x.2.2.2.2.1 y.1 y.2.1
def zSr (n:Nat) (t16:yI) (t17:Int) (t18:Int) (r:Relation) (head:List ByteArray):=zD (zEp) default n ((),(),t16,t17,t18,()) (r,head,())
def zRr (r:zC6):LTree ty:=.done (.exit 0) [.ptr 272 0,.own 273] [.box (base.enc 25 r.1) false,.arr 9 r.2 false]
def zRB:LL ty zqW:=za (zde 272 0) (za (zcG 273) (za (lSl 75) (za zj (za zj zn))))
def zSO:BL ty zqT:=zev (zgF (λx=>(⟨x.1,x.2.1⟩:Relation)) (λx=>(x.Columns,x.Rows,())) (λ_=>rfl) (za (lSl 75) (za (lSl 54) zn))) false (zcV 9 false (zbd))
def zQP (t37:yG) (t38:Int) (t39:Int) (t44:yH) (t45:Int) (t46:Int) (out_:List ByteArray) (x_:Row) (l:List ByteArray):Wy zqQ zqA zEd:=.i (decide (t46<t45)) (.i (decide (0<=t46)&&decide (t46<Int.ofNat t44.length)) (.bn (zwD (t44.getD t46.toNat default)) λr4=>.i (decide ((l.length+[r4].length)*16<=zbm)) (.h ((),(),(),t37,t38,t39,t44,t45,(IntKind.i64.wrap (t46+1)),()) (out_,x_,(l++[r4]),())) .d) .d) (.k (t37,t38,t39,out_,x_,l))
def zB2 (x:zqQ) (y:zqA):=zQP x.2.2.2.1 x.2.2.2.2.1 x.2.2.2.2.2.1 x.2.2.2.2.2.2.1 x.2.2.2.2.2.2.2.1 x.2.2.2.2.2.2.2.2.1 y.1 y.2.1 y.2.2.1
def zQR (n:Nat) (t37:yG) (t38:Int) (t39:Int) (t44:yH) (t45:Int) (t46:Int) (out_:List ByteArray) (x_:Row) (l:List ByteArray):=zD (zB2) default n ((),(),(),t37,t38,t39,t44,t45,t46,()) (out_,x_,l,())
def zOD (r:zEd):LTree ty:=.done (.exit 4) [.own 272,.ptr 273 0,.own 274,.sl 54 r.1,.lit (.int .i64 r.2.1),.lit (.int .i64 r.2.2.1)] [.arr 9 r.2.2.2.1 false,.box (base.enc 54 r.2.2.2.2.1) false,.arr 9 r.2.2.2.2.2 false]
def zQM:LL ty zqQ:=za (zcG 272) (za (zde 273 0) (za (zcG 274) (za (lSl 54) (za zj (za zj (za (lSl 79) (za zj (za zj zn))))))))
def zQH:BL ty zqA:=zcV 9 false (zev (zgF (λx=>(⟨x.1,x.2.1⟩:Row)) (λx=>(x.Values,x.Ann,())) (λ_=>rfl) (za (lSl 79) (za (lSl 107) zn))) false (zcV 9 false (zbd)))
def zRp (t37:yG) (t38:Int) (t39:Int) (out_:List ByteArray):Wy zqC zre (List ByteArray):=.i (decide (t39<t38)) (.i (decide (0<=t39)&&decide (t39<Int.ofNat t37.length)) (.bn (zQR (t37.length+t38.toNat +t39.toNat +(t37.getD t39.toNat default).Values.length+(Int.ofNat (t37.getD t39.toNat default).Values.length).toNat +Int.toNat 0+out_.length+(t37.getD t39.toNat default).Values.length+(t37.getD t39.toNat default).Ann.length+0+1000) t37 t38 t39 (t37.getD t39.toNat default).Values (Int.ofNat (t37.getD t39.toNat default).Values.length) 0 out_ (t37.getD t39.toNat default) []) λr8=>.bn (strings_Join r8.2.2.2.2.2 (ByteArray.mk #[(44:UInt8),(32:UInt8)])) λr7=>.i (decide (r7.size+(ByteArray.mk #[(32:UInt8),(124:UInt8),(32:UInt8)]).size<=9223372036854775807)) (.bn (zxK r8.2.2.2.2.1.Ann) λr6=>.i (decide ((r7++ByteArray.mk #[(32:UInt8),(124:UInt8),(32:UInt8)]).size+r6.size<=9223372036854775807)) (.i (decide ((r8.2.2.2.1.length+[r7++ByteArray.mk #[(32:UInt8),(124:UInt8),(32:UInt8)]++r6].length)*16<=zbm)) (.h ((),(r8.1),(r8.2.1),(IntKind.i64.wrap (r8.2.2.1+1)),()) ((r8.2.2.2.1++[r7++ByteArray.mk #[(32:UInt8),(124:UInt8),(32:UInt8)]++r6]),())) .d) .d) .d) .d) (.k out_)
def zB4 (x:zqC) (y:zre):=zRp x.2.1 x.2.2.1 x.2.2.2.1 y.1
def zQn (n:Nat) (t37:yG) (t38:Int) (t39:Int) (out_:List ByteArray):=zD (zB4) default n ((),t37,t38,t39,()) (out_,())
def zNP (r:List ByteArray):LTree ty:=.done (.exit 2) [.own 272] [.arr 9 r false]
def zQf:LL ty zqC:=za (zcG 272) (za (lSl 54) (za zj (za zj zn)))
def zRl:BL ty zre:=zcV 9 false (zbd)
def zQB (x:zqW) (y:zqT):Nat:=(x.2.2.1.length+Int.toNat x.2.2.2.1+Int.toNat x.2.2.2.2.1+y.1.Columns.length+y.1.Rows.length+y.2.1.length+1000)
def zPa (x:zqQ) (y:zqA):Nat:=(x.2.2.2.1.length+Int.toNat x.2.2.2.2.1+Int.toNat x.2.2.2.2.2.1+x.2.2.2.2.2.2.1.length+Int.toNat x.2.2.2.2.2.2.2.1+Int.toNat x.2.2.2.2.2.2.2.2.1+y.1.length+y.2.1.Values.length+y.2.1.Ann.length+y.2.2.1.length+1000)
def zO8 (x:zqC) (y:zre):Nat:=(x.2.1.length+Int.toNat x.2.2.1+Int.toNat x.2.2.2.1+y.1.length+1000)
def zqJ:=zb4 zby 68 [(14,zvo),(43,zvm),(44,zm8),(45,zxD),(46,zyl)] [] [(5,[(1,.keep),(3,.own 9),(16,.keep),(17,.keep),(18,.keep)]),(11,(kpL [6,37,38,39])),(15,[(6,.keep),(8,.keep),(9,.own 9),(37,.keep),(38,.keep),(39,.keep),(44,.keep),(45,.keep),(46,.keep)])] [(5,1,(kpL [1,3])),(11,3,(kpL [6])),(15,5,(kpL [6,8,9,37,38,39]))] [(5,spW zRB zSO (zEp) default zRr zQB),(15,spW zQM zQH (zB2) default zOD zPa),(11,spW zQf zRl (zB4) default zNP zO8)] []
theorem zQ6:zM zqJ (lp (body f12) 0):=zu (id:=5) (hl:=rfl)
theorem zOh:zM zqJ (lp (body f12) 2):=zu (id:=15) (hl:=rfl)
theorem zOL:zM zqJ (lp (body f12) 1):=zu (id:=11) (hl:=rfl)
def zU1 (r:Relation):Wy0 (List ByteArray):=.bn (zCq r) λr15=>.i (!r15) (.k []) (.bn (zSr (r.Columns.length+(Int.ofNat r.Columns.length).toNat +Int.toNat 0+r.Columns.length+r.Rows.length+0+1000) r.Columns (Int.ofNat r.Columns.length) 0 r []) λr14=>.bn (strings_Join r14.2 (ByteArray.mk #[(44:UInt8),(32:UInt8)])) λr13=>.bn (zQn (r14.1.Rows.length+(Int.ofNat r14.1.Rows.length).toNat +Int.toNat 0+[r13].length+1000) r14.1.Rows (Int.ofNat r14.1.Rows.length) 0 [r13]) λr12=>.k r12)
def zJV (r:Relation):=(zU1 r).fin default
def zUG:AL zby (Relation×Unit):=zd (zg (zcj 25)) zw
def zAj:=zh zUG λx=>((zJV x.1).1,zHU (zJV x.1).2)
theorem zMA:Sound Tryz.prog zby 12 zAj:=
 sU (cx':=zqJ) (zk ⟨zAC.nodr,zBe.nodr,zqK,zDd,zIV,trivial⟩) call12 func12 (lOK (aC zQ6 (aC zOL (aC zOh aN)))) (sg:=⟨[.own 9],[]⟩)
def zGE (k:Go.Value) (l:List (Go.Value×Int)):Option Int:=zPo (ty:=ty) (V:=3) k l
def zbaH (k:Go.Value) (l:List (Go.Value×Int)):Bool:=zFg (ty:=ty) (V:=3) k l
def zbaA (k:Go.Value) (x:Int) (l:List (Go.Value×Int)):List (Go.Value×Int):=zCl (ty:=ty) (V:=3) k x l
def zjx (x:yB) (a b lim:Int):Bool×yB:=zZr zb7 x a b lim
def zwZ:Ab.Spec ty:=zh (cx:=base) (zd (zkO 107) (zd (zg (zfx .i64)) (zd (zg (zfx .i64)) (zd (zg (zfx .i64)) (zd (zg (vFn 104 zcr)) zw))))) λx=>((zjx x.1 x.2.1 x.2.2.1 x.2.2.2.1).1,⟨[],[some ⟨107,(zjx x.1 x.2.1 x.2.2.1 x.2.2.2.1).2⟩]⟩)
theorem zxI (c:Unit) (x y:Term) (h:(zb7 x y).1=true):zhl ((AV.agg (base.enc 107 x)::AV.agg (base.enc 107 y)::(zcr:VL base Unit).enc c).map Arg.pure)=some (true,⟨[.pure (.lit (.int .i64 (zb7 x y).2))],[]⟩):=by
 rw [<- h]; kernel_rfl
theorem zwf:SdP 231 zwZ:=by
 letI:DecidableEq (ty 107):=inferInstanceAs (DecidableEq Term)
 exact z4V (T:=107) zdj rfl Go.Proofs.Tryz.pdqTerm Tryz.isAgg107 (by unfold zo; exact Tryz.sizeOf107) call231 zki zcr (λc=>zb7) zxI
open Go.Proofs Go.RowKit
def zbT (x:yB):Bool×yB:=zIm zb7 x
def zeg:Ab.Spec ty:=zh (cx:=base) (zd (zkO 107) (zd (zg (vFn 104 zcr)) zw)) λx=>((zbT x.1).1,⟨[],[some ⟨107,(zbT x.1).2⟩]⟩)
set_option maxHeartbeats 1000000 in
theorem zqN:SdP 192 zeg where
 enters:=call192
 calls:=λavs r hsp w F vs hF ha hsep=>by
  unfold zeg zh at hsp;split at hsp
  ·rename_i x hx;simp only [qa,qb] at hsp;obtain ⟨hpre,rfl⟩:=hsp;have hk:=(zd (zkO 107) (zd (zg (vFn 104 zcr)) zw):AL base _).kind vs avs x hx;have ha':=(zd (zkO 107) (zd (zg (vFn 104 zcr)) zw):AL base _).ok Tryz.prog zdj F w vs avs x hx ha;rw [hk] at hsep ⊢;clear hk hx ha;obtain ⟨l0,c,u0⟩:=x;obtain ⟨l,rfl⟩:∃ l:yB,l=l0:=⟨l0,rfl⟩;obtain ⟨v,vs',rfl,hv,hv'⟩:=ha'.inv;obtain ⟨fv,vs'',rfl,hfv,h0⟩:=hv'.inv;obtain rfl:=h0.nil_left.1
   have hsl:∃ p cap,v=.slice p l.length cap:=by
    obtain ⟨⟨xs,hown,_⟩,_⟩:=(show zct base F w v 107 l/\∀ b,zR v=some b->¬ F b from hv)
    rcases hown.2 with ⟨h1,h2⟩ | ⟨g0,cap,cur,h1,_⟩
    ·exact ⟨none,0,by rw [h1,show l.length=0 from h2]⟩
    ·exact ⟨_,cap,h1⟩
   have hok:SortOK (α:=Term) zb7 l:=of_decide_eq_true (p:=SortOK (α:=Term) zb7 l) hpre;have hlen:l.length<4611686018427387904:=hok.size;have hbl:Lib.bitLen l.length<4611686018427387904:=Nat.lt_of_le_of_lt (Lib.bitLen_le l.length 62 (by omega) (by omega)) (by omega)
   have hpp:(zjx l 0 (l.length:Int) ((Lib.bitLen l.length:Nat):Int)).1=true:=by
    show (decide (SortOK (α:=Term) zb7 l)&&(decide ((0:Int)=0)&&(decide ((l.length:Int)=l.length)&&(decide ((0:Int)<=((Lib.bitLen l.length:Nat):Int))&&decide (((Lib.bitLen l.length:Nat):Int)<4611686018427387904)))))=true;simp only [qc,qe];exact ⟨hok,trivial,trivial,by omega,by omega⟩
   have hp:=(zwf).calls [.own 107 l,.pure (.lit (.int .i64 0)),.pure (.lit (.int .i64 (l.length:Int))),.pure (.lit (.int .i64 ((Lib.bitLen l.length:Nat):Int))),.pure (.fn 104 [])] ⟨[],[some ⟨107,(zbT l).2⟩]⟩
    (by rw [<- hpp]; kernel_rfl) w F [v,.int .i64 0,.int .i64 (l.length:Int),.int .i64 ((Lib.bitLen l.length:Nat):Int),fv] hF (.cons hv (.cons (Rep.lit _) (.cons (Rep.lit _) (.cons (Rep.lit _) (.cons hfv .nil))))) hsep
   replace hp:Calls Tryz.prog 231 #[v,.int .i64 0,.int .i64 (l.length:Int),.int .i64 ((Lib.bitLen l.length:Nat):Int),fv] w λe w'=>∃ u,e=.returned u/\Post base F w [v] ⟨[],[some ⟨107,(zbT l).2⟩]⟩ u w':=hp
   show Calls Tryz.prog 192 #[v,fv] w λe w'=>∃ u,e=.returned u/\Post base F w [v] ⟨[],[some ⟨107,(zbT l).2⟩]⟩ u w'
   have hb:Calls Tryz.prog 205 #[.int .u64 (l.length:Int)] w λe w'=>e=.returned (.int .i64 ((Lib.bitLen l.length:Nat):Int))/\w'=w:=by
    have h:=Any.bits_Len Go.Proofs.Tryz.lays125 (l.length:Int) w (by omega) (by omega)
    rwa [Int.toNat_natCast] at h
   have wr:IntKind.u64.wrap (l.length:Int)=l.length:=by simp [IntKind.wrap,IntKind.bits,IntKind.signed]; omega
   generalize (zbT l).2=res at hp ⊢;generalize hn:l.length=m at *;generalize Lib.bitLen m=bl at *;clear hpp hv hfv hsep hok hpre hF;obtain ⟨p,cap,rfl⟩:=hsl;clear hn
   go_enter func192,ntmps192
   go_wp2_with (first | (go_at_call 205; refine hb.mono ?_; rintro e w' ⟨rfl,rfl⟩) | (go_at_call 231; refine hp.mono ?_; rintro e w' ⟨u,rfl,hpost⟩; obtain rfl:=hpost.unit))
   go_end0
   exact ⟨_,rfl,hpost⟩
  ·cases hsp
end Go.Proofs.YtoknknbmfmddbaaGreatDoor
namespace Go.Proofs.YtoknknbmfmddbaaGreatDoor
open Go Go.Ab
open Go.Proofs.Tryz
abbrev zmj:=Unit×Unit×yB×Int×Int×Unit
abbrev zmA:=(List (_root_.Go.Value×Int))×yB×Unit
def zLW (t11:yB) (t12:Int) (t13:Int) (at_:List (_root_.Go.Value×Int)) (out_:yB):Wy zmj zmA (yB):=.i (decide (t13<t12)) (.i (decide (0<=t13)&&decide (t13<Int.ofNat t11.length)) (.bn (zwH (t11.getD t13.toNat default).Fs) λr0=>.i (zbaH (Value.string r0) at_) (.i (decide (0<=(zGE (Value.string r0) at_).getD 0)&&decide ((zGE (Value.string r0) at_).getD 0<Int.ofNat out_.length)) (.i (decide (0<=(zGE (Value.string r0) at_).getD 0)&&decide ((zGE (Value.string r0) at_).getD 0<Int.ofNat out_.length)) (.i (decide (Int.toNat ((zGE (Value.string r0) at_).getD 0)<out_.length)) (.h ((),(),t11,t12,(IntKind.i64.wrap (t13+1)),()) (at_,(out_.set (Int.toNat ((zGE (Value.string r0) at_).getD 0)) (TO.mk (if 1152921504606846976<IntKind.i64.wrap ((out_.getD (Int.toNat ((zGE (Value.string r0) at_).getD 0)) default).Cf+(t11.getD t13.toNat default).Cf) then 1152921504606846976 else IntKind.i64.wrap ((out_.getD (Int.toNat ((zGE (Value.string r0) at_).getD 0)) default).Cf+(t11.getD t13.toNat default).Cf)) (out_.getD (Int.toNat ((zGE (Value.string r0) at_).getD 0)) default).Fs)),())) .d) .d) .d) (.i (decide ((out_.length+[t11.getD t13.toNat default].length)*32<=zbm)) (.h ((),(),t11,t12,(IntKind.i64.wrap (t13+1)),()) ((zbaA (Value.string r0) (Int.ofNat out_.length) at_),(out_++[t11.getD t13.toNat default]),())) .d)) .d) (.k out_)
def zzD (x:zmj) (y:zmA):=zLW x.2.2.1 x.2.2.2.1 x.2.2.2.2.1 y.1 y.2.1
def zME (n:Nat) (t11:yB) (t12:Int) (t13:Int) (at_:List (_root_.Go.Value×Int)) (out_:yB):=zD (zzD) default n ((),(),t11,t12,t13,()) (at_,out_,())
def zKA (r:yB):LTree ty:=.done (.exit 0) [.own 208] [.arr 107 r false]
def zNE:LL ty zmj:=za (lMp 208) (za (zcG 209) (za (lSl 107) (za zj (za zj zn))))
def zMY:BL ty zmA:=bMp 9 3 false (zcV 107 false (zbd))
def zLz (x:zmj) (y:zmA):Nat:=(x.2.2.1.length+Int.toNat x.2.2.2.1+Int.toNat x.2.2.2.2.1+y.1.length+y.2.1.length+1)
def zy7:=zb4 zby 52 [(104,zhl),(154,zrD),(192,zeg)] [(192,[true,false])] [(4,[(3,.keep),(4,.own 107),(11,.keep),(12,.keep),(13,.keep)])] [(4,1,(kpL [4]))] [(4,spW zNE zMY (zzD) default zKA zLz)] []
theorem zK9:zM zy7 (lp (body f125) 0):=zu (id:=4) (hl:=rfl)
def zPO (terms:yB):Wy0 (yB):=.bn (zME (terms.length+(Int.ofNat terms.length).toNat +Int.toNat 0+0+0+1) terms (Int.ofNat terms.length) 0 [] []) λr3=>.bn (zbT r3) λr2=>.k r2
def zrg (terms:yB):=(zPO terms).fin default
def zpF:=zh zU3 λx=>((zrg x.1).1,zZa (zrg x.1).2)
theorem zwJ:Sound Tryz.prog zby 125 zpF:=
 sU (cx':=zy7) (zk ⟨zki.nodr,zA6,zqN.nodr,trivial⟩) call125 func125 (lOK (aC zK9 aN)) (sg:=⟨[.own 107],[]⟩)
def zkw (F:yB->Bool×yB):Ab.Spec ty:=zh zTC λx=>((F x.1).1,zZa (F x.1).2)
def zGD (r:At):ARes ty:=⟨[.pure (.agg (base.enc 143 r))],[]⟩
def zkp (F:At->Bool×At):Ab.Spec ty:=zh z1X λx=>((F x.1).1,zGD (F x.1).2)
def zdO:Cx ty:={ base with nt:=8 }
def zcF (s:yC):Bool×yC:=(decide (s.length*128<=zbm),s)
def zfk:Ab.Spec ty:=zh (cx:=base) (zd (zg (vSl 145)) zw) λx=>((zcF x.1).1,⟨[.own 145 (zcF x.1).2],[]⟩)
theorem zuD:zdu zdO f132 (body f132) ⟨[.own 145],[]⟩ [.pure (.lit (.slice none 0 0))]=some ⟨[.own 145 []],[]⟩:=by kernel_rfl
theorem zsL (p:Addr) (c:Nat):zdu zdO f132 (body f132) ⟨[.own 145],[]⟩ [.pure (.lit (.slice (some p) 0 c))]=some ⟨[.own 145 []],[]⟩:=by kernel_rfl
theorem zt1 (l:yC):zdu zdO f132 (body f132) ⟨[.own 145],[]⟩ [.pure (.sl 145 l)]=bif !l.isEmpty then bif decide ((([]:List (ty 145)).length+l.length)*128<=zbm) then some ⟨[.own 145 l],[]⟩ else none else none:=by kernel_rfl
theorem zji:SdP 132 zfk:=
 zrv (cx':=zdO) (bytes:=128) zrR zdj ⟨⟨rfl,rfl,rfl,rfl,rfl,rfl⟩,rfl⟩ (λg s h=>by cases h) call132 func132 (c:=body f132) (by kernel_rfl) (zjI (l:=[]) (by kernel_rfl) trivial) zuD zsL zt1 (by kernel_rfl)
abbrev zn1:=Unit×Unit×Unit×yB×Int×Int×Int×Int×Unit
abbrev zn3:=yB×Term×yC×Unit
abbrev zAh:=yB×Int×Int×yB×Term×yC
abbrev znG:=Unit×yB×Int×Int×Unit
abbrev znA:=yB×Unit
def zKJ (zG:At->Bool×At) (t8:yB) (t9:Int) (t10:Int) (t18:Int) (t19:Int) (out_:yB) (t:Term) (factors:yC):Wy zn1 zn3 zAh:=.i (decide (t19<t18)) (.i (decide (0<=t19)&&decide (t19<Int.ofNat factors.length)) (.bn (zG (At.mk (factors.getD t19.toNat default).At.Kind (factors.getD t19.toNat default).At.Row (factors.getD t19.toNat default).At.Ag (factors.getD t19.toNat default).At.Func (factors.getD t19.toNat default).At.Items (factors.getD t19.toNat default).At.Op (factors.getD t19.toNat default).At.Bd)) λr2=>.i (decide (0<=t19)&&decide (t19<Int.ofNat factors.length)) (.i (decide (t19.toNat<factors.length)) (.h ((),(),(),t8,t9,t10,t18,(IntKind.i64.wrap (t19+1)),()) (out_,t,(factors.set t19.toNat (FO.mk (At.mk r2.Kind r2.Row r2.Ag r2.Func r2.Items r2.Op r2.Bd) (factors.getD t19.toNat default).Exp)),())) .d) .d) .d) (.k (t8,t9,t10,out_,t,factors))
def zyo (zG:At->Bool×At) (x:zn1) (y:zn3):=zKJ zG x.2.2.2.1 x.2.2.2.2.1 x.2.2.2.2.2.1 x.2.2.2.2.2.2.1 x.2.2.2.2.2.2.2.1 y.1 y.2.1 y.2.2.1
def zLx (zG:At->Bool×At) (n:Nat) (t8:yB) (t9:Int) (t10:Int) (t18:Int) (t19:Int) (out_:yB) (t:Term) (factors:yC):=zD (zyo zG) default n ((),(),(),t8,t9,t10,t18,t19,()) (out_,t,factors,())
def zIC (r:zAh):LTree ty:=.done (.exit 2) [.own 168,.ptr 169 0,.own 170,.sl 107 r.1,.lit (.int .i64 r.2.1),.lit (.int .i64 r.2.2.1)] [.arr 107 r.2.2.2.1 false,.box (base.enc 107 r.2.2.2.2.1) false,.arr 145 r.2.2.2.2.2 false]
def zKS:LL ty zn1:=za (zcG 168) (za (zde 169 0) (za (zcG 170) (za (lSl 107) (za zj (za zj (za zj (za zj zn)))))))
def zKr:BL ty zn3:=zcV 107 false (zev (zgF (λx=>(⟨x.1,x.2.1⟩:Term)) (λx=>(x.Cf,x.Fs,())) (λ_=>rfl) (za (zN .i64) (za (lSl 145) zn))) false (zcV 145 false (zbd)))
def zKI (zG:At->Bool×At) (t8:yB) (t9:Int) (t10:Int) (out_:yB):Wy znG znA (yB):=.i (decide (t10<t9)) (.i (decide (0<=t10)&&decide (t10<Int.ofNat t8.length)) (.bn (zcF (t8.getD t10.toNat default).Fs) λr5=>.bn (zLx zG (t8.length+t9.toNat +t10.toNat +(Int.ofNat r5.length).toNat +Int.toNat 0+out_.length+(t8.getD t10.toNat default).Fs.length+r5.length+1) t8 t9 t10 (Int.ofNat r5.length) 0 out_ (t8.getD t10.toNat default) r5) λr4=>.i (decide ((r4.2.2.2.1.length+[TO.mk r4.2.2.2.2.1.Cf r4.2.2.2.2.2].length)*32<=zbm)) (.h ((),(r4.1),(r4.2.1),(IntKind.i64.wrap (r4.2.2.1+1)),()) ((r4.2.2.2.1++[TO.mk r4.2.2.2.2.1.Cf r4.2.2.2.2.2]),())) .d) .d) (.k out_)
def zx4 (zG:At->Bool×At) (x:znG) (y:znA):=zKI zG x.2.1 x.2.2.1 x.2.2.2.1 y.1
def zKu (zG:At->Bool×At) (n:Nat) (t8:yB) (t9:Int) (t10:Int) (out_:yB):=zD (zx4 zG) default n ((),t8,t9,t10,()) (out_,())
def zIB (r:yB):LTree ty:=.done (.exit 0) [.own 168] [.arr 107 r false]
def zKV:LL ty znG:=za (zcG 168) (za (lSl 107) (za zj (za zj zn)))
def zKb:BL ty znA:=zcV 107 false (zbd)
def zI8 (x:zn1) (y:zn3):Nat:=(x.2.2.2.1.length+Int.toNat x.2.2.2.2.1+Int.toNat x.2.2.2.2.2.1+Int.toNat x.2.2.2.2.2.2.1+Int.toNat x.2.2.2.2.2.2.2.1+y.1.length+y.2.1.Fs.length+y.2.2.1.length+1)
def zJi (x:znG) (y:znA):Nat:=(x.2.1.length+Int.toNat x.2.2.1+Int.toNat x.2.2.2.1+y.1.length+1)
def zrp (zG:At->Bool×At):=zb4 base 42 [(132,zfk),(200,(zkp zG))] [] [(3,[(3,.own 107),(8,.keep),(9,.keep),(10,.keep)]),(7,(kpL [3,5,6,8,9,10,18,19]))] [(3,1,(kpL [3])),(7,3,(kpL [3,5,6,8,9,10]))] [(7,spW zKS zKr (zyo zG) default zIC zI8),(3,spW zKV zKb (zx4 zG) default zIB zJi)] []
theorem zJm (zG:At->Bool×At):zM (zrp zG) (lp (body f141) 1):=zu (id:=7) (hl:=rfl)
theorem zIR (zG:At->Bool×At):zM (zrp zG) (lp (body f141) 0):=zu (id:=3) (hl:=rfl)
def zLX (zG:At->Bool×At) (a:yB):Wy0 (yB):=.bn (zKu zG (a.length+(Int.ofNat a.length).toNat +Int.toNat 0+0+1) a (Int.ofNat a.length) 0 []) λr8=>.k r8
def zB7 (zG:At->Bool×At) (a:yB):=(zLX zG a).fin default
theorem zF7 (zG:At->Bool×At) (zGc:SdP 200 (zkp zG)):SdP 141 (zkw (zB7 zG)):=
 sT (cx':=(zrp zG)) (zk ⟨zji,zGc,trivial⟩) call141 func141 (lOK (aC (zIR zG) (aC (zJm zG) aN))) (sg:=⟨[.own 107],[]⟩)
def zcU:Cx ty:={ base with nt:=8 }
def zbW (s:yA):Bool×yA:=(decide (s.length*24<=zbm),s)
def zdL:Ab.Spec ty:=zh (cx:=base) (zd (zg (vSl 51)) zw) λx=>((zbW x.1).1,⟨[.own 51 (zbW x.1).2],[]⟩)
theorem zpp:zdu zcU f133 (body f133) ⟨[.own 51],[]⟩ [.pure (.lit (.slice none 0 0))]=some ⟨[.own 51 []],[]⟩:=by kernel_rfl
theorem zok (p:Addr) (c:Nat):zdu zcU f133 (body f133) ⟨[.own 51],[]⟩ [.pure (.lit (.slice (some p) 0 c))]=some ⟨[.own 51 []],[]⟩:=by kernel_rfl
theorem zoU (l:yA):zdu zcU f133 (body f133) ⟨[.own 51],[]⟩ [.pure (.sl 51 l)]=bif !l.isEmpty then bif decide ((([]:List (ty 51)).length+l.length)*24<=zbm) then some ⟨[.own 51 l],[]⟩ else none else none:=by kernel_rfl
theorem zgq:SdP 133 zdL:=
 zrv (cx':=zcU) (bytes:=24) zrR zdj ⟨⟨rfl,rfl,rfl,rfl,rfl,rfl⟩,rfl⟩ (λg s h=>by cases h) call133 func133 (c:=body f133) (by kernel_rfl) (zjI (l:=[]) (by kernel_rfl) trivial) zpp zok zoU (by kernel_rfl)
def zdk:Cx ty:={ base with nt:=8 }
def zcf (s:yD):Bool×yD:=(decide (s.length*56<=zbm),s)
def zei:Ab.Spec ty:=zh (cx:=base) (zd (zg (vSl 169)) zw) λx=>((zcf x.1).1,⟨[.own 169 (zcf x.1).2],[]⟩)
theorem zrI:zdu zdk f134 (body f134) ⟨[.own 169],[]⟩ [.pure (.lit (.slice none 0 0))]=some ⟨[.own 169 []],[]⟩:=by kernel_rfl
theorem zqu (p:Addr) (c:Nat):zdu zdk f134 (body f134) ⟨[.own 169],[]⟩ [.pure (.lit (.slice (some p) 0 c))]=some ⟨[.own 169 []],[]⟩:=by kernel_rfl
theorem zrA (l:yD):zdu zdk f134 (body f134) ⟨[.own 169],[]⟩ [.pure (.sl 169 l)]=bif !l.isEmpty then bif decide ((([]:List (ty 169)).length+l.length)*56<=zbm) then some ⟨[.own 169 l],[]⟩ else none else none:=by kernel_rfl
theorem zh0:SdP 134 zei:=
 zrv (cx':=zdk) (bytes:=56) zrR zdj ⟨⟨rfl,rfl,rfl,rfl,rfl,rfl⟩,rfl⟩ (λg s h=>by cases h) call134 func134 (c:=body f134) (by kernel_rfl) (zjI (l:=[]) (by kernel_rfl) trivial) zrI zqu zrA (by kernel_rfl)
abbrev zda:=Unit×Unit×Int×Int×Unit
abbrev zjr:=(Int×Int×Int×Unit×Int×yD×Int×Int×Int×ByteArray×Unit)×(Int×Int×Int×Unit×Int×Unit×Int×Int×Int×ByteArray×Unit)×yA×Unit
abbrev zwi:=Int×Int×Int×Int×yD×Int×Int×Int×ByteArray×Int×Int×Int×Int×Int×Int×Int×ByteArray×yA
abbrev zjs:=(Int×Int×Int×Unit×Int×Unit×Int×Int×Int×ByteArray×Unit)×(Int×Int×Int×Unit×Int×Unit×Int×Int×Int×ByteArray×Unit)×yA×yD×Unit
abbrev zwG:=Int×Int×Int×Int×Int×Int×Int×ByteArray×Int×Int×Int×Int×Int×Int×Int×ByteArray×yA×yD
def zEV (zQ:yB->Bool×yB) (t11:Int) (t12:Int) (x_0:Int) (x_1:Int) (x_2:Int) (x_3:Int) (x_4:yD) (x_5:Int) (x_6:Int) (x_7:Int) (x_8:ByteArray) (t2_0:Int) (t2_1:Int) (t2_2:Int) (t2_3:Int) (t2_4:Int) (t2_5:Int) (t2_6:Int) (t2_7:ByteArray) (b2:yA):Wy zda zjr zwi:=.i (decide (t12<t11)) (.i (decide (0<=t12)&&decide (t12<Int.ofNat b2.length)) (.bn (zQ (b2.getD t12.toNat default)) λr0=>.i (decide (0<=t12)&&decide (t12<Int.ofNat b2.length)) (.i (decide (t12.toNat<b2.length)) (.h ((),(),t11,(IntKind.i64.wrap (t12+1)),()) ((x_0,x_1,x_2,(),x_3,x_4,x_5,x_6,x_7,x_8,()),(t2_0,t2_1,t2_2,(),t2_3,(),t2_4,t2_5,t2_6,t2_7,()),(b2.set t12.toNat r0),())) .d) .d) .d) (.k (x_0,x_1,x_2,x_3,x_4,x_5,x_6,x_7,x_8,t2_0,t2_1,t2_2,t2_3,t2_4,t2_5,t2_6,t2_7,b2))
def zue (zQ:yB->Bool×yB) (x:zda) (y:zjr):=zEV zQ x.2.2.1 x.2.2.2.1 y.1.1 y.1.2.1 y.1.2.2.1 y.1.2.2.2.2.1 y.1.2.2.2.2.2.1 y.1.2.2.2.2.2.2.1 y.1.2.2.2.2.2.2.2.1 y.1.2.2.2.2.2.2.2.2.1 y.1.2.2.2.2.2.2.2.2.2.1 y.2.1.1 y.2.1.2.1 y.2.1.2.2.1 y.2.1.2.2.2.2.1 y.2.1.2.2.2.2.2.2.1 y.2.1.2.2.2.2.2.2.2.1 y.2.1.2.2.2.2.2.2.2.2.1 y.2.1.2.2.2.2.2.2.2.2.2.1 y.2.2.1
def zEy (zQ:yB->Bool×yB) (n:Nat) (t11:Int) (t12:Int) (x_0:Int) (x_1:Int) (x_2:Int) (x_3:Int) (x_4:yD) (x_5:Int) (x_6:Int) (x_7:Int) (x_8:ByteArray) (t2_0:Int) (t2_1:Int) (t2_2:Int) (t2_3:Int) (t2_4:Int) (t2_5:Int) (t2_6:Int) (t2_7:ByteArray) (b2:yA):=zD (zue zQ) default n ((),(),t11,t12,()) ((x_0,x_1,x_2,(),x_3,x_4,x_5,x_6,x_7,x_8,()),(t2_0,t2_1,t2_2,(),t2_3,(),t2_4,t2_5,t2_6,t2_7,()),b2,())
def zDO (r:zwi):LTree ty:=.done (.exit 0) [.ptr 200 0,.ptr 201 0] [.box ([.lit (.int .i64 r.1),.lit (.int .i64 r.2.1),.lit (.int .i64 r.2.2.1),.own 202,.lit (.int .i64 r.2.2.2.1),.sl 169 r.2.2.2.2.1,.lit (.int .i64 r.2.2.2.2.2.1),.lit (.int .i64 r.2.2.2.2.2.2.1),.lit (.int .i64 r.2.2.2.2.2.2.2.1),.lit (.string r.2.2.2.2.2.2.2.2.1)]) false,.box ([.lit (.int .i64 r.2.2.2.2.2.2.2.2.2.1),.lit (.int .i64 r.2.2.2.2.2.2.2.2.2.2.1),.lit (.int .i64 r.2.2.2.2.2.2.2.2.2.2.2.1),.lit (.slice none 0 0),.lit (.int .i64 r.2.2.2.2.2.2.2.2.2.2.2.2.1),.lit (.slice none 0 0),.lit (.int .i64 r.2.2.2.2.2.2.2.2.2.2.2.2.2.1),.lit (.int .i64 r.2.2.2.2.2.2.2.2.2.2.2.2.2.2.1),.lit (.int .i64 r.2.2.2.2.2.2.2.2.2.2.2.2.2.2.2.1),.lit (.string r.2.2.2.2.2.2.2.2.2.2.2.2.2.2.2.2.1)]) false,.arr 51 r.2.2.2.2.2.2.2.2.2.2.2.2.2.2.2.2.2 false]
def zFi:LL ty zda:=za (zde 200 0) (za (zde 201 0) (za zj (za zj zn)))
def zEO:BL ty zjr:=zev (za (zN .i64) (za (zN .i64) (za (zN .i64) (za (zcG 202) (za (zN .i64) (za (lSl 169) (za (zN .i64) (za (zN .i64) (za (zN .i64) (za ztm zn)))))))))) false (zev (za (zN .i64) (za (zN .i64) (za (zN .i64) (za zTL (za (zN .i64) (za zTL (za (zN .i64) (za (zN .i64) (za (zN .i64) (za ztm zn)))))))))) false (zcV 51 false (zbd)))
def zFn (zQ:yB->Bool×yB) (t32:Int) (t33:Int) (x_0:Int) (x_1:Int) (x_2:Int) (x_3:Int) (x_4:Int) (x_5:Int) (x_6:Int) (x_7:ByteArray) (t2_0:Int) (t2_1:Int) (t2_2:Int) (t2_3:Int) (t2_4:Int) (t2_5:Int) (t2_6:Int) (t2_7:ByteArray) (b2:yA) (b3:yD):Wy zda zjs zwG:=.i (decide (t33<t32)) (.i (decide (0<=t33)&&decide (t33<Int.ofNat b3.length)) (.bn (zQ (b3.getD t33.toNat default).Ann) λr2=>.i (decide (0<=t33)&&decide (t33<Int.ofNat b3.length)) (.i (decide (t33.toNat<b3.length)) (.h ((),(),t32,(IntKind.i64.wrap (t33+1)),()) ((x_0,x_1,x_2,(),x_3,(),x_4,x_5,x_6,x_7,()),(t2_0,t2_1,t2_2,(),t2_3,(),t2_4,t2_5,t2_6,t2_7,()),b2,(b3.set t33.toNat (WO.mk (b3.getD t33.toNat default).Value r2)),())) .d) .d) .d) (.k (x_0,x_1,x_2,x_3,x_4,x_5,x_6,x_7,t2_0,t2_1,t2_2,t2_3,t2_4,t2_5,t2_6,t2_7,b2,b3))
def zuo (zQ:yB->Bool×yB) (x:zda) (y:zjs):=zFn zQ x.2.2.1 x.2.2.2.1 y.1.1 y.1.2.1 y.1.2.2.1 y.1.2.2.2.2.1 y.1.2.2.2.2.2.2.1 y.1.2.2.2.2.2.2.2.1 y.1.2.2.2.2.2.2.2.2.1 y.1.2.2.2.2.2.2.2.2.2.1 y.2.1.1 y.2.1.2.1 y.2.1.2.2.1 y.2.1.2.2.2.2.1 y.2.1.2.2.2.2.2.2.1 y.2.1.2.2.2.2.2.2.2.1 y.2.1.2.2.2.2.2.2.2.2.1 y.2.1.2.2.2.2.2.2.2.2.2.1 y.2.2.1 y.2.2.2.1
def zEC (zQ:yB->Bool×yB) (n:Nat) (t32:Int) (t33:Int) (x_0:Int) (x_1:Int) (x_2:Int) (x_3:Int) (x_4:Int) (x_5:Int) (x_6:Int) (x_7:ByteArray) (t2_0:Int) (t2_1:Int) (t2_2:Int) (t2_3:Int) (t2_4:Int) (t2_5:Int) (t2_6:Int) (t2_7:ByteArray) (b2:yA) (b3:yD):=zD (zuo zQ) default n ((),(),t32,t33,()) ((x_0,x_1,x_2,(),x_3,(),x_4,x_5,x_6,x_7,()),(t2_0,t2_1,t2_2,(),t2_3,(),t2_4,t2_5,t2_6,t2_7,()),b2,b3,())
def zEi (r:zwG):LTree ty:=.done (.exit 2) [.ptr 200 0,.ptr 201 0] [.box ([.lit (.int .i64 r.1),.lit (.int .i64 r.2.1),.lit (.int .i64 r.2.2.1),.own 202,.lit (.int .i64 r.2.2.2.1),.own 203,.lit (.int .i64 r.2.2.2.2.1),.lit (.int .i64 r.2.2.2.2.2.1),.lit (.int .i64 r.2.2.2.2.2.2.1),.lit (.string r.2.2.2.2.2.2.2.1)]) false,.box ([.lit (.int .i64 r.2.2.2.2.2.2.2.2.1),.lit (.int .i64 r.2.2.2.2.2.2.2.2.2.1),.lit (.int .i64 r.2.2.2.2.2.2.2.2.2.2.1),.lit (.slice none 0 0),.lit (.int .i64 r.2.2.2.2.2.2.2.2.2.2.2.1),.lit (.slice none 0 0),.lit (.int .i64 r.2.2.2.2.2.2.2.2.2.2.2.2.1),.lit (.int .i64 r.2.2.2.2.2.2.2.2.2.2.2.2.2.1),.lit (.int .i64 r.2.2.2.2.2.2.2.2.2.2.2.2.2.2.1),.lit (.string r.2.2.2.2.2.2.2.2.2.2.2.2.2.2.2.1)]) false,.arr 51 r.2.2.2.2.2.2.2.2.2.2.2.2.2.2.2.2.1 false,.arr 169 r.2.2.2.2.2.2.2.2.2.2.2.2.2.2.2.2.2 false]
def zEz:BL ty zjs:=zev (za (zN .i64) (za (zN .i64) (za (zN .i64) (za (zcG 202) (za (zN .i64) (za (zcG 203) (za (zN .i64) (za (zN .i64) (za (zN .i64) (za ztm zn)))))))))) false (zev (za (zN .i64) (za (zN .i64) (za (zN .i64) (za zTL (za (zN .i64) (za zTL (za (zN .i64) (za (zN .i64) (za (zN .i64) (za ztm zn)))))))))) false (zcV 51 false (zcV 169 false (zbd))))
def zEk (x:zda) (y:zjr):Nat:=(Int.toNat x.2.2.1+Int.toNat x.2.2.2.1+Int.toNat y.1.1+Int.toNat y.1.2.1+Int.toNat y.1.2.2.1+Int.toNat y.1.2.2.2.2.1+y.1.2.2.2.2.2.1.length+Int.toNat y.1.2.2.2.2.2.2.1+Int.toNat y.1.2.2.2.2.2.2.2.1+Int.toNat y.1.2.2.2.2.2.2.2.2.1+y.1.2.2.2.2.2.2.2.2.2.1.size+Int.toNat y.2.1.1+Int.toNat y.2.1.2.1+Int.toNat y.2.1.2.2.1+Int.toNat y.2.1.2.2.2.2.1+Int.toNat y.2.1.2.2.2.2.2.2.1+Int.toNat y.2.1.2.2.2.2.2.2.2.1+Int.toNat y.2.1.2.2.2.2.2.2.2.2.1+y.2.1.2.2.2.2.2.2.2.2.2.1.size+y.2.2.1.length+1)
def zEb (x:zda) (y:zjs):Nat:=(Int.toNat x.2.2.1+Int.toNat x.2.2.2.1+Int.toNat y.1.1+Int.toNat y.1.2.1+Int.toNat y.1.2.2.1+Int.toNat y.1.2.2.2.2.1+Int.toNat y.1.2.2.2.2.2.2.1+Int.toNat y.1.2.2.2.2.2.2.2.1+Int.toNat y.1.2.2.2.2.2.2.2.2.1+y.1.2.2.2.2.2.2.2.2.2.1.size+Int.toNat y.2.1.1+Int.toNat y.2.1.2.1+Int.toNat y.2.1.2.2.1+Int.toNat y.2.1.2.2.2.2.1+Int.toNat y.2.1.2.2.2.2.2.2.1+Int.toNat y.2.1.2.2.2.2.2.2.2.1+Int.toNat y.2.1.2.2.2.2.2.2.2.2.1+y.2.1.2.2.2.2.2.2.2.2.2.1.size+y.2.2.1.length+y.2.2.2.1.length+1)
def zmV (zQ:yB->Bool×yB):=zb4 base 50 [(133,zdL),(134,zei),(141,(zkw zQ))] [] [(3,(kpL [1,2,11,12])),(9,(kpL [1,2,32,33]))] [(3,1,(kpL [1,2])),(9,3,(kpL [1,2]))] [(3,spW zFi zEO (zue zQ) default zDO zEk),(9,spW zFi zEz (zuo zQ) default zEi zEb)] []
theorem zC8 (zQ:yB->Bool×yB):zM (zmV zQ) (lp (body f200) 0):=zu (id:=3) (hl:=rfl)
theorem zD2 (zQ:yB->Bool×yB):zM (zmV zQ) (lp (body f200) 1):=zu (id:=9) (hl:=rfl)
def zFW (zQ:yB->Bool×yB) (x_:At):Wy0 (At):=.bn (zbW x_.Ag) λr7=>.bn (zEy zQ ((Int.ofNat r7.length).toNat +Int.toNat 0+x_.Kind.toNat +x_.Row.Table.toNat +x_.Row.Seq.toNat +x_.Func.toNat +x_.Items.length+x_.Op.toNat +x_.Bd.Kind.toNat +x_.Bd.Int.toNat +x_.Bd.Text.size+Int.toNat 0+Int.toNat 0+Int.toNat 0+Int.toNat 0+Int.toNat 0+Int.toNat 0+Int.toNat 0+(ByteArray.mk #[]).size+r7.length+1) (Int.ofNat r7.length) 0 x_.Kind x_.Row.Table x_.Row.Seq x_.Func x_.Items x_.Op x_.Bd.Kind x_.Bd.Int x_.Bd.Text 0 0 0 0 0 0 0 (ByteArray.mk #[]) r7) λr6=>.bn (zcf r6.2.2.2.2.1) λr5=>.bn (zEC zQ ((Int.ofNat r5.length).toNat +Int.toNat 0+r6.1.toNat +r6.2.1.toNat +r6.2.2.1.toNat +r6.2.2.2.1.toNat +r6.2.2.2.2.2.1.toNat +r6.2.2.2.2.2.2.1.toNat +r6.2.2.2.2.2.2.2.1.toNat +r6.2.2.2.2.2.2.2.2.1.size+r6.2.2.2.2.2.2.2.2.2.1.toNat +r6.2.2.2.2.2.2.2.2.2.2.1.toNat +r6.2.2.2.2.2.2.2.2.2.2.2.1.toNat +r6.2.2.2.2.2.2.2.2.2.2.2.2.1.toNat +r6.2.2.2.2.2.2.2.2.2.2.2.2.2.1.toNat +r6.2.2.2.2.2.2.2.2.2.2.2.2.2.2.1.toNat +r6.2.2.2.2.2.2.2.2.2.2.2.2.2.2.2.1.toNat +r6.2.2.2.2.2.2.2.2.2.2.2.2.2.2.2.2.1.size+r6.2.2.2.2.2.2.2.2.2.2.2.2.2.2.2.2.2.length+r5.length+1) (Int.ofNat r5.length) 0 r6.1 r6.2.1 r6.2.2.1 r6.2.2.2.1 r6.2.2.2.2.2.1 r6.2.2.2.2.2.2.1 r6.2.2.2.2.2.2.2.1 r6.2.2.2.2.2.2.2.2.1 r6.2.2.2.2.2.2.2.2.2.1 r6.2.2.2.2.2.2.2.2.2.2.1 r6.2.2.2.2.2.2.2.2.2.2.2.1 r6.2.2.2.2.2.2.2.2.2.2.2.2.1 r6.2.2.2.2.2.2.2.2.2.2.2.2.2.1 r6.2.2.2.2.2.2.2.2.2.2.2.2.2.2.1 r6.2.2.2.2.2.2.2.2.2.2.2.2.2.2.2.1 r6.2.2.2.2.2.2.2.2.2.2.2.2.2.2.2.2.1 r6.2.2.2.2.2.2.2.2.2.2.2.2.2.2.2.2.2 r5) λr4=>.k (⟨r4.1,(⟨r4.2.1,r4.2.2.1⟩:RowID),r4.2.2.2.2.2.2.2.2.2.2.2.2.2.2.2.2.1,r4.2.2.2.1,r4.2.2.2.2.2.2.2.2.2.2.2.2.2.2.2.2.2,r4.2.2.2.2.1,(⟨r4.2.2.2.2.2.1,r4.2.2.2.2.2.2.1,r4.2.2.2.2.2.2.2.1⟩:Value)⟩:At)
def zxg (zQ:yB->Bool×yB) (x_:At):=(zFW zQ x_).fin default
theorem zBw (zQ:yB->Bool×yB) (zM5:SdP 141 (zkw zQ)):SdP 200 (zkp (zxg zQ)):=
 sT (cx':=(zmV zQ)) (zk ⟨zgq,zh0,zM5,trivial⟩) call200 func200 (lOK (aC (zC8 zQ) (aC (zD2 zQ) aN)))
def zGF:Nat->(yB->Bool×yB)×(At->Bool×At)
 | 0=>(λ_=>(false,default),λ_=>(false,default))
 | n+1=>(zB7 ((zGF n).2),zxg ((zGF n).1))
def zBT (n:Nat):yB->Bool×yB:=(zGF n).1
def zIM (n:Nat):At->Bool×At:=(zGF n).2
theorem zTb:∀ n,SdP 141 (zkw (zBT n))/\SdP 200 (zkp (zIM n))
 | 0=>⟨zbl call141 (λ_=>rfl),zbl call200 (λ_=>rfl)⟩
 | n+1=>by
  have ih:=zTb n;exact ⟨zF7 _ (ih.2),zBw _ (ih.1)⟩
def zhP:yB->Bool×yB:=zBT 1000
def zfH:Ab.Spec ty:=zkw zhP
theorem zhz:SdP 141 zfH:=(zTb 1000).1
def zLY:=zbG base 9 [(103,zru),(141,zfH)]
def zOP (a:yB):Wy0 (yB×Int):=.bn (zjZ a) λr1=>.i (!r1) (.k ([],6)) (.bn (zhP a) λr0=>.k (r0,0))
def ze5 (a:yB):=(zOP a).fin default
def zKh (r:yB×Int):ARes ty:=⟨[.own 107 r.1,.pure (.lit (.int .i64 r.2))],[]⟩
def zdX:=zh zTC λx=>((ze5 x.1).1,zKh (ze5 x.1).2)
theorem zeQ:SdP 124 zdX:=
 sT (cx':=zLY) (zk ⟨zxf,zhz,trivial⟩) call124 func124 (lOK aN) (sg:=⟨[.own 107,.pure],[]⟩)
def zvn:=zbG base 27 []
def zv3 (n_:Int):Wy0 (yB):=.i (decide (n_<0)) .d (.i (decide (IntKind.i64.wrap (n_ - IntKind.i64.wrap (0 - 0))>0)) (.i (decide (0<IntKind.i64.wrap (n_ - IntKind.i64.wrap (0 - 0)))&&(decide (IntKind.i64.wrap (n_ - IntKind.i64.wrap (0 - 0))*Int.ofNat 32<=Int.ofNat zbm)&&(decide (IntKind.i64.wrap (n_ - IntKind.i64.wrap (0 - 0))<=Int.ofNat zbm)&& !Nat.beq 2 0))) (.k (List.take (Int.toNat 0 - Int.toNat 0) (List.replicate (IntKind.i64.wrap (n_ - IntKind.i64.wrap (0 - 0))).toNat (TO.mk 0 [])))) .d) (.k []))
def zht (n_:Int):=(zv3 n_).fin default
def zvY:AL base (Unit×Int×Unit):=zd (zg z7V) (zd (zg ziy) zw)
def zjB:=zh zvY λx=>((zht x.2.1).1,zZa (zht x.2.1).2)
theorem zsH:SdP 193 zjB:=
 sT (cx':=zvn) (zk trivial) call193 func193 (lOK aN) (sg:=⟨[.own 107],[]⟩)
abbrev zea:=yA×Int×yA×Int×Int×Unit
abbrev zlJ:=yA×Int
abbrev zd5:=Unit×yA×Int×Int×Unit
abbrev zd8:=yB×Unit
def zth (slices:yA) (size:Int) (t9:yA) (t10:Int) (t11:Int):Wy zea Unit zlJ:=.i (decide (t11<t10)) (.i (decide (0<=t11)&&decide (t11<Int.ofNat t9.length)) (.i (decide (IntKind.i64.wrap (size+Int.ofNat (List.length (t9.getD t11.toNat default)))<0)) .d (.h (slices,(IntKind.i64.wrap (size+Int.ofNat (List.length (t9.getD t11.toNat default)))),t9,t10,(IntKind.i64.wrap (t11+1)),()) ())) .d) (.k (slices,size))
def zjO (x:zea) (y:Unit):=zth x.1 x.2.1 x.2.2.1 x.2.2.2.1 x.2.2.2.2.1
def ztS (n:Nat) (slices:yA) (size:Int) (t9:yA) (t10:Int) (t11:Int):=zD (zjO) default n (slices,size,t9,t10,t11,()) ()
def zsU (r:zlJ):LTree ty:=.done (.exit 0) [.sl 51 r.1,.lit (.int .i64 r.2)] []
def ztJ:LL ty zea:=za (lSl 51) (za zj (za (lSl 51) (za zj (za zj zn))))
def zsS (t25:yA) (t26:Int) (t27:Int) (newslice:yB):Wy zd5 zd8 (yB):=.i (decide (t27<t26)) (.i (decide (0<=t27)&&decide (t27<Int.ofNat t25.length)) (.i (decide ((newslice.length+List.length (t25.getD t27.toNat default))*32<=zbm)) (.h ((),t25,t26,(IntKind.i64.wrap (t27+1)),()) ((newslice++t25.getD t27.toNat default),())) .d) .d) (.k newslice)
def zjh (x:zd5) (y:zd8):=zsS x.2.1 x.2.2.1 x.2.2.2.1 y.1
def zsP (n:Nat) (t25:yA) (t26:Int) (t27:Int) (newslice:yB):=zD (zjh) default n ((),t25,t26,t27,()) (newslice,())
def zsu (r:yB):LTree ty:=.done (.exit 2) [.own 144] [.arr 107 r false]
def zsV:LL ty zd5:=za (zcG 144) (za (lSl 51) (za zj (za zj zn)))
def zsT:BL ty zd8:=zcV 107 false (zbd)
def zsN (x:zea) (y:Unit):Nat:=(x.1.length+Int.toNat x.2.1+x.2.2.1.length+Int.toNat x.2.2.2.1+Int.toNat x.2.2.2.2.1+1)
def zsC (x:zd5) (y:zd8):Nat:=(x.2.1.length+Int.toNat x.2.2.1+Int.toNat x.2.2.2.1+y.1.length+1)
def zfo:=zb4 base 36 [(193,zjB)] [] [(3,(kpL [0,3,9,10,11])),(11,(kpL [6,25,26,27]))] [(3,1,(kpL [0,3])),(11,3,(kpL [6]))] [(3,spW ztJ z0j (zjO) default zsU zsN),(11,spW zsV zsT (zjh) default zsu zsC)] [193]
theorem zsX:zM zfo (lp (body f126) 0):=zu (id:=3) (hl:=rfl)
theorem zsv:zM zfo (lp (body f126) 1):=zu (id:=11) (hl:=rfl)
def zuP (slices:yA):Wy0 (yB):=.bn (ztS (slices.length+Int.toNat 0+slices.length+(Int.ofNat slices.length).toNat +Int.toNat 0+1) slices 0 slices (Int.ofNat slices.length) 0) λr2=>.bn (zht r2.2) λr1=>.bn (zsP (r2.1.length+(Int.ofNat r2.1.length).toNat +Int.toNat 0+r1.length+1) r2.1 (Int.ofNat r2.1.length) 0 r1) λr0=>.k r0
def zgk (slices:yA):=(zuP slices).fin default
def zt3:AL base (yA×Unit):=zd (zg (vSl 51)) zw
def zi0:=zh zt3 λx=>((zgk x.1).1,zZa (zgk x.1).2)
theorem zrH:SdP 126 zi0:=
 sT (cx':=zfo) (zk ⟨zsH,trivial⟩) call126 func126 (lOK (aC zsX (aC zsv aN))) (sg:=⟨[.own 107],[]⟩)
def zVa:=zbG zby 22 [(52,zce),(124,zdX),(125,zpF),(126,zi0)]
def zWx (a:yB) (b:yB):Wy0 (yB×Int):=.bn (zcs a) λr4=>.i (!r4) (.k ([],1)) (.bn (zcs b) λr3=>.i (!r3) (.k ([],1)) (.bn (zgk [a,b]) λr2=>.bn (zrg r2) λr1=>.bn (ze5 r1) λr0=>.k (r0.1,r0.2)))
def zwR (a:yB) (b:yB):=(zWx a b).fin default
def zWJ:AL zby (yB×yB×Unit):=zd (zg (vSl 107)) (zd (zg (vSl 107)) zw)
def zuX:=zh zWJ λx=>((zwR x.1 x.2.1).1,zKh (zwR x.1 x.2.1).2)
theorem zBo:Sound Tryz.prog zby 72 zuX:=
 sU (cx':=zVa) (zk ⟨zck.nodr,zeQ.nodr,zwJ,zrH.nodr,trivial⟩) call72 func72 (lOK aN) (sg:=⟨[.own 107,.pure],[]⟩)
def zHu:=zbG base 7 []
def zIE (x_:Row):Wy0 (Bool):=.k (Int.ofNat x_.Ann.length==0)
def zms (x_:Row):=(zIE x_).fin default
def zJp:AL base (Row×Unit):=zd (zg (zcj 54)) zw
def zim:=zh zJp λx=>((zms x.1).1,zQZ (zms x.1).2)
theorem zlK:SdP 69 zim:=
 sT (cx':=zHu) (zk trivial) call69 func69 (lOK aN)
def zPK:AL zby (yB×((yF×Unit)×Unit)×Unit):=zd (zg (vSl 107)) (zd (zg (vFn 138 (zrP (zYw (zrP (vSl 65) zcr)) zcr))) zw)
def zjF (F:yB->yF->Bool×(yB×Int)):Ab.Spec ty:=zh zPK λx=>((F x.1 x.2.1.1.1).1,zKh (F x.1 x.2.1.1.1).2)
def zHL:AL zby (At×((yF×Unit)×Unit)×Unit):=zd (zg (zcj 143)) (zd (zg (vFn 138 (zrP (zYw (zrP (vSl 65) zcr)) zcr))) zw)
def zjD (F:At->yF->Bool×(yB×Int)):Ab.Spec ty:=zh zHL λx=>((F x.1 x.2.1.1.1).1,zKh (F x.1 x.2.1.1.1).2)
end Go.Proofs.YtoknknbmfmddbaaGreatDoor
end
