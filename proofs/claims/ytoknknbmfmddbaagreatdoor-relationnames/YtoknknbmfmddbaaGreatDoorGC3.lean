/- Texts of this claim, joined (the program, its functions in plain words, and what they compute). -/
import Derived.WalkKit
import Derived.WalkSpells
import Derived.Test.YtoknknbmfmddbaaGreatDoorGC2
set_option autoImplicit false
set_option linter.unusedVariables false
set_option linter.unusedSectionVars false
set_option linter.unusedSimpArgs false
set_option maxRecDepth 1000000
set_option maxHeartbeats 0
noncomputable section
namespace Go.Proofs.YtoknknbmfmddbaaGreatDoor
open Go Go.Ab
open Go.Proofs.Tryz
abbrev zdu:=yD×Unit×Int×Int×Unit
def znW (zf:Wd->Bool×Bool) (s:yD) (t7:Int) (t8:Int):Wy zdu Unit (Int⊕Unit):=.i (decide (t8<t7)) (.i (decide (0<=t8)&&decide (t8<Int.ofNat s.length)) (.bn (zf (s.getD t8.toNat default)) λr0=>.i (r0) (.k (.inl t8)) (.h (s,(),t7,(IntKind.i64.wrap (t8+1)),()) ())) .d) (.k (.inr ()))
def zgz (zf:Wd->Bool×Bool) (x:zdu) (y:Unit):=znW zf x.1 x.2.2.1 x.2.2.2.1
def znX (zf:Wd->Bool×Bool) (n:Nat) (s:yD) (t7:Int) (t8:Int):=zA (zgz zf) (.inl default) n (s,(),t7,t8,()) ()
def znT:LL ty zdu:=za (lSl 169) (za (lFn 179 (zm)) (za zj (za zj zm)))
def zns (x:zdu) (y:Unit):Nat:=(x.1.length+Int.toNat x.2.2.1+Int.toNat x.2.2.2.1+1)
def zgE (zf:Wd->Bool×Bool):=zb1 base 19 [(179,(zdj zf))] [] [(2,(kpL [0,1,7,8]))] [(2,1,[]),(2,0,(kpL [4]))] [(2,spW znT z4x (zgz zf) (.inl default) zrc zns)] []
theorem znt (zf:Wd->Bool×Bool):zJ (zgE zf) (lp (body f228) 0):=zq (id:=2) (hl:=rfl)
def zoP (zf:Wd->Bool×Bool) (s:yD):Wy0 (Int):=.bn (znX zf (s.length+(Int.ofNat s.length).toNat +Int.toNat 0+1) s (Int.ofNat s.length) 0) λr2=>.i (isL r2) (.k (getL r2)) (.k (-1:Int))
def zcS (zf:Wd->Bool×Bool) (s:yD):=(zoP zf s).fin default
theorem zmt (zf:Wd->Bool×Bool) (zfJ:SdP 179 (zdj zf)):SdP 228 (zcU (zcS zf)):=
 sT (cx':=(zgE zf)) (zi ⟨zfJ,trivial⟩) call228 func228 (lOK (aC (znt zf) aN))
def zd9:Nat->(yB->Bool×Bool)×(At->Bool×Bool)×(yB->Bool×Bool)×(Wd->Bool×Bool)×(yA->Bool×Int)×(yA->Bool×Bool)×(yD->Bool×Int)×(yD->Bool×Bool)
 | 0=>(λ_=>(false,default),λ_=>(false,default),λ_=>(false,default),λ_=>(false,default),λ_=>(false,default),λ_=>(false,default),λ_=>(false,default),λ_=>(false,default))
 | n+1=>(zmJ ((zd9 n).2.1),ziY ((zd9 n).2.2.2.2.2.1) ((zd9 n).2.2.1) ((zd9 n).2.2.2.2.2.2.2) ((zd9 n).2.2.2.1),zjR ((zd9 n).1),zjL ((zd9 n).1),zcy ((zd9 n).2.2.1),zcl ((zd9 n).2.2.1) ((zd9 n).2.2.2.2.1),zcS ((zd9 n).2.2.2.1),zcB ((zd9 n).2.2.2.1) ((zd9 n).2.2.2.2.2.2.1))
def zjB (n:Nat):yB->Bool×Bool:=(zd9 n).1
def zl2 (n:Nat):At->Bool×Bool:=(zd9 n).2.1
def zeS (n:Nat):yB->Bool×Bool:=(zd9 n).2.2.1
def zeP (n:Nat):Wd->Bool×Bool:=(zd9 n).2.2.2.1
def zcA (n:Nat):yA->Bool×Int:=(zd9 n).2.2.2.2.1
def zci (n:Nat):yA->Bool×Bool:=(zd9 n).2.2.2.2.2.1
def zcW (n:Nat):yD->Bool×Int:=(zd9 n).2.2.2.2.2.2.1
def zcD (n:Nat):yD->Bool×Bool:=(zd9 n).2.2.2.2.2.2.2
theorem zOI (n:Nat):zjB (n+1)=zmJ (zl2 n):=rfl
theorem zHI (n:Nat):zl2 (n+1)=ziY (zci n) (zeS n) (zcD n) (zeP n):=rfl
theorem zDx (n:Nat):zeS (n+1)=zjR (zjB n):=rfl
theorem zDX (n:Nat):zeP (n+1)=zjL (zjB n):=rfl
theorem zl1 (n:Nat):zcA (n+1)=zcy (zeS n):=rfl
theorem zk3 (n:Nat):zci (n+1)=zcl (zeS n) (zcA n):=rfl
theorem zoo (n:Nat):zcW (n+1)=zcS (zeP n):=rfl
theorem zmH (n:Nat):zcD (n+1)=zcB (zeP n) (zcW n):=rfl
theorem zXF:∀ n,SdP 52 (zhC (zjB n))/\SdP 107 (zl8 (zl2 n))/\SdP 174 (zhC (zeS n))/\SdP 179 (zdj (zeP n))/\SdP 226 (zcz (zcA n))/\SdP 173 (zck (zci n))/\SdP 228 (zcU (zcW n))/\SdP 178 (zcC (zcD n))
 | 0=>⟨zbk call52 (λ_=>rfl),zbk call107 (λ_=>rfl),zbk call174 (λ_=>rfl),zbk call179 (λ_=>rfl),zbk call226 (λ_=>rfl),zbk call173 (λ_=>rfl),zbk call228 (λ_=>rfl),zbk call178 (λ_=>rfl)⟩
 | n+1=>by
  have ih:=zXF n;exact ⟨zJJ _ (ih.2.1),zEf _ _ _ _ (ih.2.2.2.2.2.1) (ih.2.2.1) (ih.2.2.2.2.2.2.2) (ih.2.2.2.1),zBo _ (ih.1),zBs _ (ih.1),zk0 _ (ih.2.2.1),zj3 _ _ (ih.2.2.1) (ih.2.2.2.2.1),zmt _ (ih.2.2.2.1),zlk _ _ (ih.2.2.2.1) (ih.2.2.2.2.2.2.1)⟩
def zb8:yB->Bool×Bool:=zjB 1000
def zcm:Ab.Spec ty:=zhC zb8
theorem zcu:SdP 52 zcm:=(zXF 1000).1
def zSM (r:ByteArray):ARes ty:=⟨[.pure (.lit (.string r))],[]⟩
def zXl:AL zbw (yB×Unit):=zd (ze (vSl 107)) zt
def zn0 (F:yB->Bool×ByteArray):Ab.Spec ty:=zh zXl λx=>((F x.1).1,zSM (F x.1).2)
def zKC:AL zbw (At×Unit):=zd (ze (zcd 143)) zt
def zk8 (F:At->Bool×ByteArray):Ab.Spec ty:=zh zKC λx=>((F x.1).1,zSM (F x.1).2)
def zGd:AL zbw (yC×Unit):=zd (ze (vSl 145)) zt
def zgb (F:yC->Bool×ByteArray):Ab.Spec ty:=zh zGd λx=>((F x.1).1,zSM (F x.1).2)
def zK0:=zbx base 2 []
def zLY:Wy0 (List ByteArray):=.k [ByteArray.mk #[(67:UInt8),(79:UInt8),(85:UInt8),(78:UInt8),(84:UInt8)],ByteArray.mk #[(83:UInt8),(85:UInt8),(77:UInt8)],ByteArray.mk #[(77:UInt8),(73:UInt8),(78:UInt8)],ByteArray.mk #[(77:UInt8),(65:UInt8),(88:UInt8)]]
def zb2:Bool×List ByteArray:=(zLY).fin default
def zJk (r:List ByteArray):ARes ty:=⟨[.own 9 r],[]⟩
def zw7:=zh z16 λx=>((zb2 ).1,zJk (zb2 ).2)
theorem zGG:SdP 265 zw7:=
 sT (cx':=zK0) (zi trivial) call265 func265 (lOK aN) (sg:=⟨[.own 9],[]⟩)
def zKJ:=zbx base 2 []
def zL8:Wy0 (List ByteArray):=.k [ByteArray.mk #[(61:UInt8)],ByteArray.mk #[(60:UInt8),(62:UInt8)],ByteArray.mk #[(60:UInt8)],ByteArray.mk #[(60:UInt8),(61:UInt8)],ByteArray.mk #[(62:UInt8)],ByteArray.mk #[(62:UInt8),(61:UInt8)]]
def zds:Bool×List ByteArray:=(zL8).fin default
def zwP:=zh z16 λx=>((zds ).1,zJk (zds ).2)
theorem zGg:SdP 266 zwP:=
 sT (cx':=zKJ) (zi trivial) call266 func266 (lOK aN) (sg:=⟨[.own 9],[]⟩)
def strings_Join (l:List ByteArray) (sep:ByteArray):Bool×ByteArray:=zWe l sep
def zom:Ab.Spec ty:=zh (cx:=zbw) (zd (ze (vSl 9)) (zd (ze zwj) zt)) λx=>((strings_Join x.1 x.2.1).1,⟨[.pure (.lit (.string (strings_Join x.1 x.2.1).2))],[]⟩)
theorem zrN:Sound Tryz.prog zbw 44 zom:=zbae (T:=9) zQf rfl Go.Proofs.Tryz.lays156 Go.Proofs.Tryz.Builder_Extra_156 call44 (λs:ByteArray=>s) (λ_=>rfl) strings_Join (λl sep=>congrArg (λl=>zWe l sep) (List.map_id' (α:=ByteArray) l).symm)
def strconv_Itoa (x:Int):Bool×ByteArray:=zPk x
def zy5:Ab.Spec ty:=zh (cx:=base) (zd (ze (zf3 .i64)) zt) λx=>((strconv_Itoa x.1).1,⟨[.pure (.lit (.string (strconv_Itoa x.1).2))],[]⟩)
theorem zEw:SdP 216 zy5:=zbag zhf Go.Proofs.Tryz.laysM171 call216 (λ_ h=>h.1)
def zZd:=zbx base 15 [(116,zti),(216,zy5)]
def zLt (id:RowID):Wy0 (ByteArray):=.bn (zp8 id) λr2=>.i (!r2) (.k (ByteArray.mk #[])) (.bn (strconv_Itoa id.Table) λr1=>.i (decide ((ByteArray.mk #[(116:UInt8)]).size+r1.size<=9223372036854775807)) (.i (decide ((ByteArray.mk #[(116:UInt8)]++r1).size+(ByteArray.mk #[(46:UInt8)]).size<=9223372036854775807)) (.bn (strconv_Itoa id.Seq) λr0=>.i (decide ((ByteArray.mk #[(116:UInt8)]++r1++ByteArray.mk #[(46:UInt8)]).size+r0.size<=9223372036854775807)) (.k (ByteArray.mk #[(116:UInt8)]++r1++ByteArray.mk #[(46:UInt8)]++r0)) .d) .d) .d)
def zvG (id:RowID):=(zLt id).fin default
def zFQ:=zh z8l λx=>((zvG x.1).1,zSM (zvG x.1).2)
theorem zSf:SdP 264 zFQ:=
 sT (cx':=zZd) (zi ⟨zx3,zEw,trivial⟩) call264 func264 (lOK aN)
def ziB (m b:Int):Bool×ByteArray:=zuB m b
def zsA:Ab.Spec ty:=zh (cx:=base) (zd (ze (zf3 .i64)) (zd (ze (zf3 .i64)) zt)) λx=>((ziB x.1 x.2.1).1,⟨[.pure (.lit (.string (ziB x.1 x.2.1).2))],[]⟩)
theorem zyH:SdP 92 zsA:=z0Z zhf Go.Proofs.Tryz.laysM173 call92 (λ_ h=>h.1)
def strings_ReplaceAll (s p q:ByteArray):Bool×ByteArray:=zpd s p q
def zyJ:Ab.Spec ty:=zh (cx:=zbw) (zd (ze zwj) (zd (ze zwj) (zd (ze zwj) zt))) λx=>((strings_ReplaceAll x.1 x.2.1 x.2.2.1).1,⟨[.pure (.lit (.string (strings_ReplaceAll x.1 x.2.1 x.2.2.1).2))],[]⟩)
theorem zJz:Sound Tryz.prog zbw 93 zyJ:=zYX zQf rfl Go.Proofs.Tryz.lays155 Go.Proofs.Tryz.Builder_Extra_155 call93 (λ_ h=>h.2)
def z0d:=zbx zbw 27 [(91,zpG),(92,zsA),(93,zyJ)]
def zOZ (v:Value):Wy0 (ByteArray):=.bn (zo9 v) λr2=>.i (!r2) (.k (ByteArray.mk #[])) (.i (v.Kind==0) (.bn (ziB v.Int 10) λr0=>.k r0) (.i (v.Kind==1) (.bn (strings_ReplaceAll v.Text (ByteArray.mk #[(39:UInt8)]) (ByteArray.mk #[(39:UInt8),(39:UInt8)])) λr1=>.i (decide ((ByteArray.mk #[(39:UInt8)]).size+r1.size<=9223372036854775807)) (.i (decide ((ByteArray.mk #[(39:UInt8)]++r1).size+(ByteArray.mk #[(39:UInt8)]).size<=9223372036854775807)) (.k (ByteArray.mk #[(39:UInt8)]++r1++ByteArray.mk #[(39:UInt8)])) .d) .d) (.i (v.Int==1) (.k (ByteArray.mk #[(84:UInt8),(82:UInt8),(85:UInt8),(69:UInt8)])) (.k (ByteArray.mk #[(70:UInt8),(65:UInt8),(76:UInt8),(83:UInt8),(69:UInt8)])))))
def zqp (v:Value):=(zOZ v).fin default
def z2I:AL zbw (Value×Unit):=zd (ze (zcd 79)) zt
def zzb:=zh z2I λx=>((zqp x.1).1,zSM (zqp x.1).2)
theorem zFC:Sound Tryz.prog zbw 45 zzb:=
 sU (cx':=z0d) (zi ⟨zte.nodr,zyH.nodr,zJz,trivial⟩) call45 func45 (lOK aN)
abbrev zki:=Unit×Unit×yD×Int×Int×Unit
abbrev zkm:=At×List ByteArray×Unit
abbrev zxi:=At×List ByteArray
def zfA (zbp:yB->Bool×ByteArray) (t48:yD) (t49:Int) (t50:Int) (x_:At) (items:List ByteArray):Wy zki zkm zxi:=.i (decide (t50<t49)) (.i (decide (0<=t50)&&decide (t50<Int.ofNat t48.length)) (.bn (zqp (t48.getD t50.toNat default).Value) λr1=>.i (decide (r1.size+(ByteArray.mk #[(58:UInt8),(32:UInt8)]).size<=9223372036854775807)) (.bn (zbp (t48.getD t50.toNat default).Ann) λr0=>.i (decide ((r1++ByteArray.mk #[(58:UInt8),(32:UInt8)]).size+r0.size<=9223372036854775807)) (.i (decide ((items.length+[r1++ByteArray.mk #[(58:UInt8),(32:UInt8)]++r0].length)*16<=zF)) (.h ((),(),t48,t49,(IntKind.i64.wrap (t50+1)),()) (x_,(items++[r1++ByteArray.mk #[(58:UInt8),(32:UInt8)]++r0]),())) .d) .d) .d) .d) (.k (x_,items))
def zmA (zbp:yB->Bool×ByteArray) (x:zki) (y:zkm):=zfA zbp x.2.2.1 x.2.2.2.1 x.2.2.2.2.1 y.1 y.2.1
def zuy (zbp:yB->Bool×ByteArray) (n:Nat) (t48:yD) (t49:Int) (t50:Int) (x_:At) (items:List ByteArray):=zA (zmA zbp) default n ((),(),t48,t49,t50,()) (x_,items,())
def zDT (r:zxi):LTree ty:=.done (.exit 1) [.ptr 360 0,.own 361] [.box (base.enc 143 r.1) false,.arr 9 r.2 false]
def zFs:LL ty zki:=za (zdH 360 0) (za (zfb 361) (za (lSl 169) (za zj (za zj zm))))
def zES:BL ty zkm:=zfj (zgi (λx=>(⟨x.1,⟨x.2.1,x.2.2.1⟩,x.2.2.2.1,x.2.2.2.2.1,x.2.2.2.2.2.1,x.2.2.2.2.2.2.1,⟨x.2.2.2.2.2.2.2.1,x.2.2.2.2.2.2.2.2.1,x.2.2.2.2.2.2.2.2.2.1⟩⟩:At)) (λx=>(x.Kind,x.Row.Table,x.Row.Seq,x.Ag,x.Func,x.Items,x.Op,x.Bd.Kind,x.Bd.Int,x.Bd.Text,())) (λ_=>rfl) (za (zS .i64) (za (zS .i64) (za (zS .i64) (za (lSl 51) (za (zS .i64) (za (lSl 169) (za (zS .i64) (za (zS .i64) (za (zS .i64) (za znN zm))))))))))) false (zfl 9 false (zbg))
def zEj (x:zki) (y:zkm):Nat:=(x.2.2.1.length+Int.toNat x.2.2.2.1+Int.toNat x.2.2.2.2.1+y.1.Ag.length+y.1.Items.length+y.2.1.length+1)
def zvW (zbp:yB->Bool×ByteArray):=zb1 zbw 90 [(44,zom),(45,zzb),(94,(zn0 zbp)),(264,zFQ),(265,zw7),(266,zwP)] [] [(12,[(1,.keep),(3,.own 9),(48,.keep),(49,.keep),(50,.keep)])] [(12,2,(kpL [1,3]))] [(12,spW zFs zES (zmA zbp) default zDT zEj)] []
theorem zDS (zbp:yB->Bool×ByteArray):zJ (zvW zbp) (lp (body f215) 0):=zq (id:=12) (hl:=rfl)
def zwZ (zbp:yB->Bool×ByteArray) (x_:At):Wy0 (ByteArray):=.i (x_.Kind==0) (.bn (zvG x_.Row) λr4=>.k r4) (.i (x_.Kind==1) (.i (decide ((0:Int)<=(0:Int))&&decide (0<Int.ofNat x_.Ag.length)) (.bn (zbp (x_.Ag.getD (Int.toNat 0) default)) λr6=>.i (decide ((ByteArray.mk #[(109:UInt8),(111:UInt8),(110:UInt8),(117:UInt8),(115:UInt8),(91:UInt8)]).size+r6.size<=9223372036854775807)) (.i (decide ((ByteArray.mk #[(109:UInt8),(111:UInt8),(110:UInt8),(117:UInt8),(115:UInt8),(91:UInt8)]++r6).size+(ByteArray.mk #[(44:UInt8),(32:UInt8)]).size<=9223372036854775807)) (.i (decide ((0:Int)<=(1:Int))&&decide (1<Int.ofNat x_.Ag.length)) (.bn (zbp (x_.Ag.getD (Int.toNat 1) default)) λr5=>.i (decide ((ByteArray.mk #[(109:UInt8),(111:UInt8),(110:UInt8),(117:UInt8),(115:UInt8),(91:UInt8)]++r6++ByteArray.mk #[(44:UInt8),(32:UInt8)]).size+r5.size<=9223372036854775807)) (.i (decide ((ByteArray.mk #[(109:UInt8),(111:UInt8),(110:UInt8),(117:UInt8),(115:UInt8),(91:UInt8)]++r6++ByteArray.mk #[(44:UInt8),(32:UInt8)]++r5).size+(ByteArray.mk #[(93:UInt8)]).size<=9223372036854775807)) (.k (ByteArray.mk #[(109:UInt8),(111:UInt8),(110:UInt8),(117:UInt8),(115:UInt8),(91:UInt8)]++r6++ByteArray.mk #[(44:UInt8),(32:UInt8)]++r5++ByteArray.mk #[(93:UInt8)])) .d) .d) .d) .d) .d) .d) (.i (x_.Kind==2) (.i (decide ((0:Int)<=(0:Int))&&decide (0<Int.ofNat x_.Ag.length)) (.bn (zbp (x_.Ag.getD (Int.toNat 0) default)) λr7=>.i (decide ((ByteArray.mk #[(100:UInt8),(101:UInt8),(108:UInt8),(116:UInt8),(97:UInt8),(91:UInt8)]).size+r7.size<=9223372036854775807)) (.i (decide ((ByteArray.mk #[(100:UInt8),(101:UInt8),(108:UInt8),(116:UInt8),(97:UInt8),(91:UInt8)]++r7).size+(ByteArray.mk #[(93:UInt8)]).size<=9223372036854775807)) (.k (ByteArray.mk #[(100:UInt8),(101:UInt8),(108:UInt8),(116:UInt8),(97:UInt8),(91:UInt8)]++r7++ByteArray.mk #[(93:UInt8)])) .d) .d) .d) (.i (x_.Kind==3) (.i (decide ((0:Int)<=(0:Int))&&decide (0<Int.ofNat x_.Ag.length)) (.bn (zbp (x_.Ag.getD (Int.toNat 0) default)) λr8=>.i (decide ((ByteArray.mk #[(97:UInt8),(98:UInt8),(115:UInt8),(101:UInt8),(110:UInt8),(116:UInt8),(91:UInt8)]).size+r8.size<=9223372036854775807)) (.i (decide ((ByteArray.mk #[(97:UInt8),(98:UInt8),(115:UInt8),(101:UInt8),(110:UInt8),(116:UInt8),(91:UInt8)]++r8).size+(ByteArray.mk #[(93:UInt8)]).size<=9223372036854775807)) (.k (ByteArray.mk #[(97:UInt8),(98:UInt8),(115:UInt8),(101:UInt8),(110:UInt8),(116:UInt8),(91:UInt8)]++r8++ByteArray.mk #[(93:UInt8)])) .d) .d) .d) (.bn (zuy zbp (x_.Items.length+(Int.ofNat x_.Items.length).toNat +Int.toNat 0+x_.Ag.length+x_.Items.length+0+1) x_.Items (Int.ofNat x_.Items.length) 0 (At.mk x_.Kind x_.Row x_.Ag x_.Func x_.Items x_.Op x_.Bd) []) λr11=>.i (decide (0<=r11.1.Func)&&decide (r11.1.Func<Int.ofNat zb2.2.length)) (.i (decide ((ByteArray.mk #[(116:UInt8),(101:UInt8),(115:UInt8),(116:UInt8),(91:UInt8)]).size+ByteArray.size (zb2.2.getD r11.1.Func.toNat default)<=9223372036854775807)) (.i (decide ((ByteArray.mk #[(116:UInt8),(101:UInt8),(115:UInt8),(116:UInt8),(91:UInt8)]++zb2.2.getD r11.1.Func.toNat default).size+(ByteArray.mk #[(123:UInt8)]).size<=9223372036854775807)) (.bn (strings_Join r11.2 (ByteArray.mk #[(59:UInt8),(32:UInt8)])) λr10=>.i (decide ((ByteArray.mk #[(116:UInt8),(101:UInt8),(115:UInt8),(116:UInt8),(91:UInt8)]++zb2.2.getD r11.1.Func.toNat default++ByteArray.mk #[(123:UInt8)]).size+r10.size<=9223372036854775807)) (.i (decide ((ByteArray.mk #[(116:UInt8),(101:UInt8),(115:UInt8),(116:UInt8),(91:UInt8)]++zb2.2.getD r11.1.Func.toNat default++ByteArray.mk #[(123:UInt8)]++r10).size+(ByteArray.mk #[(125:UInt8),(32:UInt8)]).size<=9223372036854775807)) (.i (decide (0<=IntKind.i64.wrap (r11.1.Op - 5))&&decide (IntKind.i64.wrap (r11.1.Op - 5)<Int.ofNat zds.2.length)) (.i (decide ((ByteArray.mk #[(116:UInt8),(101:UInt8),(115:UInt8),(116:UInt8),(91:UInt8)]++zb2.2.getD r11.1.Func.toNat default++ByteArray.mk #[(123:UInt8)]++r10++ByteArray.mk #[(125:UInt8),(32:UInt8)]).size+ByteArray.size (zds.2.getD (IntKind.i64.wrap (r11.1.Op - 5)).toNat default)<=9223372036854775807)) (.i (decide ((ByteArray.mk #[(116:UInt8),(101:UInt8),(115:UInt8),(116:UInt8),(91:UInt8)]++zb2.2.getD r11.1.Func.toNat default++ByteArray.mk #[(123:UInt8)]++r10++ByteArray.mk #[(125:UInt8),(32:UInt8)]++zds.2.getD (IntKind.i64.wrap (r11.1.Op - 5)).toNat default).size+(ByteArray.mk #[(32:UInt8)]).size<=9223372036854775807)) (.bn (zqp r11.1.Bd) λr9=>.i (decide ((ByteArray.mk #[(116:UInt8),(101:UInt8),(115:UInt8),(116:UInt8),(91:UInt8)]++zb2.2.getD r11.1.Func.toNat default++ByteArray.mk #[(123:UInt8)]++r10++ByteArray.mk #[(125:UInt8),(32:UInt8)]++zds.2.getD (IntKind.i64.wrap (r11.1.Op - 5)).toNat default++ByteArray.mk #[(32:UInt8)]).size+r9.size<=9223372036854775807)) (.i (decide ((ByteArray.mk #[(116:UInt8),(101:UInt8),(115:UInt8),(116:UInt8),(91:UInt8)]++zb2.2.getD r11.1.Func.toNat default++ByteArray.mk #[(123:UInt8)]++r10++ByteArray.mk #[(125:UInt8),(32:UInt8)]++zds.2.getD (IntKind.i64.wrap (r11.1.Op - 5)).toNat default++ByteArray.mk #[(32:UInt8)]++r9).size+(ByteArray.mk #[(93:UInt8)]).size<=9223372036854775807)) (.k (ByteArray.mk #[(116:UInt8),(101:UInt8),(115:UInt8),(116:UInt8),(91:UInt8)]++zb2.2.getD r11.1.Func.toNat default++ByteArray.mk #[(123:UInt8)]++r10++ByteArray.mk #[(125:UInt8),(32:UInt8)]++zds.2.getD (IntKind.i64.wrap (r11.1.Op - 5)).toNat default++ByteArray.mk #[(32:UInt8)]++r9++ByteArray.mk #[(93:UInt8)])) .d) .d) .d) .d) .d) .d) .d) .d) .d) .d))))
def zim (zbp:yB->Bool×ByteArray) (x_:At):=(zwZ zbp x_).fin default
theorem zC3 (zbp:yB->Bool×ByteArray) (zTk:Sound Tryz.prog zbw 94 (zn0 zbp)):Sound Tryz.prog zbw 215 (zk8 (zim zbp)):=
 sU (cx':=(zvW zbp)) (zi ⟨zrN,zFC,zTk,zSf.nodr,zGG.nodr,zGg.nodr,trivial⟩) call215 func215 (lOK (aC (zDS zbp) aN))
abbrev ziS:=Unit×yC×Int×Int×Unit
abbrev ziH:=List ByteArray×Unit
def zeU (zbd:At->Bool×ByteArray) (t7:yC) (t8:Int) (t9:Int) (out_:List ByteArray):Wy ziS ziH (List ByteArray):=.i (decide (t9<t8)) (.i (decide (0<=t9)&&decide (t9<Int.ofNat t7.length)) (.bn (zbd (At.mk (t7.getD t9.toNat default).At.Kind (t7.getD t9.toNat default).At.Row (t7.getD t9.toNat default).At.Ag (t7.getD t9.toNat default).At.Func (t7.getD t9.toNat default).At.Items (t7.getD t9.toNat default).At.Op (t7.getD t9.toNat default).At.Bd)) λr1=>.i ((t7.getD t9.toNat default).Exp != 1) (.bn (strconv_Itoa (t7.getD t9.toNat default).Exp) λr0=>.i (decide ((ByteArray.mk #[(94:UInt8)]).size+r0.size<=9223372036854775807)) (.i (decide (r1.size+(ByteArray.mk #[(94:UInt8)]++r0).size<=9223372036854775807)) (.i (decide ((out_.length+[r1++(ByteArray.mk #[(94:UInt8)]++r0)].length)*16<=zF)) (.h ((),t7,t8,(IntKind.i64.wrap (t9+1)),()) ((out_++[r1++(ByteArray.mk #[(94:UInt8)]++r0)]),())) .d) .d) .d) (.i (decide ((out_.length+[r1].length)*16<=zF)) (.h ((),t7,t8,(IntKind.i64.wrap (t9+1)),()) ((out_++[r1]),())) .d)) .d) (.k out_)
def zk4 (zbd:At->Bool×ByteArray) (x:ziS) (y:ziH):=zeU zbd x.2.1 x.2.2.1 x.2.2.2.1 y.1
def zs4 (zbd:At->Bool×ByteArray) (n:Nat) (t7:yC) (t8:Int) (t9:Int) (out_:List ByteArray):=zA (zk4 zbd) default n ((),t7,t8,t9,()) (out_,())
def zBR (r:List ByteArray):LTree ty:=.done (.exit 0) [.own 128] [.arr 9 r false]
def zC5:LL ty ziS:=za (zfb 128) (za (lSl 145) (za zj (za zj zm)))
def zC6:BL ty ziH:=zfl 9 false (zbg)
def zCJ (x:ziS) (y:ziH):Nat:=(x.2.1.length+Int.toNat x.2.2.1+Int.toNat x.2.2.2.1+y.1.length+1)
def zs6 (zbd:At->Bool×ByteArray):=zb1 zbw 32 [(44,zom),(215,(zk8 zbd)),(216,zy5)] [] [(3,[(3,.own 9),(7,.keep),(8,.keep),(9,.keep)])] [(3,1,(kpL [3]))] [(3,spW zC5 zC6 (zk4 zbd) default zBR zCJ)] []
theorem zCl (zbd:At->Bool×ByteArray):zJ (zs6 zbd) (lp (body f154) 0):=zq (id:=3) (hl:=rfl)
def zt1 (zbd:At->Bool×ByteArray) (l:yC):Wy0 (ByteArray):=.bn (zs4 zbd (l.length+(Int.ofNat l.length).toNat +Int.toNat 0+0+1) l (Int.ofNat l.length) 0 []) λr5=>.bn (strings_Join r5 (ByteArray.mk #[(42:UInt8)])) λr4=>.k r4
def zgg (zbd:At->Bool×ByteArray) (l:yC):=(zt1 zbd l).fin default
theorem zAu (zbd:At->Bool×ByteArray) (zHm:Sound Tryz.prog zbw 215 (zk8 zbd)):Sound Tryz.prog zbw 154 (zgb (zgg zbd)):=
 sU (cx':=(zs6 zbd)) (zi ⟨zrN,zHm,zEw.nodr,trivial⟩) call154 func154 (lOK (aC (zCl zbd) aN))
abbrev zsm:=Unit×yB×Int×Int×Unit
abbrev zrE:=List ByteArray×Unit
def zku (zU:yC->Bool×ByteArray) (t9:yB) (t10:Int) (t11:Int) (out_:List ByteArray):Wy zsm zrE (List ByteArray):=.i (decide (t11<t10)) (.i (decide (0<=t11)&&decide (t11<Int.ofNat t9.length)) (.i (Int.ofNat (t9.getD t11.toNat default).Fs.length==0) (.bn (ziB (t9.getD t11.toNat default).Cf 10) λr0=>.i (decide ((out_.length+[r0].length)*16<=zF)) (.h ((),t9,t10,(IntKind.i64.wrap (t11+1)),()) ((out_++[r0]),())) .d) (.i ((t9.getD t11.toNat default).Cf==1) (.bn (zU (t9.getD t11.toNat default).Fs) λr1=>.i (decide ((out_.length+[r1].length)*16<=zF)) (.h ((),t9,t10,(IntKind.i64.wrap (t11+1)),()) ((out_++[r1]),())) .d) (.bn (ziB (t9.getD t11.toNat default).Cf 10) λr3=>.i (decide (r3.size+(ByteArray.mk #[(42:UInt8)]).size<=9223372036854775807)) (.bn (zU (t9.getD t11.toNat default).Fs) λr2=>.i (decide ((r3++ByteArray.mk #[(42:UInt8)]).size+r2.size<=9223372036854775807)) (.i (decide ((out_.length+[r3++ByteArray.mk #[(42:UInt8)]++r2].length)*16<=zF)) (.h ((),t9,t10,(IntKind.i64.wrap (t11+1)),()) ((out_++[r3++ByteArray.mk #[(42:UInt8)]++r2]),())) .d) .d) .d))) .d) (.k out_)
def zuJ (zU:yC->Bool×ByteArray) (x:zsm) (y:zrE):=zku zU x.2.1 x.2.2.1 x.2.2.2.1 y.1
def zCp (zU:yC->Bool×ByteArray) (n:Nat) (t9:yB) (t10:Int) (t11:Int) (out_:List ByteArray):=zA (zuJ zU) default n ((),t9,t10,t11,()) (out_,())
def zOL (r:List ByteArray):LTree ty:=.done (.exit 0) [.own 200] [.arr 9 r false]
def zQc:LL ty zsm:=za (zfb 200) (za (lSl 107) (za zj (za zj zm)))
def zQz:BL ty zrE:=zfl 9 false (zbg)
def zOH (x:zsm) (y:zrE):Nat:=(x.2.1.length+Int.toNat x.2.2.1+Int.toNat x.2.2.2.1+y.1.length+1)
def zB6 (zU:yC->Bool×ByteArray):=zb1 zbw 50 [(44,zom),(92,zsA),(154,(zgb zU))] [] [(5,[(3,.own 9),(9,.keep),(10,.keep),(11,.keep)])] [(5,1,(kpL [3]))] [(5,spW zQc zQz (zuJ zU) default zOL zOH)] []
theorem zOQ (zU:yC->Bool×ByteArray):zJ (zB6 zU) (lp (body f94) 0):=zq (id:=5) (hl:=rfl)
def zDb (zU:yC->Bool×ByteArray) (a:yB):Wy0 (ByteArray):=.i (Int.ofNat a.length==0) (.k (ByteArray.mk #[(48:UInt8)])) (.bn (zCp zU (a.length+(Int.ofNat a.length).toNat +Int.toNat 0+0+1) a (Int.ofNat a.length) 0 []) λr9=>.bn (strings_Join r9 (ByteArray.mk #[(32:UInt8),(43:UInt8),(32:UInt8)])) λr8=>.k r8)
def zok (zU:yC->Bool×ByteArray) (a:yB):=(zDb zU a).fin default
theorem zKx (zU:yC->Bool×ByteArray) (zEg:Sound Tryz.prog zbw 154 (zgb zU)):Sound Tryz.prog zbw 94 (zn0 (zok zU)):=
 sU (cx':=(zB6 zU)) (zi ⟨zrN,zyH.nodr,zEg,trivial⟩) call94 func94 (lOK (aC (zOQ zU) aN))
def zDV:Nat->(yB->Bool×ByteArray)×(At->Bool×ByteArray)×(yC->Bool×ByteArray)
 | 0=>(λ_=>(false,default),λ_=>(false,default),λ_=>(false,default))
 | n+1=>(zok ((zDV n).2.2),zim ((zDV n).1),zgg ((zDV n).2.1))
def zob (n:Nat):yB->Bool×ByteArray:=(zDV n).1
def zk9 (n:Nat):At->Bool×ByteArray:=(zDV n).2.1
def zf4 (n:Nat):yC->Bool×ByteArray:=(zDV n).2.2
theorem zPm (n:Nat):zob (n+1)=zok (zf4 n):=rfl
theorem zFX (n:Nat):zk9 (n+1)=zim (zob n):=rfl
theorem zCX (n:Nat):zf4 (n+1)=zgg (zk9 n):=rfl
theorem zPM:∀ n,Sound Tryz.prog zbw 94 (zn0 (zob n))/\Sound Tryz.prog zbw 215 (zk8 (zk9 n))/\Sound Tryz.prog zbw 154 (zgb (zf4 n))
 | 0=>⟨zbk call94 (λ_=>rfl),zbk call215 (λ_=>rfl),zbk call154 (λ_=>rfl)⟩
 | n+1=>by
  have ih:=zPM n;exact ⟨zKx _ (ih.2.2),zC3 _ (ih.1),zAu _ (ih.2.1)⟩
def zLs:yB->Bool×ByteArray:=zob 1000
def zCx:Ab.Spec ty:=zn0 zLs
theorem zO4:Sound Tryz.prog zbw 94 zCx:=(zPM 1000).1
def zp6:yC->Bool×ByteArray:=zf4 1000
def zs1:Ab.Spec ty:=zgb zp6
theorem zBJ:Sound Tryz.prog zbw 154 zs1:=(zPM 1000).2.2
def zQL:=zbx zbw 8 [(52,zcm),(94,zCx)]
def zSY (a:yB):Wy0 (ByteArray):=.bn (zb8 a) λr1=>.i (!r1) (.k (ByteArray.mk #[])) (.bn (zLs a) λr0=>.k r0)
def zy6 (a:yB):=(zSY a).fin default
def zzB:=zh zXl λx=>((zy6 x.1).1,zSM (zy6 x.1).2)
theorem zKs:Sound Tryz.prog zbw 46 zzB:=
 sU (cx':=zQL) (zi ⟨zcu.nodr,zO4,trivial⟩) call46 func46 (lOK aN)
def zS4:=zbx base 16 [(91,zpG)]
def zEE (p:pair):Wy0 (Bool):=.bn (zo9 p.v) λr0=>.i (!r0) (.k true) (.k (p.v.Kind != p.c.Type_))
def zlF (p:pair):=(zEE p).fin default
def zU8:AL base (pair×Unit):=zd (ze (zcd 137)) zt
def znd:=zh zU8 λx=>((zlF x.1).1,zTe (zlF x.1).2)
theorem zsO:SdP 102 znd:=
 sT (cx':=zS4) (zi ⟨zte,trivial⟩) call102 func102 (lOK aN)
abbrev zw4:=yH×Unit×yG×Int×Int×Unit
abbrev zwO:=List pair×Unit
def zB4 (l:yH) (t8:yG) (t9:Int) (t10:Int) (out_:List pair):Wy zw4 zwO (List pair):=.i (decide (t10<t9)) (.i (decide (0<=t10)&&decide (t10<Int.ofNat t8.length)) (.i (decide (0<=t10)&&decide (t10<Int.ofNat l.length)) (.i (decide ((out_.length+[pair.mk (l.getD t10.toNat default) (t8.getD t10.toNat default)].length)*56<=zF)) (.h (l,(),t8,t9,(IntKind.i64.wrap (t10+1)),()) ((out_++[pair.mk (l.getD t10.toNat default) (t8.getD t10.toNat default)]),())) .d) .d) .d) (.k out_)
def zCf (x:zw4) (y:zwO):=zB4 x.1 x.2.2.1 x.2.2.2.1 x.2.2.2.2.1 y.1
def zCn (n:Nat) (l:yH) (t8:yG) (t9:Int) (t10:Int) (out_:List pair):=zA (zCf) default n (l,(),t8,t9,t10,()) (out_,())
def zZx (r:List pair):LTree ty:=.done (.exit 0) [.own 104] [.arr 137 r false]
def z0o:LL ty zw4:=za (lSl 75) (za (zfb 104) (za (lSl 79) (za zj (za zj zm))))
def z1c:BL ty zwO:=zfl 137 false (zbg)
def zZn (x:zw4) (y:zwO):Nat:=(x.1.length+x.2.2.1.length+Int.toNat x.2.2.2.1+Int.toNat x.2.2.2.2.1+y.1.length+1000)
def zK5:=zb1 base 26 [] [] [(3,[(0,.keep),(5,.own 137),(8,.keep),(9,.keep),(10,.keep)])] [(3,1,(kpL [5]))] [(3,spW z0o z1c (zCf) default zZx zZn)] []
theorem zYs:zJ zK5 (lp (body f101) 0):=zq (id:=3) (hl:=rfl)
def zNg (l:yH) (row:yG):Wy0 (List pair):=.bn (zCn (l.length+row.length+(Int.ofNat row.length).toNat +Int.toNat 0+0+1000) l row (Int.ofNat row.length) 0 []) λr0=>.k r0
def zx1 (l:yH) (row:yG):=(zNg l row).fin default
def zZE (r:List pair):ARes ty:=⟨[.own 137 r],[]⟩
def z1T:AL base (yH×yG×Unit):=zd (ze (vSl 75)) (zd (ze (vSl 79)) zt)
def zG3:=zh z1T λx=>((zx1 x.1 x.2.1).1,zZE (zx1 x.1 x.2.1).2)
theorem zUo:SdP 101 zG3:=
 sT (cx':=zK5) (zi trivial) call101 func101 (lOK (aC zYs aN)) (sg:=⟨[.own 137],[]⟩)
abbrev zc8:=List pair×Unit×Int×Int×Unit
def zof (s:List pair) (t7:Int) (t8:Int):Wy zc8 Unit (Int⊕Unit):=.i (decide (t8<t7)) (.i (decide (0<=t8)&&decide (t8<Int.ofNat s.length)) (.bn (zlF (s.getD t8.toNat default)) λr0=>.i (r0) (.k (.inl t8)) (.h (s,(),t7,(IntKind.i64.wrap (t8+1)),()) ())) .d) (.k (.inr ()))
def zgD (x:zc8) (y:Unit):=zof x.1 x.2.2.1 x.2.2.2.1
def zn2 (n:Nat) (s:List pair) (t7:Int) (t8:Int):=zA (zgD) (.inl default) n (s,(),t7,t8,()) ()
def zod:LL ty zc8:=za (lSl 137) (za (lFn 102 (zm)) (za zj (za zj zm)))
def zny (x:zc8) (y:Unit):Nat:=(x.1.length+Int.toNat x.2.2.1+Int.toNat x.2.2.2.1+1000)
def zgH:=zb1 base 19 [(102,znd)] [] [(2,(kpL [0,1,7,8]))] [(2,1,[]),(2,0,(kpL [4]))] [(2,spW zod z4x (zgD) (.inl default) zrc zny)] []
theorem znw:zJ zgH (lp (body f158) 0):=zq (id:=2) (hl:=rfl)
def zoJ (s:List pair):Wy0 (Int):=.bn (zn2 (s.length+(Int.ofNat s.length).toNat +Int.toNat 0+1000) s (Int.ofNat s.length) 0) λr2=>.i (isL r2) (.k (getL r2)) (.k (-1:Int))
def zcX (s:List pair):=(zoJ s).fin default
def zot:AL base (List pair×Unit×Unit):=zd (ze (vSl 137)) (zd (ze (vFn 102 zc1)) zt)
def zf0:=zh zot λx=>((zcX x.1).1,zMl (zcX x.1).2)
theorem zmc:SdP 158 zf0:=
 sT (cx':=zgH) (zi ⟨zsO,trivial⟩) call158 func158 (lOK (aC znw aN))
def zmE:=zbx base 9 [(102,znd),(158,zf0)]
def zfY (s:List pair):Wy0 (Bool):=.bn (zcX s) λr0=>.k (decide (r0≥0))
def zbZ (s:List pair):=(zfY s).fin default
def zfi:=zh zot λx=>((zbZ x.1).1,zTe (zbZ x.1).2)
theorem zlh:SdP 100 zfi:=
 sT (cx':=zmE) (zi ⟨zsO,zmc,trivial⟩) call100 func100 (lOK aN)
def zYG:=zbx base 17 [(100,zfi),(101,zG3),(102,znd)]
def zLu (l:yH) (row:yG):Wy0 (Bool):=.i (Int.ofNat l.length==Int.ofNat row.length) (.bn (zx1 l row) λr1=>.bn (zbZ r1) λr0=>.k (!r0)) (.k false)
def zrt (l:yH) (row:yG):=(zLu l row).fin default
def zxR:=zh z1T λx=>((zrt x.1 x.2.1).1,zTe (zrt x.1 x.2.1).2)
theorem zDi:SdP 51 zxR:=
 sT (cx':=zYG) (zi ⟨zlh,zUo,zsO,trivial⟩) call51 func51 (lOK aN)
def z2G:=zbx base 2 []
def z4S:Wy0 (List ByteArray):=.k [ByteArray.mk #[(73:UInt8),(78:UInt8),(84:UInt8),(69:UInt8),(71:UInt8),(69:UInt8),(82:UInt8)],ByteArray.mk #[(84:UInt8),(69:UInt8),(88:UInt8),(84:UInt8)],ByteArray.mk #[(66:UInt8),(79:UInt8),(79:UInt8),(76:UInt8),(69:UInt8),(65:UInt8),(78:UInt8)]]
def zEq:Bool×List ByteArray:=(z4S).fin default
def zI4:=zh z16 λx=>((zEq ).1,zJk (zEq ).2)
theorem zXb:SdP 87 zI4:=
 sT (cx':=z2G) (zi trivial) call87 func87 (lOK aN) (sg:=⟨[.own 9],[]⟩)
def zW4:=zbx base 13 [(87,zI4)]
def zAc (kind:Int):Wy0 (ByteArray):=.i (decide (kind<0)) (.k (ByteArray.mk #[])) (.i (decide (kind>2)) (.k (ByteArray.mk #[])) (.i (decide (0<=kind)&&decide (kind<Int.ofNat zEq.2.length)) (.k (zEq.2.getD kind.toNat default)) .d))
def zpv (kind:Int):=(zAc kind).fin default
def zwh:=zh zWK λx=>((zpv x.1).1,zSM (zpv x.1).2)
theorem zCA:SdP 43 zwh:=
 sT (cx':=zW4) (zi ⟨zXb,trivial⟩) call43 func43 (lOK aN)
def zEL:=zbx base 7 [(43,zwh)]
def znB (c:Column):Wy0 (Bool):=.bn (zpv c.Type_) λr0=>.k (r0.toList==(ByteArray.mk #[]).toList)
def zbY (c:Column):=(znB c).fin default
def zF3:AL base (Column×Unit):=zd (ze (zcd 75)) zt
def zho:=zh zF3 λx=>((zbY x.1).1,zTe (zbY x.1).2)
theorem zke:SdP 99 zho:=
 sT (cx':=zEL) (zi ⟨zCA,trivial⟩) call99 func99 (lOK aN)
abbrev zd6:=yH×Unit×Int×Int×Unit
def zrU (s:yH) (t7:Int) (t8:Int):Wy zd6 Unit (Int⊕Unit):=.i (decide (t8<t7)) (.i (decide (0<=t8)&&decide (t8<Int.ofNat s.length)) (.bn (zbY (s.getD t8.toNat default)) λr0=>.i (r0) (.k (.inl t8)) (.h (s,(),t7,(IntKind.i64.wrap (t8+1)),()) ())) .d) (.k (.inr ()))
def ziN (x:zd6) (y:Unit):=zrU x.1 x.2.2.1 x.2.2.2.1
def zsd (n:Nat) (s:yH) (t7:Int) (t8:Int):=zA (ziN) (.inl default) n (s,(),t7,t8,()) ()
def zsq:LL ty zd6:=za (lSl 75) (za (lFn 99 (zm)) (za zj (za zj zm)))
def zrk (x:zd6) (y:Unit):Nat:=(x.1.length+Int.toNat x.2.2.1+Int.toNat x.2.2.2.1+1000)
def ziJ:=zb1 base 19 [(99,zho)] [] [(2,(kpL [0,1,7,8]))] [(2,1,[]),(2,0,(kpL [4]))] [(2,spW zsq z4x (ziN) (.inl default) zrc zrk)] []
theorem zrb:zJ ziJ (lp (body f157) 0):=zq (id:=2) (hl:=rfl)
def zsN (s:yH):Wy0 (Int):=.bn (zsd (s.length+(Int.ofNat s.length).toNat +Int.toNat 0+1000) s (Int.ofNat s.length) 0) λr2=>.i (isL r2) (.k (getL r2)) (.k (-1:Int))
def zdM (s:yH):=(zsN s).fin default
def zsJ:AL base (yH×Unit×Unit):=zd (ze (vSl 75)) (zd (ze (vFn 99 zc1)) zt)
def zh5:=zh zsJ λx=>((zdM x.1).1,zMl (zdM x.1).2)
theorem zp5:SdP 157 zh5:=
 sT (cx':=ziJ) (zi ⟨zke,trivial⟩) call157 func157 (lOK (aC zrb aN))
def zp7:=zbx base 9 [(99,zho),(157,zh5)]
def zh0 (s:yH):Wy0 (Bool):=.bn (zdM s) λr0=>.k (decide (r0≥0))
def zco (s:yH):=(zh0 s).fin default
def zgW:=zh zsJ λx=>((zco x.1).1,zTe (zco x.1).2)
theorem znS:SdP 98 zgW:=
 sT (cx':=zp7) (zi ⟨zke,zp5,trivial⟩) call98 func98 (lOK aN)
def zIe:=zbx base 11 [(98,zgW),(99,zho)]
def zyy (l:yH):Wy0 (Bool):=.i (decide (Int.ofNat l.length<=16)) (.bn (zco l) λr0=>.k (!r0)) (.k false)
def zhl (l:yH):=(zyy l).fin default
def zKw:AL base (yH×Unit):=zd (ze (vSl 75)) zt
def znC:=zh zKw λx=>((zhl x.1).1,zTe (zhl x.1).2)
theorem zuu:SdP 50 znC:=
 sT (cx':=zIe) (zi ⟨znS,zke,trivial⟩) call50 func50 (lOK aN)
abbrev zs9:=Unit×yF×Int×Int×Unit
abbrev znU:=Relation×Unit
def zXn (t16:yF) (t17:Int) (t18:Int) (r:Relation):Wy zs9 znU (Bool⊕Unit):=.i (decide (t18<t17)) (.i (decide (0<=t18)&&decide (t18<Int.ofNat t16.length)) (.bn (zrt r.Columns (t16.getD t18.toNat default).Values) λr2=>.i (!r2) (.k (.inl false)) (.i (Int.ofNat (t16.getD t18.toNat default).Ann.length==0) (.k (.inl false)) (.bn (zb8 (t16.getD t18.toNat default).Ann) λr1=>.i (!r1) (.k (.inl false)) (.i (decide (t18>0)) (.i (decide (0<=IntKind.i64.wrap (t18 - 1))&&decide (IntKind.i64.wrap (t18 - 1)<Int.ofNat r.Rows.length)) (.bn (zcn (r.Rows.getD (IntKind.i64.wrap (t18 - 1)).toNat default) (t16.getD t18.toNat default)) λr0=>.i (decide (r0≥0)) (.k (.inl false)) (.h ((),t16,t17,(IntKind.i64.wrap (t18+1)),()) (r,()))) .d) (.h ((),t16,t17,(IntKind.i64.wrap (t18+1)),()) (r,())))))) .d) (.k (.inr ()))
def zHf (x:zs9) (y:znU):=zXn x.2.1 x.2.2.1 x.2.2.2.1 y.1
def zW7 (n:Nat) (t16:yF) (t17:Int) (t18:Int) (r:Relation):=zA (zHf) (.inl default) n ((),t16,t17,t18,()) (r,())
def zWJ:LL ty zs9:=za (zdH 228 0) (za (lSl 54) (za zj (za zj zm)))
def zWR:BL ty znU:=zfj (zgi (λx=>(⟨x.1,x.2.1⟩:Relation)) (λx=>(x.Columns,x.Rows,())) (λ_=>rfl) (za (lSl 75) (za (lSl 54) zm))) false (zbg)
def zUE (x:zs9) (y:znU):Nat:=(x.2.1.length+Int.toNat x.2.2.1+Int.toNat x.2.2.2.1+y.1.Columns.length+y.1.Rows.length+1000)
def zGV:=zb1 base 57 [(50,znC),(51,zxR),(52,zcm),(53,zfp)] [] [(4,(kpL [1,16,17,18]))] [(4,1,[]),(4,0,(kpL [2]))] [(4,spW zWJ zWR (zHf) (.inl default) zmp zUE)] []
theorem zTW:zJ zGV (lp (body f14) 0):=zq (id:=4) (hl:=rfl)
def zYD (r:Relation):Wy0 (Bool):=.bn (zhl r.Columns) λr7=>.i (!r7) (.k false) (.i (decide (Int.ofNat r.Rows.length>1024)) (.k false) (.bn (zW7 (r.Rows.length+(Int.ofNat r.Rows.length).toNat +Int.toNat 0+r.Columns.length+r.Rows.length+1000) r.Rows (Int.ofNat r.Rows.length) 0 r) λr6=>.i (isL r6) (.k (getL r6)) (.k true)))
def zEi (r:Relation):=(zYD r).fin default
def zZM:AL base znU:=zd (ze (zcd 25)) zt
def zwI:=zh zZM λx=>((zEi x.1).1,zTe (zEi x.1).2)
theorem zCv:SdP 14 zwI:=
 sT (cx':=zGV) (zi ⟨zuu,zDi,zcu,zgn,trivial⟩) call14 func14 (lOK (aC zTW aN))
abbrev zr3:=Unit×Unit×yH×Int×Int×Unit
abbrev zrX:=Relation×List ByteArray×Unit
abbrev zFN:=Relation×List ByteArray
abbrev zst:=Unit×Unit×Unit×yF×Int×Int×yG×Int×Int×Unit
abbrev zrF:=List ByteArray×Row×List ByteArray×Unit
abbrev zEA:=yF×Int×Int×List ByteArray×Row×List ByteArray
abbrev zrT:=Unit×yF×Int×Int×Unit
abbrev zso:=List ByteArray×Unit
def zUQ (t16:yH) (t17:Int) (t18:Int) (r:Relation) (head:List ByteArray):Wy zr3 zrX zFN:=.i (decide (t18<t17)) (.i (decide (0<=t18)&&decide (t18<Int.ofNat t16.length)) (.i (decide ((t16.getD t18.toNat default).Name.size+(ByteArray.mk #[(32:UInt8)]).size<=9223372036854775807)) (.bn (zpv (t16.getD t18.toNat default).Type_) λr2=>.i (decide (((t16.getD t18.toNat default).Name++ByteArray.mk #[(32:UInt8)]).size+r2.size<=9223372036854775807)) (.i (decide ((head.length+[(t16.getD t18.toNat default).Name++ByteArray.mk #[(32:UInt8)]++r2].length)*16<=zF)) (.h ((),(),t16,t17,(IntKind.i64.wrap (t18+1)),()) (r,(head++[(t16.getD t18.toNat default).Name++ByteArray.mk #[(32:UInt8)]++r2]),())) .d) .d) .d) .d) (.k (r,head))
def zEY (x:zr3) (y:zrX):=zUQ x.2.2.1 x.2.2.2.1 x.2.2.2.2.1 y.1 y.2.1
def zVe (n:Nat) (t16:yH) (t17:Int) (t18:Int) (r:Relation) (head:List ByteArray):=zA (zEY) default n ((),(),t16,t17,t18,()) (r,head,())
def zSr (r:zFN):LTree ty:=.done (.exit 0) [.ptr 272 0,.own 273] [.box (base.enc 25 r.1) false,.arr 9 r.2 false]
def zUp:LL ty zr3:=za (zdH 272 0) (za (zfb 273) (za (lSl 75) (za zj (za zj zm))))
def zTr:BL ty zrX:=zfj (zgi (λx=>(⟨x.1,x.2.1⟩:Relation)) (λx=>(x.Columns,x.Rows,())) (λ_=>rfl) (za (lSl 75) (za (lSl 54) zm))) false (zfl 9 false (zbg))
def zS9 (t37:yF) (t38:Int) (t39:Int) (t44:yG) (t45:Int) (t46:Int) (out_:List ByteArray) (x_:Row) (l:List ByteArray):Wy zst zrF zEA:=.i (decide (t46<t45)) (.i (decide (0<=t46)&&decide (t46<Int.ofNat t44.length)) (.bn (zqp (t44.getD t46.toNat default)) λr4=>.i (decide ((l.length+[r4].length)*16<=zF)) (.h ((),(),(),t37,t38,t39,t44,t45,(IntKind.i64.wrap (t46+1)),()) (out_,x_,(l++[r4]),())) .d) .d) (.k (t37,t38,t39,out_,x_,l))
def zDh (x:zst) (y:zrF):=zS9 x.2.2.2.1 x.2.2.2.2.1 x.2.2.2.2.2.1 x.2.2.2.2.2.2.1 x.2.2.2.2.2.2.2.1 x.2.2.2.2.2.2.2.2.1 y.1 y.2.1 y.2.2.1
def zSe (n:Nat) (t37:yF) (t38:Int) (t39:Int) (t44:yG) (t45:Int) (t46:Int) (out_:List ByteArray) (x_:Row) (l:List ByteArray):=zA (zDh) default n ((),(),(),t37,t38,t39,t44,t45,t46,()) (out_,x_,l,())
def zQ7 (r:zEA):LTree ty:=.done (.exit 4) [.own 272,.ptr 273 0,.own 274,.sl 54 r.1,.lit (.int .i64 r.2.1),.lit (.int .i64 r.2.2.1)] [.arr 9 r.2.2.2.1 false,.box (base.enc 54 r.2.2.2.2.1) false,.arr 9 r.2.2.2.2.2 false]
def zS2:LL ty zst:=za (zfb 272) (za (zdH 273 0) (za (zfb 274) (za (lSl 54) (za zj (za zj (za (lSl 79) (za zj (za zj zm))))))))
def zSo:BL ty zrF:=zfl 9 false (zfj (zgi (λx=>(⟨x.1,x.2.1⟩:Row)) (λx=>(x.Values,x.Ann,())) (λ_=>rfl) (za (lSl 79) (za (lSl 107) zm))) false (zfl 9 false (zbg)))
def zSj (t37:yF) (t38:Int) (t39:Int) (out_:List ByteArray):Wy zrT zso (List ByteArray):=.i (decide (t39<t38)) (.i (decide (0<=t39)&&decide (t39<Int.ofNat t37.length)) (.bn (zSe (t37.length+t38.toNat +t39.toNat +(t37.getD t39.toNat default).Values.length+(Int.ofNat (t37.getD t39.toNat default).Values.length).toNat +Int.toNat 0+out_.length+(t37.getD t39.toNat default).Values.length+(t37.getD t39.toNat default).Ann.length+0+1000) t37 t38 t39 (t37.getD t39.toNat default).Values (Int.ofNat (t37.getD t39.toNat default).Values.length) 0 out_ (t37.getD t39.toNat default) []) λr8=>.bn (strings_Join r8.2.2.2.2.2 (ByteArray.mk #[(44:UInt8),(32:UInt8)])) λr7=>.i (decide (r7.size+(ByteArray.mk #[(32:UInt8),(124:UInt8),(32:UInt8)]).size<=9223372036854775807)) (.bn (zy6 r8.2.2.2.2.1.Ann) λr6=>.i (decide ((r7++ByteArray.mk #[(32:UInt8),(124:UInt8),(32:UInt8)]).size+r6.size<=9223372036854775807)) (.i (decide ((r8.2.2.2.1.length+[r7++ByteArray.mk #[(32:UInt8),(124:UInt8),(32:UInt8)]++r6].length)*16<=zF)) (.h ((),(r8.1),(r8.2.1),(IntKind.i64.wrap (r8.2.2.1+1)),()) ((r8.2.2.2.1++[r7++ByteArray.mk #[(32:UInt8),(124:UInt8),(32:UInt8)]++r6]),())) .d) .d) .d) .d) (.k out_)
def zDt (x:zrT) (y:zso):=zSj x.2.1 x.2.2.1 x.2.2.2.1 y.1
def zSU (n:Nat) (t37:yF) (t38:Int) (t39:Int) (out_:List ByteArray):=zA (zDt) default n ((),t37,t38,t39,()) (out_,())
def zPI (r:List ByteArray):LTree ty:=.done (.exit 2) [.own 272] [.arr 9 r false]
def zTj:LL ty zrT:=za (zfb 272) (za (lSl 54) (za zj (za zj zm)))
def zR2:BL ty zso:=zfl 9 false (zbg)
def zTc (x:zr3) (y:zrX):Nat:=(x.2.2.1.length+Int.toNat x.2.2.2.1+Int.toNat x.2.2.2.2.1+y.1.Columns.length+y.1.Rows.length+y.2.1.length+1000)
def zRi (x:zst) (y:zrF):Nat:=(x.2.2.2.1.length+Int.toNat x.2.2.2.2.1+Int.toNat x.2.2.2.2.2.1+x.2.2.2.2.2.2.1.length+Int.toNat x.2.2.2.2.2.2.2.1+Int.toNat x.2.2.2.2.2.2.2.2.1+y.1.length+y.2.1.Values.length+y.2.1.Ann.length+y.2.2.1.length+1000)
def zPU (x:zrT) (y:zso):Nat:=(x.2.1.length+Int.toNat x.2.2.1+Int.toNat x.2.2.2.1+y.1.length+1000)
def zrL:=zb1 zbw 68 [(14,zwI),(43,zwh),(44,zom),(45,zzb),(46,zzB)] [] [(5,[(1,.keep),(3,.own 9),(16,.keep),(17,.keep),(18,.keep)]),(11,(kpL [6,37,38,39])),(15,[(6,.keep),(8,.keep),(9,.own 9),(37,.keep),(38,.keep),(39,.keep),(44,.keep),(45,.keep),(46,.keep)])] [(5,1,(kpL [1,3])),(11,3,(kpL [6])),(15,5,(kpL [6,8,9,37,38,39]))] [(5,spW zUp zTr (zEY) default zSr zTc),(15,spW zS2 zSo (zDh) default zQ7 zRi),(11,spW zTj zR2 (zDt) default zPI zPU)] []
theorem zR3:zJ zrL (lp (body f12) 0):=zq (id:=5) (hl:=rfl)
theorem zPn:zJ zrL (lp (body f12) 2):=zq (id:=15) (hl:=rfl)
theorem zQi:zJ zrL (lp (body f12) 1):=zq (id:=11) (hl:=rfl)
def zW1 (r:Relation):Wy0 (List ByteArray):=.bn (zEi r) λr15=>.i (!r15) (.k []) (.bn (zVe (r.Columns.length+(Int.ofNat r.Columns.length).toNat +Int.toNat 0+r.Columns.length+r.Rows.length+0+1000) r.Columns (Int.ofNat r.Columns.length) 0 r []) λr14=>.bn (strings_Join r14.2 (ByteArray.mk #[(44:UInt8),(32:UInt8)])) λr13=>.bn (zSU (r14.1.Rows.length+(Int.ofNat r14.1.Rows.length).toNat +Int.toNat 0+[r13].length+1000) r14.1.Rows (Int.ofNat r14.1.Rows.length) 0 [r13]) λr12=>.k r12)
def zLR (r:Relation):=(zW1 r).fin default
def zWD:AL zbw (Relation×Unit):=zd (ze (zcd 25)) zt
def zB9:=zh zWD λx=>((zLR x.1).1,zJk (zLR x.1).2)
theorem zNK:Sound Tryz.prog zbw 12 zB9:=
 sU (cx':=zrL) (zi ⟨zCv.nodr,zCA.nodr,zrN,zFC,zKs,trivial⟩) call12 func12 (lOK (aC zR3 (aC zQi (aC zPn aN)))) (sg:=⟨[.own 9],[]⟩)
def zBH (k:Go.Value) (l:List (Go.Value×Int)):Option Int:=zPX (ty:=ty) (V:=3) k l
def z90 (k:Go.Value) (l:List (Go.Value×Int)):Bool:=zGj (ty:=ty) (V:=3) k l
def zbat (k:Go.Value) (x:Int) (l:List (Go.Value×Int)):List (Go.Value×Int):=zDJ (ty:=ty) (V:=3) k x l
def zkw (x:yB) (a b lim:Int):Bool×yB:=z2e zbV x a b lim
def zx9:Ab.Spec ty:=zh (cx:=base) (zd (zra 107) (zd (ze (zf3 .i64)) (zd (ze (zf3 .i64)) (zd (ze (zf3 .i64)) (zd (ze (vFn 104 zc1)) zt))))) λx=>((zkw x.1 x.2.1 x.2.2.1 x.2.2.2.1).1,⟨[],[some ⟨107,(zkw x.1 x.2.1 x.2.2.1 x.2.2.2.1).2⟩]⟩)
theorem zy0 (c:Unit) (x y:Term) (h:(zbV x y).1=true):zic ((AV.agg (base.enc 107 x)::AV.agg (base.enc 107 y)::(zc1:VL base Unit).enc c).map Arg.pure)=some (true,⟨[.pure (.lit (.int .i64 (zbV x y).2))],[]⟩):=by
 rw [<- h]; kernel_rfl
theorem zxy:SdP 231 zx9:=by
 letI:DecidableEq (ty 107):=inferInstanceAs (DecidableEq Term)
 exact z9T (T:=107) zhf rfl Go.Proofs.Tryz.pdqTerm Tryz.isAgg107 (by unfold zr; exact Tryz.sizeOf107) call231 zk5 zc1 (λc=>zbV) zy0
open Go.Proofs Go.RowKit
def zbL (x:yB):Bool×yB:=z7N zbV x
def zeH:Ab.Spec ty:=zh (cx:=base) (zd (zra 107) (zd (ze (vFn 104 zc1)) zt)) λx=>((zbL x.1).1,⟨[],[some ⟨107,(zbL x.1).2⟩]⟩)
set_option maxHeartbeats 1000000 in
theorem zr8:SdP 192 zeH where
 enters:=call192
 calls:=λavs r hsp w F vs hF ha hsep=>by
  unfold zeH zh at hsp;split at hsp
  ·rename_i x hx;simp only [qa,qb] at hsp;obtain ⟨hpre,rfl⟩:=hsp;have hk:=(zd (zra 107) (zd (ze (vFn 104 zc1)) zt):AL base _).kind vs avs x hx;have ha':=(zd (zra 107) (zd (ze (vFn 104 zc1)) zt):AL base _).ok Tryz.prog zhf F w vs avs x hx ha;rw [hk] at hsep ⊢;clear hk hx ha;obtain ⟨l0,c,u0⟩:=x;obtain ⟨l,rfl⟩:∃ l:yB,l=l0:=⟨l0,rfl⟩;obtain ⟨v,vs',rfl,hv,hv'⟩:=ha'.inv;obtain ⟨fv,vs'',rfl,hfv,h0⟩:=hv'.inv;obtain rfl:=h0.nil_left.1
   have hsl:∃ p cap,v=.slice p l.length cap:=by
    obtain ⟨⟨xs,hown,_⟩,_⟩:=(show zc6 base F w v 107 l/\∀ b,zbe v=some b->¬ F b from hv)
    rcases hown.2 with ⟨h1,h2⟩ | ⟨g0,cap,cur,h1,_⟩
    ·exact ⟨none,0,by rw [h1,show l.length=0 from h2]⟩
    ·exact ⟨_,cap,h1⟩
   have hok:SortOK (α:=Term) zbV l:=of_decide_eq_true (p:=SortOK (α:=Term) zbV l) hpre;have hlen:l.length<4611686018427387904:=hok.size;have hbl:Lib.bitLen l.length<4611686018427387904:=Nat.lt_of_le_of_lt (Lib.bitLen_le l.length 62 (by omega) (by omega)) (by omega)
   have hpp:(zkw l 0 (l.length:Int) ((Lib.bitLen l.length:Nat):Int)).1=true:=by
    show (decide (SortOK (α:=Term) zbV l)&&(decide ((0:Int)=0)&&(decide ((l.length:Int)=l.length)&&(decide ((0:Int)<=((Lib.bitLen l.length:Nat):Int))&&decide (((Lib.bitLen l.length:Nat):Int)<4611686018427387904)))))=true;simp only [qc,qe];exact ⟨hok,trivial,trivial,by omega,by omega⟩
   have hp:=(zxy).calls [.own 107 l,.pure (.lit (.int .i64 0)),.pure (.lit (.int .i64 (l.length:Int))),.pure (.lit (.int .i64 ((Lib.bitLen l.length:Nat):Int))),.pure (.fn 104 [])] ⟨[],[some ⟨107,(zbL l).2⟩]⟩
    (by rw [<- hpp]; kernel_rfl) w F [v,.int .i64 0,.int .i64 (l.length:Int),.int .i64 ((Lib.bitLen l.length:Nat):Int),fv] hF (.cons hv (.cons (Rep.lit _) (.cons (Rep.lit _) (.cons (Rep.lit _) (.cons hfv .nil))))) hsep
   replace hp:Calls Tryz.prog 231 #[v,.int .i64 0,.int .i64 (l.length:Int),.int .i64 ((Lib.bitLen l.length:Nat):Int),fv] w λe w'=>∃ u,e=.returned u/\Post base F w [v] ⟨[],[some ⟨107,(zbL l).2⟩]⟩ u w':=hp
   show Calls Tryz.prog 192 #[v,fv] w λe w'=>∃ u,e=.returned u/\Post base F w [v] ⟨[],[some ⟨107,(zbL l).2⟩]⟩ u w'
   have hb:Calls Tryz.prog 205 #[.int .u64 (l.length:Int)] w λe w'=>e=.returned (.int .i64 ((Lib.bitLen l.length:Nat):Int))/\w'=w:=by
    have h:=Any.bits_Len Go.Proofs.Tryz.lays125 (l.length:Int) w (by omega) (by omega)
    rwa [Int.toNat_natCast] at h
   have wr:IntKind.u64.wrap (l.length:Int)=l.length:=by simp [IntKind.wrap,IntKind.bits,IntKind.signed]; omega
   generalize (zbL l).2=res at hp ⊢;generalize hn:l.length=m at *;generalize Lib.bitLen m=bl at *;clear hpp hv hfv hsep hok hpre hF;obtain ⟨p,cap,rfl⟩:=hsl;clear hn
   go_enter func192,ntmps192
   go_wp2_with (first | (go_at_call 205; refine hb.mono ?_; rintro e w' ⟨rfl,rfl⟩) | (go_at_call 231; refine hp.mono ?_; rintro e w' ⟨u,rfl,hpost⟩; obtain rfl:=hpost.unit))
   go_end0
   exact ⟨_,rfl,hpost⟩
  ·cases hsp
end Go.Proofs.YtoknknbmfmddbaaGreatDoor
namespace Go.Proofs.YtoknknbmfmddbaaGreatDoor
open Go Go.Ab
open Go.Proofs.Tryz
abbrev znl:=Unit×Unit×yB×Int×Int×Unit
abbrev zm7:=(List (_root_.Go.Value×Int))×yB×Unit
def zjG (t11:yB) (t12:Int) (t13:Int) (at_:List (_root_.Go.Value×Int)) (out_:yB):Wy znl zm7 (yB):=.i (decide (t13<t12)) (.i (decide (0<=t13)&&decide (t13<Int.ofNat t11.length)) (.bn (zp6 (t11.getD t13.toNat default).Fs) λr0=>.i (z90 (Value.string r0) at_) (.i (decide (0<=(zBH (Value.string r0) at_).getD 0)&&decide ((zBH (Value.string r0) at_).getD 0<Int.ofNat out_.length)) (.i (decide (0<=(zBH (Value.string r0) at_).getD 0)&&decide ((zBH (Value.string r0) at_).getD 0<Int.ofNat out_.length)) (.i (decide (Int.toNat ((zBH (Value.string r0) at_).getD 0)<out_.length)) (.h ((),(),t11,t12,(IntKind.i64.wrap (t13+1)),()) (at_,(out_.set (Int.toNat ((zBH (Value.string r0) at_).getD 0)) (TO.mk (if 1152921504606846976<IntKind.i64.wrap ((out_.getD (Int.toNat ((zBH (Value.string r0) at_).getD 0)) default).Cf+(t11.getD t13.toNat default).Cf) then 1152921504606846976 else IntKind.i64.wrap ((out_.getD (Int.toNat ((zBH (Value.string r0) at_).getD 0)) default).Cf+(t11.getD t13.toNat default).Cf)) (out_.getD (Int.toNat ((zBH (Value.string r0) at_).getD 0)) default).Fs)),())) .d) .d) .d) (.i (decide ((out_.length+[t11.getD t13.toNat default].length)*32<=zF)) (.h ((),(),t11,t12,(IntKind.i64.wrap (t13+1)),()) ((zbat (Value.string r0) (Int.ofNat out_.length) at_),(out_++[t11.getD t13.toNat default]),())) .d)) .d) (.k out_)
def ztt (x:znl) (y:zm7):=zjG x.2.2.1 x.2.2.2.1 x.2.2.2.2.1 y.1 y.2.1
def ztn (n:Nat) (t11:yB) (t12:Int) (t13:Int) (at_:List (_root_.Go.Value×Int)) (out_:yB):=zA (ztt) default n ((),(),t11,t12,t13,()) (at_,out_,())
def zNc (r:yB):LTree ty:=.done (.exit 0) [.own 208] [.arr 107 r false]
def zNl:LL ty znl:=za (lMp 208) (za (zfb 209) (za (lSl 107) (za zj (za zj zm))))
def zOK:BL ty zm7:=bMp 9 3 false (zfl 107 false (zbg))
def zMg (x:znl) (y:zm7):Nat:=(x.2.2.1.length+Int.toNat x.2.2.2.1+Int.toNat x.2.2.2.2.1+y.1.length+y.2.1.length+1)
def zA5:=zb1 zbw 52 [(104,zic),(154,zs1),(192,zeH)] [(192,[true,false])] [(4,[(3,.keep),(4,.own 107),(11,.keep),(12,.keep),(13,.keep)])] [(4,1,(kpL [4]))] [(4,spW zNl zOK (ztt) default zNc zMg)] []
theorem zLZ:zJ zA5 (lp (body f125) 0):=zq (id:=4) (hl:=rfl)
def zCV (terms:yB):Wy0 (yB):=.bn (ztn (terms.length+(Int.ofNat terms.length).toNat +Int.toNat 0+0+0+1) terms (Int.ofNat terms.length) 0 [] []) λr3=>.bn (zbL r3) λr2=>.k r2
def zhv (terms:yB):=(zCV terms).fin default
def zqX:=zh zXl λx=>((zhv x.1).1,z27 (zhv x.1).2)
theorem zxX:Sound Tryz.prog zbw 125 zqX:=
 sU (cx':=zA5) (zi ⟨zk5.nodr,zBJ,zr8.nodr,trivial⟩) call125 func125 (lOK (aC zLZ aN)) (sg:=⟨[.own 107],[]⟩)
def zlx (F:yB->Bool×yB):Ab.Spec ty:=zh zUU λx=>((F x.1).1,z27 (F x.1).2)
def zHq (r:At):ARes ty:=⟨[.pure (.agg (base.enc 143 r))],[]⟩
def zle (F:At->Bool×At):Ab.Spec ty:=zh z6N λx=>((F x.1).1,zHq (F x.1).2)
def zeg:Cx ty:={ base with nt:=8 }
def zeO (s:yC):Bool×yC:=(decide (s.length*128<=zF),s)
def zj7:Ab.Spec ty:=zh (cx:=base) (zd (ze (vSl 145)) zt) λx=>((zeO x.1).1,⟨[.own 145 (zeO x.1).2],[]⟩)
theorem zvo:zeh zeg f132 (body f132) ⟨[.own 145],[]⟩ [.pure (.lit (.slice none 0 0))]=some ⟨[.own 145 []],[]⟩:=by kernel_rfl
theorem zub (p:Addr) (c:Nat):zeh zeg f132 (body f132) ⟨[.own 145],[]⟩ [.pure (.lit (.slice (some p) 0 c))]=some ⟨[.own 145 []],[]⟩:=by kernel_rfl
theorem zu7 (l:yC):zeh zeg f132 (body f132) ⟨[.own 145],[]⟩ [.pure (.sl 145 l)]=bif !l.isEmpty then bif decide ((([]:List (ty 145)).length+l.length)*128<=zF) then some ⟨[.own 145 l],[]⟩ else none else none:=by kernel_rfl
theorem zt7:SdP 132 zj7:=
 zv8 (cx':=zeg) (bytes:=128) zzQ zhf ⟨⟨rfl,rfl,rfl,rfl,rfl,rfl⟩,rfl⟩ (λg s h=>by cases h) call132 func132 (c:=body f132) (by kernel_rfl) (zr5 (l:=[]) (by kernel_rfl) trivial) zvo zub zu7 (by kernel_rfl)
abbrev zoq:=Unit×Unit×Unit×yB×Int×Int×Int×Int×Unit
abbrev zoR:=yB×Term×yC×Unit
abbrev zBM:=yB×Int×Int×yB×Term×yC
abbrev zoX:=Unit×yB×Int×Int×Unit
abbrev zoA:=yB×Unit
def zi6 (zI:At->Bool×At) (t8:yB) (t9:Int) (t10:Int) (t18:Int) (t19:Int) (out_:yB) (t:Term) (factors:yC):Wy zoq zoR zBM:=.i (decide (t19<t18)) (.i (decide (0<=t19)&&decide (t19<Int.ofNat factors.length)) (.bn (zI (At.mk (factors.getD t19.toNat default).At.Kind (factors.getD t19.toNat default).At.Row (factors.getD t19.toNat default).At.Ag (factors.getD t19.toNat default).At.Func (factors.getD t19.toNat default).At.Items (factors.getD t19.toNat default).At.Op (factors.getD t19.toNat default).At.Bd)) λr2=>.i (decide (0<=t19)&&decide (t19<Int.ofNat factors.length)) (.i (decide (t19.toNat<factors.length)) (.h ((),(),(),t8,t9,t10,t18,(IntKind.i64.wrap (t19+1)),()) (out_,t,(factors.set t19.toNat (FO.mk (At.mk r2.Kind r2.Row r2.Ag r2.Func r2.Items r2.Op r2.Bd) (factors.getD t19.toNat default).Exp)),())) .d) .d) .d) (.k (t8,t9,t10,out_,t,factors))
def zsK (zI:At->Bool×At) (x:zoq) (y:zoR):=zi6 zI x.2.2.2.1 x.2.2.2.2.1 x.2.2.2.2.2.1 x.2.2.2.2.2.2.1 x.2.2.2.2.2.2.2.1 y.1 y.2.1 y.2.2.1
def zzm (zI:At->Bool×At) (n:Nat) (t8:yB) (t9:Int) (t10:Int) (t18:Int) (t19:Int) (out_:yB) (t:Term) (factors:yC):=zA (zsK zI) default n ((),(),(),t8,t9,t10,t18,t19,()) (out_,t,factors,())
def zKR (r:zBM):LTree ty:=.done (.exit 2) [.own 168,.ptr 169 0,.own 170,.sl 107 r.1,.lit (.int .i64 r.2.1),.lit (.int .i64 r.2.2.1)] [.arr 107 r.2.2.2.1 false,.box (base.enc 107 r.2.2.2.2.1) false,.arr 145 r.2.2.2.2.2 false]
def zMo:LL ty zoq:=za (zfb 168) (za (zdH 169 0) (za (zfb 170) (za (lSl 107) (za zj (za zj (za zj (za zj zm)))))))
def zNa:BL ty zoR:=zfl 107 false (zfj (zgi (λx=>(⟨x.1,x.2.1⟩:Term)) (λx=>(x.Cf,x.Fs,())) (λ_=>rfl) (za (zS .i64) (za (lSl 145) zm))) false (zfl 145 false (zbg)))
def zi7 (zI:At->Bool×At) (t8:yB) (t9:Int) (t10:Int) (out_:yB):Wy zoX zoA (yB):=.i (decide (t10<t9)) (.i (decide (0<=t10)&&decide (t10<Int.ofNat t8.length)) (.bn (zeO (t8.getD t10.toNat default).Fs) λr5=>.bn (zzm zI (t8.length+t9.toNat +t10.toNat +(Int.ofNat r5.length).toNat +Int.toNat 0+out_.length+(t8.getD t10.toNat default).Fs.length+r5.length+1) t8 t9 t10 (Int.ofNat r5.length) 0 out_ (t8.getD t10.toNat default) r5) λr4=>.i (decide ((r4.2.2.2.1.length+[TO.mk r4.2.2.2.2.1.Cf r4.2.2.2.2.2].length)*32<=zF)) (.h ((),(r4.1),(r4.2.1),(IntKind.i64.wrap (r4.2.2.1+1)),()) ((r4.2.2.2.1++[TO.mk r4.2.2.2.2.1.Cf r4.2.2.2.2.2]),())) .d) .d) (.k out_)
def zsW (zI:At->Bool×At) (x:zoX) (y:zoA):=zi7 zI x.2.1 x.2.2.1 x.2.2.2.1 y.1
def zzv (zI:At->Bool×At) (n:Nat) (t8:yB) (t9:Int) (t10:Int) (out_:yB):=zA (zsW zI) default n ((),t8,t9,t10,()) (out_,())
def zKU (r:yB):LTree ty:=.done (.exit 0) [.own 168] [.arr 107 r false]
def zMx:LL ty zoX:=za (zfb 168) (za (lSl 107) (za zj (za zj zm)))
def zMA:BL ty zoA:=zfl 107 false (zbg)
def zK2 (x:zoq) (y:zoR):Nat:=(x.2.2.2.1.length+Int.toNat x.2.2.2.2.1+Int.toNat x.2.2.2.2.2.1+Int.toNat x.2.2.2.2.2.2.1+Int.toNat x.2.2.2.2.2.2.2.1+y.1.length+y.2.1.Fs.length+y.2.2.1.length+1)
def zKV (x:zoX) (y:zoA):Nat:=(x.2.1.length+Int.toNat x.2.2.1+Int.toNat x.2.2.2.1+y.1.length+1)
def zsT (zI:At->Bool×At):=zb1 base 42 [(132,zj7),(200,(zle zI))] [] [(3,[(3,.own 107),(8,.keep),(9,.keep),(10,.keep)]),(7,(kpL [3,5,6,8,9,10,18,19]))] [(3,1,(kpL [3])),(7,3,(kpL [3,5,6,8,9,10]))] [(7,spW zMo zNa (zsK zI) default zKR zK2),(3,spW zMx zMA (zsW zI) default zKU zKV)] []
theorem zKy (zI:At->Bool×At):zJ (zsT zI) (lp (body f141) 1):=zq (id:=7) (hl:=rfl)
theorem zKr (zI:At->Bool×At):zJ (zsT zI) (lp (body f141) 0):=zq (id:=3) (hl:=rfl)
def zAH (zI:At->Bool×At) (a:yB):Wy0 (yB):=.bn (zzv zI (a.length+(Int.ofNat a.length).toNat +Int.toNat 0+0+1) a (Int.ofNat a.length) 0 []) λr8=>.k r8
def zlo (zI:At->Bool×At) (a:yB):=(zAH zI a).fin default
theorem zHO (zI:At->Bool×At) (zHA:SdP 200 (zle zI)):SdP 141 (zlx (zlo zI)):=
 sT (cx':=(zsT zI)) (zi ⟨zt7,zHA,trivial⟩) call141 func141 (lOK (aC (zKr zI) (aC (zKy zI) aN))) (sg:=⟨[.own 107],[]⟩)
def zc9:Cx ty:={ base with nt:=8 }
def zdA (s:yA):Bool×yA:=(decide (s.length*24<=zF),s)
def zhI:Ab.Spec ty:=zh (cx:=base) (zd (ze (vSl 51)) zt) λx=>((zdA x.1).1,⟨[.own 51 (zdA x.1).2],[]⟩)
theorem zqJ:zeh zc9 f133 (body f133) ⟨[.own 51],[]⟩ [.pure (.lit (.slice none 0 0))]=some ⟨[.own 51 []],[]⟩:=by kernel_rfl
theorem zpp (p:Addr) (c:Nat):zeh zc9 f133 (body f133) ⟨[.own 51],[]⟩ [.pure (.lit (.slice (some p) 0 c))]=some ⟨[.own 51 []],[]⟩:=by kernel_rfl
theorem zqr (l:yA):zeh zc9 f133 (body f133) ⟨[.own 51],[]⟩ [.pure (.sl 51 l)]=bif !l.isEmpty then bif decide ((([]:List (ty 51)).length+l.length)*24<=zF) then some ⟨[.own 51 l],[]⟩ else none else none:=by kernel_rfl
theorem zpj:SdP 133 zhI:=
 zv8 (cx':=zc9) (bytes:=24) zzQ zhf ⟨⟨rfl,rfl,rfl,rfl,rfl,rfl⟩,rfl⟩ (λg s h=>by cases h) call133 func133 (c:=body f133) (by kernel_rfl) (zr5 (l:=[]) (by kernel_rfl) trivial) zqJ zpp zqr (by kernel_rfl)
def zdI:Cx ty:={ base with nt:=8 }
def zee (s:yD):Bool×yD:=(decide (s.length*56<=zF),s)
def zi8:Ab.Spec ty:=zh (cx:=base) (zd (ze (vSl 169)) zt) λx=>((zee x.1).1,⟨[.own 169 (zee x.1).2],[]⟩)
theorem zs7:zeh zdI f134 (body f134) ⟨[.own 169],[]⟩ [.pure (.lit (.slice none 0 0))]=some ⟨[.own 169 []],[]⟩:=by kernel_rfl
theorem zr6 (p:Addr) (c:Nat):zeh zdI f134 (body f134) ⟨[.own 169],[]⟩ [.pure (.lit (.slice (some p) 0 c))]=some ⟨[.own 169 []],[]⟩:=by kernel_rfl
theorem zsQ (l:yD):zeh zdI f134 (body f134) ⟨[.own 169],[]⟩ [.pure (.sl 169 l)]=bif !l.isEmpty then bif decide ((([]:List (ty 169)).length+l.length)*56<=zF) then some ⟨[.own 169 l],[]⟩ else none else none:=by kernel_rfl
theorem zrP:SdP 134 zi8:=
 zv8 (cx':=zdI) (bytes:=56) zzQ zhf ⟨⟨rfl,rfl,rfl,rfl,rfl,rfl⟩,rfl⟩ (λg s h=>by cases h) call134 func134 (c:=body f134) (by kernel_rfl) (zr5 (l:=[]) (by kernel_rfl) trivial) zs7 zr6 zsQ (by kernel_rfl)
abbrev zdy:=Unit×Unit×Int×Int×Unit
abbrev zkc:=(Int×Int×Int×Unit×Int×yD×Int×Int×Int×ByteArray×Unit)×(Int×Int×Int×Unit×Int×Unit×Int×Int×Int×ByteArray×Unit)×yA×Unit
abbrev zxt:=Int×Int×Int×Int×yD×Int×Int×Int×ByteArray×Int×Int×Int×Int×Int×Int×Int×ByteArray×yA
abbrev zkn:=(Int×Int×Int×Unit×Int×Unit×Int×Int×Int×ByteArray×Unit)×(Int×Int×Int×Unit×Int×Unit×Int×Int×Int×ByteArray×Unit)×yA×yD×Unit
abbrev zxA:=Int×Int×Int×Int×Int×Int×Int×ByteArray×Int×Int×Int×Int×Int×Int×Int×ByteArray×yA×yD
def zf5 (zT:yB->Bool×yB) (t11:Int) (t12:Int) (x_0:Int) (x_1:Int) (x_2:Int) (x_3:Int) (x_4:yD) (x_5:Int) (x_6:Int) (x_7:Int) (x_8:ByteArray) (t2_0:Int) (t2_1:Int) (t2_2:Int) (t2_3:Int) (t2_4:Int) (t2_5:Int) (t2_6:Int) (t2_7:ByteArray) (b2:yA):Wy zdy zkc zxt:=.i (decide (t12<t11)) (.i (decide (0<=t12)&&decide (t12<Int.ofNat b2.length)) (.bn (zT (b2.getD t12.toNat default)) λr0=>.i (decide (0<=t12)&&decide (t12<Int.ofNat b2.length)) (.i (decide (t12.toNat<b2.length)) (.h ((),(),t11,(IntKind.i64.wrap (t12+1)),()) ((x_0,x_1,x_2,(),x_3,x_4,x_5,x_6,x_7,x_8,()),(t2_0,t2_1,t2_2,(),t2_3,(),t2_4,t2_5,t2_6,t2_7,()),(b2.set t12.toNat r0),())) .d) .d) .d) (.k (x_0,x_1,x_2,x_3,x_4,x_5,x_6,x_7,x_8,t2_0,t2_1,t2_2,t2_3,t2_4,t2_5,t2_6,t2_7,b2))
def znv (zT:yB->Bool×yB) (x:zdy) (y:zkc):=zf5 zT x.2.2.1 x.2.2.2.1 y.1.1 y.1.2.1 y.1.2.2.1 y.1.2.2.2.2.1 y.1.2.2.2.2.2.1 y.1.2.2.2.2.2.2.1 y.1.2.2.2.2.2.2.2.1 y.1.2.2.2.2.2.2.2.2.1 y.1.2.2.2.2.2.2.2.2.2.1 y.2.1.1 y.2.1.2.1 y.2.1.2.2.1 y.2.1.2.2.2.2.1 y.2.1.2.2.2.2.2.2.1 y.2.1.2.2.2.2.2.2.2.1 y.2.1.2.2.2.2.2.2.2.2.1 y.2.1.2.2.2.2.2.2.2.2.2.1 y.2.2.1
def zv5 (zT:yB->Bool×yB) (n:Nat) (t11:Int) (t12:Int) (x_0:Int) (x_1:Int) (x_2:Int) (x_3:Int) (x_4:yD) (x_5:Int) (x_6:Int) (x_7:Int) (x_8:ByteArray) (t2_0:Int) (t2_1:Int) (t2_2:Int) (t2_3:Int) (t2_4:Int) (t2_5:Int) (t2_6:Int) (t2_7:ByteArray) (b2:yA):=zA (znv zT) default n ((),(),t11,t12,()) ((x_0,x_1,x_2,(),x_3,x_4,x_5,x_6,x_7,x_8,()),(t2_0,t2_1,t2_2,(),t2_3,(),t2_4,t2_5,t2_6,t2_7,()),b2,())
def zFa (r:zxt):LTree ty:=.done (.exit 0) [.ptr 200 0,.ptr 201 0] [.box ([.lit (.int .i64 r.1),.lit (.int .i64 r.2.1),.lit (.int .i64 r.2.2.1),.own 202,.lit (.int .i64 r.2.2.2.1),.sl 169 r.2.2.2.2.1,.lit (.int .i64 r.2.2.2.2.2.1),.lit (.int .i64 r.2.2.2.2.2.2.1),.lit (.int .i64 r.2.2.2.2.2.2.2.1),.lit (.string r.2.2.2.2.2.2.2.2.1)]) false,.box ([.lit (.int .i64 r.2.2.2.2.2.2.2.2.2.1),.lit (.int .i64 r.2.2.2.2.2.2.2.2.2.2.1),.lit (.int .i64 r.2.2.2.2.2.2.2.2.2.2.2.1),.lit (.slice none 0 0),.lit (.int .i64 r.2.2.2.2.2.2.2.2.2.2.2.2.1),.lit (.slice none 0 0),.lit (.int .i64 r.2.2.2.2.2.2.2.2.2.2.2.2.2.1),.lit (.int .i64 r.2.2.2.2.2.2.2.2.2.2.2.2.2.2.1),.lit (.int .i64 r.2.2.2.2.2.2.2.2.2.2.2.2.2.2.2.1),.lit (.string r.2.2.2.2.2.2.2.2.2.2.2.2.2.2.2.2.1)]) false,.arr 51 r.2.2.2.2.2.2.2.2.2.2.2.2.2.2.2.2.2 false]
def zGB:LL ty zdy:=za (zdH 200 0) (za (zdH 201 0) (za zj (za zj zm)))
def zGo:BL ty zkc:=zfj (za (zS .i64) (za (zS .i64) (za (zS .i64) (za (zfb 202) (za (zS .i64) (za (lSl 169) (za (zS .i64) (za (zS .i64) (za (zS .i64) (za znN zm)))))))))) false (zfj (za (zS .i64) (za (zS .i64) (za (zS .i64) (za zzi (za (zS .i64) (za zzi (za (zS .i64) (za (zS .i64) (za (zS .i64) (za znN zm)))))))))) false (zfl 51 false (zbg)))
def zf6 (zT:yB->Bool×yB) (t32:Int) (t33:Int) (x_0:Int) (x_1:Int) (x_2:Int) (x_3:Int) (x_4:Int) (x_5:Int) (x_6:Int) (x_7:ByteArray) (t2_0:Int) (t2_1:Int) (t2_2:Int) (t2_3:Int) (t2_4:Int) (t2_5:Int) (t2_6:Int) (t2_7:ByteArray) (b2:yA) (b3:yD):Wy zdy zkn zxA:=.i (decide (t33<t32)) (.i (decide (0<=t33)&&decide (t33<Int.ofNat b3.length)) (.bn (zT (b3.getD t33.toNat default).Ann) λr2=>.i (decide (0<=t33)&&decide (t33<Int.ofNat b3.length)) (.i (decide (t33.toNat<b3.length)) (.h ((),(),t32,(IntKind.i64.wrap (t33+1)),()) ((x_0,x_1,x_2,(),x_3,(),x_4,x_5,x_6,x_7,()),(t2_0,t2_1,t2_2,(),t2_3,(),t2_4,t2_5,t2_6,t2_7,()),b2,(b3.set t33.toNat (WO.mk (b3.getD t33.toNat default).Value r2)),())) .d) .d) .d) (.k (x_0,x_1,x_2,x_3,x_4,x_5,x_6,x_7,t2_0,t2_1,t2_2,t2_3,t2_4,t2_5,t2_6,t2_7,b2,b3))
def znO (zT:yB->Bool×yB) (x:zdy) (y:zkn):=zf6 zT x.2.2.1 x.2.2.2.1 y.1.1 y.1.2.1 y.1.2.2.1 y.1.2.2.2.2.1 y.1.2.2.2.2.2.2.1 y.1.2.2.2.2.2.2.2.1 y.1.2.2.2.2.2.2.2.2.1 y.1.2.2.2.2.2.2.2.2.2.1 y.2.1.1 y.2.1.2.1 y.2.1.2.2.1 y.2.1.2.2.2.2.1 y.2.1.2.2.2.2.2.2.1 y.2.1.2.2.2.2.2.2.2.1 y.2.1.2.2.2.2.2.2.2.2.1 y.2.1.2.2.2.2.2.2.2.2.2.1 y.2.2.1 y.2.2.2.1
def zvp (zT:yB->Bool×yB) (n:Nat) (t32:Int) (t33:Int) (x_0:Int) (x_1:Int) (x_2:Int) (x_3:Int) (x_4:Int) (x_5:Int) (x_6:Int) (x_7:ByteArray) (t2_0:Int) (t2_1:Int) (t2_2:Int) (t2_3:Int) (t2_4:Int) (t2_5:Int) (t2_6:Int) (t2_7:ByteArray) (b2:yA) (b3:yD):=zA (znO zT) default n ((),(),t32,t33,()) ((x_0,x_1,x_2,(),x_3,(),x_4,x_5,x_6,x_7,()),(t2_0,t2_1,t2_2,(),t2_3,(),t2_4,t2_5,t2_6,t2_7,()),b2,b3,())
def zFP (r:zxA):LTree ty:=.done (.exit 2) [.ptr 200 0,.ptr 201 0] [.box ([.lit (.int .i64 r.1),.lit (.int .i64 r.2.1),.lit (.int .i64 r.2.2.1),.own 202,.lit (.int .i64 r.2.2.2.1),.own 203,.lit (.int .i64 r.2.2.2.2.1),.lit (.int .i64 r.2.2.2.2.2.1),.lit (.int .i64 r.2.2.2.2.2.2.1),.lit (.string r.2.2.2.2.2.2.2.1)]) false,.box ([.lit (.int .i64 r.2.2.2.2.2.2.2.2.1),.lit (.int .i64 r.2.2.2.2.2.2.2.2.2.1),.lit (.int .i64 r.2.2.2.2.2.2.2.2.2.2.1),.lit (.slice none 0 0),.lit (.int .i64 r.2.2.2.2.2.2.2.2.2.2.2.1),.lit (.slice none 0 0),.lit (.int .i64 r.2.2.2.2.2.2.2.2.2.2.2.2.1),.lit (.int .i64 r.2.2.2.2.2.2.2.2.2.2.2.2.2.1),.lit (.int .i64 r.2.2.2.2.2.2.2.2.2.2.2.2.2.2.1),.lit (.string r.2.2.2.2.2.2.2.2.2.2.2.2.2.2.2.1)]) false,.arr 51 r.2.2.2.2.2.2.2.2.2.2.2.2.2.2.2.2.1 false,.arr 169 r.2.2.2.2.2.2.2.2.2.2.2.2.2.2.2.2.2 false]
def zGv:BL ty zkn:=zfj (za (zS .i64) (za (zS .i64) (za (zS .i64) (za (zfb 202) (za (zS .i64) (za (zfb 203) (za (zS .i64) (za (zS .i64) (za (zS .i64) (za znN zm)))))))))) false (zfj (za (zS .i64) (za (zS .i64) (za (zS .i64) (za zzi (za (zS .i64) (za zzi (za (zS .i64) (za (zS .i64) (za (zS .i64) (za znN zm)))))))))) false (zfl 51 false (zfl 169 false (zbg))))
def zEW (x:zdy) (y:zkc):Nat:=(Int.toNat x.2.2.1+Int.toNat x.2.2.2.1+Int.toNat y.1.1+Int.toNat y.1.2.1+Int.toNat y.1.2.2.1+Int.toNat y.1.2.2.2.2.1+y.1.2.2.2.2.2.1.length+Int.toNat y.1.2.2.2.2.2.2.1+Int.toNat y.1.2.2.2.2.2.2.2.1+Int.toNat y.1.2.2.2.2.2.2.2.2.1+y.1.2.2.2.2.2.2.2.2.2.1.size+Int.toNat y.2.1.1+Int.toNat y.2.1.2.1+Int.toNat y.2.1.2.2.1+Int.toNat y.2.1.2.2.2.2.1+Int.toNat y.2.1.2.2.2.2.2.2.1+Int.toNat y.2.1.2.2.2.2.2.2.2.1+Int.toNat y.2.1.2.2.2.2.2.2.2.2.1+y.2.1.2.2.2.2.2.2.2.2.2.1.size+y.2.2.1.length+1)
def zEO (x:zdy) (y:zkn):Nat:=(Int.toNat x.2.2.1+Int.toNat x.2.2.2.1+Int.toNat y.1.1+Int.toNat y.1.2.1+Int.toNat y.1.2.2.1+Int.toNat y.1.2.2.2.2.1+Int.toNat y.1.2.2.2.2.2.2.1+Int.toNat y.1.2.2.2.2.2.2.2.1+Int.toNat y.1.2.2.2.2.2.2.2.2.1+y.1.2.2.2.2.2.2.2.2.2.1.size+Int.toNat y.2.1.1+Int.toNat y.2.1.2.1+Int.toNat y.2.1.2.2.1+Int.toNat y.2.1.2.2.2.2.1+Int.toNat y.2.1.2.2.2.2.2.2.1+Int.toNat y.2.1.2.2.2.2.2.2.2.1+Int.toNat y.2.1.2.2.2.2.2.2.2.2.1+y.2.1.2.2.2.2.2.2.2.2.2.1.size+y.2.2.1.length+y.2.2.2.1.length+1)
def znL (zT:yB->Bool×yB):=zb1 base 50 [(133,zhI),(134,zi8),(141,(zlx zT))] [] [(3,(kpL [1,2,11,12])),(9,(kpL [1,2,32,33]))] [(3,1,(kpL [1,2])),(9,3,(kpL [1,2]))] [(3,spW zGB zGo (znv zT) default zFa zEW),(9,spW zGB zGv (znO zT) default zFP zEO)] []
theorem zFu (zT:yB->Bool×yB):zJ (znL zT) (lp (body f200) 0):=zq (id:=3) (hl:=rfl)
theorem zFb (zT:yB->Bool×yB):zJ (znL zT) (lp (body f200) 1):=zq (id:=9) (hl:=rfl)
def zw8 (zT:yB->Bool×yB) (x_:At):Wy0 (At):=.bn (zdA x_.Ag) λr7=>.bn (zv5 zT ((Int.ofNat r7.length).toNat +Int.toNat 0+x_.Kind.toNat +x_.Row.Table.toNat +x_.Row.Seq.toNat +x_.Func.toNat +x_.Items.length+x_.Op.toNat +x_.Bd.Kind.toNat +x_.Bd.Int.toNat +x_.Bd.Text.size+Int.toNat 0+Int.toNat 0+Int.toNat 0+Int.toNat 0+Int.toNat 0+Int.toNat 0+Int.toNat 0+(ByteArray.mk #[]).size+r7.length+1) (Int.ofNat r7.length) 0 x_.Kind x_.Row.Table x_.Row.Seq x_.Func x_.Items x_.Op x_.Bd.Kind x_.Bd.Int x_.Bd.Text 0 0 0 0 0 0 0 (ByteArray.mk #[]) r7) λr6=>.bn (zee r6.2.2.2.2.1) λr5=>.bn (zvp zT ((Int.ofNat r5.length).toNat +Int.toNat 0+r6.1.toNat +r6.2.1.toNat +r6.2.2.1.toNat +r6.2.2.2.1.toNat +r6.2.2.2.2.2.1.toNat +r6.2.2.2.2.2.2.1.toNat +r6.2.2.2.2.2.2.2.1.toNat +r6.2.2.2.2.2.2.2.2.1.size+r6.2.2.2.2.2.2.2.2.2.1.toNat +r6.2.2.2.2.2.2.2.2.2.2.1.toNat +r6.2.2.2.2.2.2.2.2.2.2.2.1.toNat +r6.2.2.2.2.2.2.2.2.2.2.2.2.1.toNat +r6.2.2.2.2.2.2.2.2.2.2.2.2.2.1.toNat +r6.2.2.2.2.2.2.2.2.2.2.2.2.2.2.1.toNat +r6.2.2.2.2.2.2.2.2.2.2.2.2.2.2.2.1.toNat +r6.2.2.2.2.2.2.2.2.2.2.2.2.2.2.2.2.1.size+r6.2.2.2.2.2.2.2.2.2.2.2.2.2.2.2.2.2.length+r5.length+1) (Int.ofNat r5.length) 0 r6.1 r6.2.1 r6.2.2.1 r6.2.2.2.1 r6.2.2.2.2.2.1 r6.2.2.2.2.2.2.1 r6.2.2.2.2.2.2.2.1 r6.2.2.2.2.2.2.2.2.1 r6.2.2.2.2.2.2.2.2.2.1 r6.2.2.2.2.2.2.2.2.2.2.1 r6.2.2.2.2.2.2.2.2.2.2.2.1 r6.2.2.2.2.2.2.2.2.2.2.2.2.1 r6.2.2.2.2.2.2.2.2.2.2.2.2.2.1 r6.2.2.2.2.2.2.2.2.2.2.2.2.2.2.1 r6.2.2.2.2.2.2.2.2.2.2.2.2.2.2.2.1 r6.2.2.2.2.2.2.2.2.2.2.2.2.2.2.2.2.1 r6.2.2.2.2.2.2.2.2.2.2.2.2.2.2.2.2.2 r5) λr4=>.k (⟨r4.1,(⟨r4.2.1,r4.2.2.1⟩:RowID),r4.2.2.2.2.2.2.2.2.2.2.2.2.2.2.2.2.1,r4.2.2.2.1,r4.2.2.2.2.2.2.2.2.2.2.2.2.2.2.2.2.2,r4.2.2.2.2.1,(⟨r4.2.2.2.2.2.1,r4.2.2.2.2.2.2.1,r4.2.2.2.2.2.2.2.1⟩:Value)⟩:At)
def ziz (zT:yB->Bool×yB) (x_:At):=(zw8 zT x_).fin default
theorem zC8 (zT:yB->Bool×yB) (zOx:SdP 141 (zlx zT)):SdP 200 (zle (ziz zT)):=
 sT (cx':=(znL zT)) (zi ⟨zpj,zrP,zOx,trivial⟩) call200 func200 (lOK (aC (zFu zT) (aC (zFb zT) aN)))
def zHZ:Nat->(yB->Bool×yB)×(At->Bool×At)
 | 0=>(λ_=>(false,default),λ_=>(false,default))
 | n+1=>(zlo ((zHZ n).2),ziz ((zHZ n).1))
def zlv (n:Nat):yB->Bool×yB:=(zHZ n).1
def zk6 (n:Nat):At->Bool×At:=(zHZ n).2
theorem zM9 (n:Nat):zlv (n+1)=zlo (zk6 n):=rfl
theorem zGz (n:Nat):zk6 (n+1)=ziz (zlv n):=rfl
theorem zUq:∀ n,SdP 141 (zlx (zlv n))/\SdP 200 (zle (zk6 n))
 | 0=>⟨zbk call141 (λ_=>rfl),zbk call200 (λ_=>rfl)⟩
 | n+1=>by
  have ih:=zUq n;exact ⟨zHO _ (ih.2),zC8 _ (ih.1)⟩
def zgG:yB->Bool×yB:=zlv 1000
def zgp:Ab.Spec ty:=zlx zgG
theorem zil:SdP 141 zgp:=(zUq 1000).1
def zPa:=zbx base 9 [(103,zsx),(141,zgp)]
def zCw (a:yB):Wy0 (yB×Int):=.bn (zkN a) λr1=>.i (!r1) (.k ([],6)) (.bn (zgG a) λr0=>.k (r0,0))
def zd7 (a:yB):=(zCw a).fin default
def zMZ (r:yB×Int):ARes ty:=⟨[.own 107 r.1,.pure (.lit (.int .i64 r.2))],[]⟩
def zep:=zh zUU λx=>((zd7 x.1).1,zMZ (zd7 x.1).2)
theorem zfa:SdP 124 zep:=
 sT (cx':=zPa) (zi ⟨zyN,zil,trivial⟩) call124 func124 (lOK aN) (sg:=⟨[.own 107,.pure],[]⟩)
def zwD:=zbx base 27 []
def zlS (n_:Int):Wy0 (yB):=.i (decide (n_<0)) .d (.i (decide (IntKind.i64.wrap (n_ - IntKind.i64.wrap (0 - 0))>0)) (.i (decide (0<IntKind.i64.wrap (n_ - IntKind.i64.wrap (0 - 0)))&&(decide (IntKind.i64.wrap (n_ - IntKind.i64.wrap (0 - 0))*Int.ofNat 32<=Int.ofNat zF)&&(decide (IntKind.i64.wrap (n_ - IntKind.i64.wrap (0 - 0))<=Int.ofNat zF)&& !Nat.beq 2 0))) (.k (List.take (Int.toNat 0 - Int.toNat 0) (List.replicate (IntKind.i64.wrap (n_ - IntKind.i64.wrap (0 - 0))).toNat (TO.mk 0 [])))) .d) (.k []))
def zdO (n_:Int):=(zlS n_).fin default
def zxf:AL base (Unit×Int×Unit):=zd (ze zbde) (zd (ze zfx) zt)
def zkr:=zh zxf λx=>((zdO x.2.1).1,z27 (zdO x.2.1).2)
theorem zuh:SdP 193 zkr:=
 sT (cx':=zwD) (zi trivial) call193 func193 (lOK aN) (sg:=⟨[.own 107],[]⟩)
abbrev zes:=yA×Int×yA×Int×Int×Unit
abbrev zmB:=yA×Int
abbrev zew:=Unit×yA×Int×Int×Unit
abbrev zez:=yB×Unit
def zcQ (slices:yA) (size:Int) (t9:yA) (t10:Int) (t11:Int):Wy zes Unit zmB:=.i (decide (t11<t10)) (.i (decide (0<=t11)&&decide (t11<Int.ofNat t9.length)) (.i (decide (IntKind.i64.wrap (size+Int.ofNat (List.length (t9.getD t11.toNat default)))<0)) .d (.h (slices,(IntKind.i64.wrap (size+Int.ofNat (List.length (t9.getD t11.toNat default)))),t9,t10,(IntKind.i64.wrap (t11+1)),()) ())) .d) (.k (slices,size))
def zfX (x:zes) (y:Unit):=zcQ x.1 x.2.1 x.2.2.1 x.2.2.2.1 x.2.2.2.2.1
def zkH (n:Nat) (slices:yA) (size:Int) (t9:yA) (t10:Int) (t11:Int):=zA (zfX) default n (slices,size,t9,t10,t11,()) ()
def zue (r:zmB):LTree ty:=.done (.exit 0) [.sl 51 r.1,.lit (.int .i64 r.2)] []
def zuZ:LL ty zes:=za (lSl 51) (za zj (za (lSl 51) (za zj (za zj zm))))
def zcL (t25:yA) (t26:Int) (t27:Int) (newslice:yB):Wy zew zez (yB):=.i (decide (t27<t26)) (.i (decide (0<=t27)&&decide (t27<Int.ofNat t25.length)) (.i (decide ((newslice.length+List.length (t25.getD t27.toNat default))*32<=zF)) (.h ((),t25,t26,(IntKind.i64.wrap (t27+1)),()) ((newslice++t25.getD t27.toNat default),())) .d) .d) (.k newslice)
def zfy (x:zew) (y:zez):=zcL x.2.1 x.2.2.1 x.2.2.2.1 y.1
def zjZ (n:Nat) (t25:yA) (t26:Int) (t27:Int) (newslice:yB):=zA (zfy) default n ((),t25,t26,t27,()) (newslice,())
def ztM (r:yB):LTree ty:=.done (.exit 2) [.own 144] [.arr 107 r false]
def zug:LL ty zew:=za (zfb 144) (za (lSl 51) (za zj (za zj zm)))
def zua:BL ty zez:=zfl 107 false (zbg)
def zuc (x:zes) (y:Unit):Nat:=(x.1.length+Int.toNat x.2.1+x.2.2.1.length+Int.toNat x.2.2.2.1+Int.toNat x.2.2.2.2.1+1)
def ztU (x:zew) (y:zez):Nat:=(x.2.1.length+Int.toNat x.2.2.1+Int.toNat x.2.2.2.1+y.1.length+1)
def zfR:=zb1 base 36 [(193,zkr)] [] [(3,(kpL [0,3,9,10,11])),(11,(kpL [6,25,26,27]))] [(3,1,(kpL [0,3])),(11,3,(kpL [6]))] [(3,spW zuZ z4x (zfX) default zue zuc),(11,spW zug zua (zfy) default ztM ztU)] [193]
theorem zud:zJ zfR (lp (body f126) 0):=zq (id:=3) (hl:=rfl)
theorem ztG:zJ zfR (lp (body f126) 1):=zq (id:=11) (hl:=rfl)
def zkV (slices:yA):Wy0 (yB):=.bn (zkH (slices.length+Int.toNat 0+slices.length+(Int.ofNat slices.length).toNat +Int.toNat 0+1) slices 0 slices (Int.ofNat slices.length) 0) λr2=>.bn (zdO r2.2) λr1=>.bn (zjZ (r2.1.length+(Int.ofNat r2.1.length).toNat +Int.toNat 0+r1.length+1) r2.1 (Int.ofNat r2.1.length) 0 r1) λr0=>.k r0
def zdq (slices:yA):=(zkV slices).fin default
def zvj:AL base (yA×Unit):=zd (ze (vSl 51)) zt
def zjt:=zh zvj λx=>((zdq x.1).1,z27 (zdq x.1).2)
theorem zs8:SdP 126 zjt:=
 sT (cx':=zfR) (zi ⟨zuh,trivial⟩) call126 func126 (lOK (aC zud (aC ztG aN))) (sg:=⟨[.own 107],[]⟩)
def zWM:=zbx zbw 22 [(52,zcm),(124,zep),(125,zqX),(126,zjt)]
def zIN (a:yB) (b:yB):Wy0 (yB×Int):=.bn (zb8 a) λr4=>.i (!r4) (.k ([],1)) (.bn (zb8 b) λr3=>.i (!r3) (.k ([],1)) (.bn (zdq [a,b]) λr2=>.bn (zhv r2) λr1=>.bn (zd7 r1) λr0=>.k (r0.1,r0.2)))
def zpC (a:yB) (b:yB):=(zIN a b).fin default
def zZo:AL zbw (yB×yB×Unit):=zd (ze (vSl 107)) (zd (ze (vSl 107)) zt)
def zwE:=zh zZo λx=>((zpC x.1 x.2.1).1,zMZ (zpC x.1 x.2.1).2)
theorem zCo:Sound Tryz.prog zbw 72 zwE:=
 sU (cx':=zWM) (zi ⟨zcu.nodr,zfa.nodr,zxX,zs8.nodr,trivial⟩) call72 func72 (lOK aN) (sg:=⟨[.own 107,.pure],[]⟩)
def zJs:=zbx base 7 []
def zK4 (x_:Row):Wy0 (Bool):=.k (Int.ofNat x_.Ann.length==0)
def zg9 (x_:Row):=(zK4 x_).fin default
def zKm:AL base (Row×Unit):=zd (ze (zcd 54)) zt
def zja:=zh zKm λx=>((zg9 x.1).1,zTe (zg9 x.1).2)
theorem zmv:SdP 69 zja:=
 sT (cx':=zJs) (zi trivial) call69 func69 (lOK aN)
def zP3:AL zbw (yB×((yE×Unit)×Unit)×Unit):=zd (ze (vSl 107)) (zd (ze (vFn 138 (zyl (z1O (zyl (vSl 65) zc1)) zc1))) zt)
def zj9 (F:yB->yE->Bool×(yB×Int)):Ab.Spec ty:=zh zP3 λx=>((F x.1 x.2.1.1.1).1,zMZ (F x.1 x.2.1.1.1).2)
def zJY:AL zbw (At×((yE×Unit)×Unit)×Unit):=zd (ze (zcd 143)) (zd (ze (vFn 138 (zyl (z1O (zyl (vSl 65) zc1)) zc1))) zt)
def zkk (F:At->yE->Bool×(yB×Int)):Ab.Spec ty:=zh zJY λx=>((F x.1 x.2.1.1.1).1,zMZ (F x.1 x.2.1.1.1).2)
end Go.Proofs.YtoknknbmfmddbaaGreatDoor
end
