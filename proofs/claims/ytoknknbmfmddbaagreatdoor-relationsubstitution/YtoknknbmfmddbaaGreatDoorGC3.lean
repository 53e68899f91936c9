/- Texts of this claim, joined (the program, its functions in plain words, and what they compute). -/
import Derived.WalkKit
import Derived.WalkSpells
import Derived.Test.YtoknknbmfmddbaaGreatDoorGC2
set_option autoImplicit false
set_option linter.unusedVariables false
set_option linter.unusedSectionVars false
set_option linter.unusedSimpArgs false
set_option maxRecDepth 1000000
set_option maxHeartbeats 0
noncomputable section
namespace Go.Proofs.YtoknknbmfmddbaaGreatDoor
open Go Go.Ab
open Go.Proofs.Tryz
def zeA:Nat->(yB->Bool×Bool)×(At->Bool×Bool)×(yB->Bool×Bool)×(Wd->Bool×Bool)×(yA->Bool×Int)×(yA->Bool×Bool)×(yD->Bool×Int)×(yD->Bool×Bool)
 | 0=>(λ_=>(false,default),λ_=>(false,default),λ_=>(false,default),λ_=>(false,default),λ_=>(false,default),λ_=>(false,default),λ_=>(false,default),λ_=>(false,default))
 | n+1=>(znD ((zeA n).2.1),zjV ((zeA n).2.2.2.2.2.1) ((zeA n).2.2.1) ((zeA n).2.2.2.2.2.2.2) ((zeA n).2.2.2.1),zkI ((zeA n).1),zkP ((zeA n).1),zcO ((zeA n).2.2.1),zcv ((zeA n).2.2.1) ((zeA n).2.2.2.2.1),zc9 ((zeA n).2.2.2.1),zcY ((zeA n).2.2.2.1) ((zeA n).2.2.2.2.2.2.1))
def zkv (n:Nat):yB->Bool×Bool:=(zeA n).1
def znn (n:Nat):At->Bool×Bool:=(zeA n).2.1
def zfq (n:Nat):yB->Bool×Bool:=(zeA n).2.2.1
def zfu (n:Nat):Wd->Bool×Bool:=(zeA n).2.2.2.1
def zcR (n:Nat):yA->Bool×Int:=(zeA n).2.2.2.2.1
def zcx (n:Nat):yA->Bool×Bool:=(zeA n).2.2.2.2.2.1
def zdb (n:Nat):yD->Bool×Int:=(zeA n).2.2.2.2.2.2.1
def zcW (n:Nat):yD->Bool×Bool:=(zeA n).2.2.2.2.2.2.2
theorem zSS (n:Nat):zkv (n+1)=znD (znn n):=rfl
theorem zLj (n:Nat):znn (n+1)=zjV (zcx n) (zfq n) (zcW n) (zfu n):=rfl
theorem zHa (n:Nat):zfq (n+1)=zkI (zkv n):=rfl
theorem zHG (n:Nat):zfu (n+1)=zkP (zkv n):=rfl
theorem znm (n:Nat):zcR (n+1)=zcO (zfq n):=rfl
theorem zmd (n:Nat):zcx (n+1)=zcv (zfq n) (zcR n):=rfl
theorem zpv (n:Nat):zdb (n+1)=zc9 (zfu n):=rfl
theorem znS (n:Nat):zcW (n+1)=zcY (zfu n) (zdb n):=rfl
theorem z2k:∀ n,SdP 52 (ziu (zkv n))/\SdP 107 (znj (znn n))/\SdP 174 (ziu (zfq n))/\SdP 179 (zdF (zfu n))/\SdP 226 (zcQ (zcR n))/\SdP 173 (zcw (zcx n))/\SdP 228 (zc8 (zdb n))/\SdP 178 (zcV (zcW n))
 | 0=>⟨zbl call52 (λ_=>rfl),zbl call107 (λ_=>rfl),zbl call174 (λ_=>rfl),zbl call179 (λ_=>rfl),zbl call226 (λ_=>rfl),zbl call173 (λ_=>rfl),zbl call228 (λ_=>rfl),zbl call178 (λ_=>rfl)⟩
 | n+1=>by
  have ih:=z2k n;exact ⟨zMl _ (ih.2.1),zGU _ _ _ _ (ih.2.2.2.2.2.1) (ih.2.2.1) (ih.2.2.2.2.2.2.2) (ih.2.2.2.1),zEl _ (ih.1),zEg _ (ih.1),zmh _ (ih.2.2.1),zk4 _ _ (ih.2.2.1) (ih.2.2.2.2.1),zn3 _ (ih.2.2.2.1),zmy _ _ (ih.2.2.2.1) (ih.2.2.2.2.2.2.1)⟩
def zci:yB->Bool×Bool:=zkv 1000
def zcz:Ab.Spec ty:=ziu zci
theorem zcG:SdP 52 zcz:=(z2k 1000).1
def zW9 (r:ByteArray):ARes ty:=⟨[.pure (.lit (.string r))],[]⟩
def z2f:AL zby (yB×Unit):=zd (ze (vSl 107)) zp
def zpe (F:yB->Bool×ByteArray):Ab.Spec ty:=zh z2f λx=>((F x.1).1,zW9 (F x.1).2)
def zOD:AL zby (At×Unit):=zd (ze (zb7 143)) zp
def zmi (F:At->Bool×ByteArray):Ab.Spec ty:=zh zOD λx=>((F x.1).1,zW9 (F x.1).2)
def zJ7:AL zby (yC×Unit):=zd (ze (vSl 145)) zp
def zgL (F:yC->Bool×ByteArray):Ab.Spec ty:=zh zJ7 λx=>((F x.1).1,zW9 (F x.1).2)
def zOR:=zbp base 2 []
def zQO:Wy0 (List ByteArray):=.k [ByteArray.mk #[(67:UInt8),(79:UInt8),(85:UInt8),(78:UInt8),(84:UInt8)],ByteArray.mk #[(83:UInt8),(85:UInt8),(77:UInt8)],ByteArray.mk #[(77:UInt8),(73:UInt8),(78:UInt8)],ByteArray.mk #[(77:UInt8),(65:UInt8),(88:UInt8)]]
def zce:Bool×List ByteArray:=(zQO).fin default
def zMi (r:List ByteArray):ARes ty:=⟨[.own 9 r],[]⟩
def zy9:=zh z9e λx=>((zce ).1,zMi (zce ).2)
theorem zKq:SdP 265 zy9:=
 sT (cx':=zOR) (zi trivial) call265 func265 (lOK aN) (sg:=⟨[.own 9],[]⟩)
def zOK:=zbp base 2 []
def zQg:Wy0 (List ByteArray):=.k [ByteArray.mk #[(61:UInt8)],ByteArray.mk #[(60:UInt8),(62:UInt8)],ByteArray.mk #[(60:UInt8)],ByteArray.mk #[(60:UInt8),(61:UInt8)],ByteArray.mk #[(62:UInt8)],ByteArray.mk #[(62:UInt8),(61:UInt8)]]
def zdQ:Bool×List ByteArray:=(zQg).fin default
def zzd:=zh z9e λx=>((zdQ ).1,zMi (zdQ ).2)
theorem zKj:SdP 266 zzd:=
 sT (cx':=zOK) (zi trivial) call266 func266 (lOK aN) (sg:=⟨[.own 9],[]⟩)
def strings_Join (l:List ByteArray) (sep:ByteArray):Bool×ByteArray:=z0F l sep
def zpf:Ab.Spec ty:=zh (cx:=zby) (zd (ze (vSl 9)) (zd (ze zyP) zp)) λx=>((strings_Join x.1 x.2.1).1,⟨[.pure (.lit (.string (strings_Join x.1 x.2.1).2))],[]⟩)
theorem ztB:Sound Tryz.prog zby 44 zpf:=zbgb (T:=9) zU7 rfl Go.Proofs.Tryz.lays156 Go.Proofs.Tryz.Builder_Extra_156 call44 (λs:ByteArray=>s) (λ_=>rfl) strings_Join (λl sep=>congrArg (λl=>z0F l sep) (List.map_id' (α:=ByteArray) l).symm)
def strconv_Itoa (x:Int):Bool×ByteArray:=zUn x
def zBM:Ab.Spec ty:=zh (cx:=base) (zd (ze (zgS .i64)) zp) λx=>((strconv_Itoa x.1).1,⟨[.pure (.lit (.string (strconv_Itoa x.1).2))],[]⟩)
theorem zJs:SdP 216 zBM:=zbg1 ze3 Go.Proofs.Tryz.laysM171 call216 (λ_ h=>h.1)
def z3B:=zbp base 15 [(116,zu2),(216,zBM)]
def zPD (id:RowID):Wy0 (ByteArray):=.bn (zrj id) λr2=>.i (!r2) (.k (ByteArray.mk #[])) (.bn (strconv_Itoa id.Table) λr1=>.i (decide ((ByteArray.mk #[(116:UInt8)]).size+r1.size<=9223372036854775807)) (.i (decide ((ByteArray.mk #[(116:UInt8)]++r1).size+(ByteArray.mk #[(46:UInt8)]).size<=9223372036854775807)) (.bn (strconv_Itoa id.Seq) λr0=>.i (decide ((ByteArray.mk #[(116:UInt8)]++r1++ByteArray.mk #[(46:UInt8)]).size+r0.size<=9223372036854775807)) (.k (ByteArray.mk #[(116:UInt8)]++r1++ByteArray.mk #[(46:UInt8)]++r0)) .d) .d) .d)
def zxx (id:RowID):=(zPD id).fin default
def zJf:=zh zbeA λx=>((zxx x.1).1,zW9 (zxx x.1).2)
theorem zWc:SdP 264 zJf:=
 sT (cx':=z3B) (zi ⟨zzB,zJs,trivial⟩) call264 func264 (lOK aN)
def zjs (m b:Int):Bool×ByteArray:=zwR m b
def zuK:Ab.Spec ty:=zh (cx:=base) (zd (ze (zgS .i64)) (zd (ze (zgS .i64)) zp)) λx=>((zjs x.1 x.2.1).1,⟨[.pure (.lit (.string (zjs x.1 x.2.1).2))],[]⟩)
theorem zBc:SdP 92 zuK:=z5T ze3 Go.Proofs.Tryz.laysM173 call92 (λ_ h=>h.1)
def strings_ReplaceAll (s p q:ByteArray):Bool×ByteArray:=zqF s p q
def zA0:Ab.Spec ty:=zh (cx:=zby) (zd (ze zyP) (zd (ze zyP) (zd (ze zyP) zp))) λx=>((strings_ReplaceAll x.1 x.2.1 x.2.2.1).1,⟨[.pure (.lit (.string (strings_ReplaceAll x.1 x.2.1 x.2.2.1).2))],[]⟩)
theorem zMT:Sound Tryz.prog zby 93 zA0:=z3X zU7 rfl Go.Proofs.Tryz.lays155 Go.Proofs.Tryz.Builder_Extra_155 call93 (λ_ h=>h.2)
def z7c:=zbp zby 27 [(91,zrJ),(92,zuK),(93,zA0)]
def zTi (v:Value):Wy0 (ByteArray):=.bn (zqA v) λr2=>.i (!r2) (.k (ByteArray.mk #[])) (.i (v.Kind==0) (.bn (zjs v.Int 10) λr0=>.k r0) (.i (v.Kind==1) (.bn (strings_ReplaceAll v.Text (ByteArray.mk #[(39:UInt8)]) (ByteArray.mk #[(39:UInt8),(39:UInt8)])) λr1=>.i (decide ((ByteArray.mk #[(39:UInt8)]).size+r1.size<=9223372036854775807)) (.i (decide ((ByteArray.mk #[(39:UInt8)]++r1).size+(ByteArray.mk #[(39:UInt8)]).size<=9223372036854775807)) (.k (ByteArray.mk #[(39:UInt8)]++r1++ByteArray.mk #[(39:UInt8)])) .d) .d) (.i (v.Int==1) (.k (ByteArray.mk #[(84:UInt8),(82:UInt8),(85:UInt8),(69:UInt8)])) (.k (ByteArray.mk #[(70:UInt8),(65:UInt8),(76:UInt8),(83:UInt8),(69:UInt8)])))))
def zrB (v:Value):=(zTi v).fin default
def z8K:AL zby (Value×Unit):=zd (ze (zb7 79)) zp
def zBj:=zh z8K λx=>((zrB x.1).1,zW9 (zrB x.1).2)
theorem zIQ:Sound Tryz.prog zby 45 zBj:=
 sU (cx':=z7c) (zi ⟨zvb.nodr,zBc.nodr,zMT,trivial⟩) call45 func45 (lOK aN)
abbrev zlB:=Unit×Unit×yD×Int×Int×Unit
abbrev zlH:=At×List ByteArray×Unit
abbrev zzx:=At×List ByteArray
def zgh (zbu:yB->Bool×ByteArray) (t48:yD) (t49:Int) (t50:Int) (x_:At) (items:List ByteArray):Wy zlB zlH zzx:=.i (decide (t50<t49)) (.ix t50 t48.length (.bn (zrB (t48.getD t50.toNat default).Value) λr1=>.i (decide (r1.size+(ByteArray.mk #[(58:UInt8),(32:UInt8)]).size<=9223372036854775807)) (.bn (zbu (t48.getD t50.toNat default).Ann) λr0=>.i (decide ((r1++ByteArray.mk #[(58:UInt8),(32:UInt8)]).size+r0.size<=9223372036854775807)) (.i (decide ((items.length+[r1++ByteArray.mk #[(58:UInt8),(32:UInt8)]++r0].length)*16<=zD)) (.h ((),(),t48,t49,(IntKind.i64.wrap (t50+1)),()) (x_,(items++[r1++ByteArray.mk #[(58:UInt8),(32:UInt8)]++r0]),())) .d) .d) .d)) (.k (x_,items))
def zny (zbu:yB->Bool×ByteArray) (x:zlB) (y:zlH):=zgh zbu x.2.2.1 x.2.2.2.1 x.2.2.2.2.1 y.1 y.2.1
def zwp (zbu:yB->Bool×ByteArray) (n:Nat) (t48:yD) (t49:Int) (t50:Int) (x_:At) (items:List ByteArray):=zy (zny zbu) default n ((),(),t48,t49,t50,()) (x_,items,())
def zHo (r:zzx):LTree ty:=.done (.exit 1) [.ptr 360 0,.own 361] [.box (base.enc 143 r.1) false,.arr 9 r.2 false]
def zH2:LL ty zlB:=za (zcm 360 0) (za (zeD 361) (za (lSl 169) (za zj (za zj zk))))
def zJb:BL ty zlH:=zdx (zdi (λx=>(⟨x.1,⟨x.2.1,x.2.2.1⟩,x.2.2.2.1,x.2.2.2.2.1,x.2.2.2.2.2.1,x.2.2.2.2.2.2.1,⟨x.2.2.2.2.2.2.2.1,x.2.2.2.2.2.2.2.2.1,x.2.2.2.2.2.2.2.2.2.1⟩⟩:At)) (λx=>(x.Kind,x.Row.Table,x.Row.Seq,x.Ag,x.Func,x.Items,x.Op,x.Bd.Kind,x.Bd.Int,x.Bd.Text,())) (λ_=>rfl) (za (zL .i64) (za (zL .i64) (za (zL .i64) (za (lSl 51) (za (zL .i64) (za (lSl 169) (za (zL .i64) (za (zL .i64) (za (zL .i64) (za zoZ zk))))))))))) false (zeG 9 false (zY))
def zHt (x:zlB) (y:zlH):Nat:=(x.2.2.1.length+Int.toNat x.2.2.2.1+Int.toNat x.2.2.2.2.1+y.1.Ag.length+y.1.Items.length+y.2.1.length+1)
def zyb (zbu:yB->Bool×ByteArray):=zbV zby 90 [(44,zpf),(45,zBj),(94,(zpe zbu)),(264,zJf),(265,zy9),(266,zzd)] [] [(12,[(1,.keep),(3,.own 9),(48,.keep),(49,.keep),(50,.keep)])] [(12,2,(kpL [1,3]))] [(12,spW zH2 zJb (zny zbu) default zHo zHt)] []
theorem zGX (zbu:yB->Bool×ByteArray):zC (zyb zbu) (lp (body f215) 0):=zn (id:=12) (hl:=rfl)
def zyW (zbu:yB->Bool×ByteArray) (x_:At):Wy0 (ByteArray):=.i (x_.Kind==0) (.bn (zxx x_.Row) λr4=>.k r4) (.i (x_.Kind==1) (.ix 0 x_.Ag.length (.bn (zbu (x_.Ag.getD (Int.toNat 0) default)) λr6=>.i (decide ((ByteArray.mk #[(109:UInt8),(111:UInt8),(110:UInt8),(117:UInt8),(115:UInt8),(91:UInt8)]).size+r6.size<=9223372036854775807)) (.i (decide ((ByteArray.mk #[(109:UInt8),(111:UInt8),(110:UInt8),(117:UInt8),(115:UInt8),(91:UInt8)]++r6).size+(ByteArray.mk #[(44:UInt8),(32:UInt8)]).size<=9223372036854775807)) (.ix 1 x_.Ag.length (.bn (zbu (x_.Ag.getD (Int.toNat 1) default)) λr5=>.i (decide ((ByteArray.mk #[(109:UInt8),(111:UInt8),(110:UInt8),(117:UInt8),(115:UInt8),(91:UInt8)]++r6++ByteArray.mk #[(44:UInt8),(32:UInt8)]).size+r5.size<=9223372036854775807)) (.i (decide ((ByteArray.mk #[(109:UInt8),(111:UInt8),(110:UInt8),(117:UInt8),(115:UInt8),(91:UInt8)]++r6++ByteArray.mk #[(44:UInt8),(32:UInt8)]++r5).size+(ByteArray.mk #[(93:UInt8)]).size<=9223372036854775807)) (.k (ByteArray.mk #[(109:UInt8),(111:UInt8),(110:UInt8),(117:UInt8),(115:UInt8),(91:UInt8)]++r6++ByteArray.mk #[(44:UInt8),(32:UInt8)]++r5++ByteArray.mk #[(93:UInt8)])) .d) .d)) .d) .d)) (.i (x_.Kind==2) (.ix 0 x_.Ag.length (.bn (zbu (x_.Ag.getD (Int.toNat 0) default)) λr7=>.i (decide ((ByteArray.mk #[(100:UInt8),(101:UInt8),(108:UInt8),(116:UInt8),(97:UInt8),(91:UInt8)]).size+r7.size<=9223372036854775807)) (.i (decide ((ByteArray.mk #[(100:UInt8),(101:UInt8),(108:UInt8),(116:UInt8),(97:UInt8),(91:UInt8)]++r7).size+(ByteArray.mk #[(93:UInt8)]).size<=9223372036854775807)) (.k (ByteArray.mk #[(100:UInt8),(101:UInt8),(108:UInt8),(116:UInt8),(97:UInt8),(91:UInt8)]++r7++ByteArray.mk #[(93:UInt8)])) .d) .d)) (.i (x_.Kind==3) (.ix 0 x_.Ag.length (.bn (zbu (x_.Ag.getD (Int.toNat 0) default)) λr8=>.i (decide ((ByteArray.mk #[(97:UInt8),(98:UInt8),(115:UInt8),(101:UInt8),(110:UInt8),(116:UInt8),(91:UInt8)]).size+r8.size<=9223372036854775807)) (.i (decide ((ByteArray.mk #[(97:UInt8),(98:UInt8),(115:UInt8),(101:UInt8),(110:UInt8),(116:UInt8),(91:UInt8)]++r8).size+(ByteArray.mk #[(93:UInt8)]).size<=9223372036854775807)) (.k (ByteArray.mk #[(97:UInt8),(98:UInt8),(115:UInt8),(101:UInt8),(110:UInt8),(116:UInt8),(91:UInt8)]++r8++ByteArray.mk #[(93:UInt8)])) .d) .d)) (.bn (zwp zbu (x_.Items.length+(Int.ofNat x_.Items.length).toNat +Int.toNat 0+x_.Ag.length+x_.Items.length+0+1) x_.Items (Int.ofNat x_.Items.length) 0 (At.et x_) []) λr11=>.ix r11.1.Func zce.2.length (.i (decide ((ByteArray.mk #[(116:UInt8),(101:UInt8),(115:UInt8),(116:UInt8),(91:UInt8)]).size+ByteArray.size (zce.2.getD r11.1.Func.toNat default)<=9223372036854775807)) (.i (decide ((ByteArray.mk #[(116:UInt8),(101:UInt8),(115:UInt8),(116:UInt8),(91:UInt8)]++zce.2.getD r11.1.Func.toNat default).size+(ByteArray.mk #[(123:UInt8)]).size<=9223372036854775807)) (.bn (strings_Join r11.2 (ByteArray.mk #[(59:UInt8),(32:UInt8)])) λr10=>.i (decide ((ByteArray.mk #[(116:UInt8),(101:UInt8),(115:UInt8),(116:UInt8),(91:UInt8)]++zce.2.getD r11.1.Func.toNat default++ByteArray.mk #[(123:UInt8)]).size+r10.size<=9223372036854775807)) (.i (decide ((ByteArray.mk #[(116:UInt8),(101:UInt8),(115:UInt8),(116:UInt8),(91:UInt8)]++zce.2.getD r11.1.Func.toNat default++ByteArray.mk #[(123:UInt8)]++r10).size+(ByteArray.mk #[(125:UInt8),(32:UInt8)]).size<=9223372036854775807)) (.ix (IntKind.i64.wrap (r11.1.Op - 5)) zdQ.2.length (.i (decide ((ByteArray.mk #[(116:UInt8),(101:UInt8),(115:UInt8),(116:UInt8),(91:UInt8)]++zce.2.getD r11.1.Func.toNat default++ByteArray.mk #[(123:UInt8)]++r10++ByteArray.mk #[(125:UInt8),(32:UInt8)]).size+ByteArray.size (zdQ.2.getD (IntKind.i64.wrap (r11.1.Op - 5)).toNat default)<=9223372036854775807)) (.i (decide ((ByteArray.mk #[(116:UInt8),(101:UInt8),(115:UInt8),(116:UInt8),(91:UInt8)]++zce.2.getD r11.1.Func.toNat default++ByteArray.mk #[(123:UInt8)]++r10++ByteArray.mk #[(125:UInt8),(32:UInt8)]++zdQ.2.getD (IntKind.i64.wrap (r11.1.Op - 5)).toNat default).size+(ByteArray.mk #[(32:UInt8)]).size<=9223372036854775807)) (.bn (zrB r11.1.Bd) λr9=>.i (decide ((ByteArray.mk #[(116:UInt8),(101:UInt8),(115:UInt8),(116:UInt8),(91:UInt8)]++zce.2.getD r11.1.Func.toNat default++ByteArray.mk #[(123:UInt8)]++r10++ByteArray.mk #[(125:UInt8),(32:UInt8)]++zdQ.2.getD (IntKind.i64.wrap (r11.1.Op - 5)).toNat default++ByteArray.mk #[(32:UInt8)]).size+r9.size<=9223372036854775807)) (.i (decide ((ByteArray.mk #[(116:UInt8),(101:UInt8),(115:UInt8),(116:UInt8),(91:UInt8)]++zce.2.getD r11.1.Func.toNat default++ByteArray.mk #[(123:UInt8)]++r10++ByteArray.mk #[(125:UInt8),(32:UInt8)]++zdQ.2.getD (IntKind.i64.wrap (r11.1.Op - 5)).toNat default++ByteArray.mk #[(32:UInt8)]++r9).size+(ByteArray.mk #[(93:UInt8)]).size<=9223372036854775807)) (.k (ByteArray.mk #[(116:UInt8),(101:UInt8),(115:UInt8),(116:UInt8),(91:UInt8)]++zce.2.getD r11.1.Func.toNat default++ByteArray.mk #[(123:UInt8)]++r10++ByteArray.mk #[(125:UInt8),(32:UInt8)]++zdQ.2.getD (IntKind.i64.wrap (r11.1.Op - 5)).toNat default++ByteArray.mk #[(32:UInt8)]++r9++ByteArray.mk #[(93:UInt8)])) .d) .d) .d) .d)) .d) .d) .d) .d)))))
def zjg (zbu:yB->Bool×ByteArray) (x_:At):=(zyW zbu x_).fin default
theorem zGp (zbu:yB->Bool×ByteArray) (zWV:Sound Tryz.prog zby 94 (zpe zbu)):Sound Tryz.prog zby 215 (zmi (zjg zbu)):=
 sU (cx':=(zyb zbu)) (zi ⟨ztB,zIQ,zWV,zWc.nodr,zKq.nodr,zKj.nodr,trivial⟩) call215 func215 (lOK (aC (zGX zbu) aN))
abbrev zjz:=Unit×yC×Int×Int×Unit
abbrev zjJ:=List ByteArray×Unit
def zfy (zbh:At->Bool×ByteArray) (t7:yC) (t8:Int) (t9:Int) (out_:List ByteArray):Wy zjz zjJ (List ByteArray):=.i (decide (t9<t8)) (.ix t9 t7.length (.bn (zbh (At.et ((t7.getD t9.toNat default).At))) λr1=>.i ((t7.getD t9.toNat default).Exp != 1) (.bn (strconv_Itoa (t7.getD t9.toNat default).Exp) λr0=>.i (decide ((ByteArray.mk #[(94:UInt8)]).size+r0.size<=9223372036854775807)) (.i (decide (r1.size+(ByteArray.mk #[(94:UInt8)]++r0).size<=9223372036854775807)) (.i (decide ((out_.length+[r1++(ByteArray.mk #[(94:UInt8)]++r0)].length)*16<=zD)) (.h ((),t7,t8,(IntKind.i64.wrap (t9+1)),()) ((out_++[r1++(ByteArray.mk #[(94:UInt8)]++r0)]),())) .d) .d) .d) (.i (decide ((out_.length+[r1].length)*16<=zD)) (.h ((),t7,t8,(IntKind.i64.wrap (t9+1)),()) ((out_++[r1]),())) .d))) (.k out_)
def zl4 (zbh:At->Bool×ByteArray) (x:zjz) (y:zjJ):=zfy zbh x.2.1 x.2.2.1 x.2.2.2.1 y.1
def zuY (zbh:At->Bool×ByteArray) (n:Nat) (t7:yC) (t8:Int) (t9:Int) (out_:List ByteArray):=zy (zl4 zbh) default n ((),t7,t8,t9,()) (out_,())
def zFN (r:List ByteArray):LTree ty:=.done (.exit 0) [.own 128] [.arr 9 r false]
def zGl:LL ty zjz:=za (zeD 128) (za (lSl 145) (za zj (za zj zk)))
def zGe:BL ty zjJ:=zeG 9 false (zY)
def zFz (x:zjz) (y:zjJ):Nat:=(x.2.1.length+Int.toNat x.2.2.1+Int.toNat x.2.2.2.1+y.1.length+1)
def zuT (zbh:At->Bool×ByteArray):=zbV zby 32 [(44,zpf),(215,(zmi zbh)),(216,zBM)] [] [(3,[(3,.own 9),(7,.keep),(8,.keep),(9,.keep)])] [(3,1,(kpL [3]))] [(3,spW zGl zGe (zl4 zbh) default zFN zFz)] []
theorem zE0 (zbh:At->Bool×ByteArray):zC (zuT zbh) (lp (body f154) 0):=zn (id:=3) (hl:=rfl)
def zvs (zbh:At->Bool×ByteArray) (l:yC):Wy0 (ByteArray):=.bn (zuY zbh (l.length+(Int.ofNat l.length).toNat +Int.toNat 0+0+1) l (Int.ofNat l.length) 0 []) λr5=>.bn (strings_Join r5 (ByteArray.mk #[(42:UInt8)])) λr4=>.k r4
def zgY (zbh:At->Bool×ByteArray) (l:yC):=(zvs zbh l).fin default
theorem zC2 (zbh:At->Bool×ByteArray) (zLH:Sound Tryz.prog zby 215 (zmi zbh)):Sound Tryz.prog zby 154 (zgL (zgY zbh)):=
 sU (cx':=(zuT zbh)) (zi ⟨ztB,zLH,zJs.nodr,trivial⟩) call154 func154 (lOK (aC (zE0 zbh) aN))
abbrev zuh:=Unit×yB×Int×Int×Unit
abbrev ztH:=List ByteArray×Unit
def zly (zV:yC->Bool×ByteArray) (t9:yB) (t10:Int) (t11:Int) (out_:List ByteArray):Wy zuh ztH (List ByteArray):=.i (decide (t11<t10)) (.ix t11 t9.length (.i (Int.ofNat (t9.getD t11.toNat default).Fs.length==0) (.bn (zjs (t9.getD t11.toNat default).Cf 10) λr0=>.i (decide ((out_.length+[r0].length)*16<=zD)) (.h ((),t9,t10,(IntKind.i64.wrap (t11+1)),()) ((out_++[r0]),())) .d) (.i ((t9.getD t11.toNat default).Cf==1) (.bn (zV (t9.getD t11.toNat default).Fs) λr1=>.i (decide ((out_.length+[r1].length)*16<=zD)) (.h ((),t9,t10,(IntKind.i64.wrap (t11+1)),()) ((out_++[r1]),())) .d) (.bn (zjs (t9.getD t11.toNat default).Cf 10) λr3=>.i (decide (r3.size+(ByteArray.mk #[(42:UInt8)]).size<=9223372036854775807)) (.bn (zV (t9.getD t11.toNat default).Fs) λr2=>.i (decide ((r3++ByteArray.mk #[(42:UInt8)]).size+r2.size<=9223372036854775807)) (.i (decide ((out_.length+[r3++ByteArray.mk #[(42:UInt8)]++r2].length)*16<=zD)) (.h ((),t9,t10,(IntKind.i64.wrap (t11+1)),()) ((out_++[r3++ByteArray.mk #[(42:UInt8)]++r2]),())) .d) .d) .d)))) (.k out_)
def zwW (zV:yC->Bool×ByteArray) (x:zuh) (y:ztH):=zly zV x.2.1 x.2.2.1 x.2.2.2.1 y.1
def zFc (zV:yC->Bool×ByteArray) (n:Nat) (t9:yB) (t10:Int) (t11:Int) (out_:List ByteArray):=zy (zwW zV) default n ((),t9,t10,t11,()) (out_,())
def zSQ (r:List ByteArray):LTree ty:=.done (.exit 0) [.own 200] [.arr 9 r false]
def zU6:LL ty zuh:=za (zeD 200) (za (lSl 107) (za zj (za zj zk)))
def zUe:BL ty ztH:=zeG 9 false (zY)
def zRI (x:zuh) (y:ztH):Nat:=(x.2.1.length+Int.toNat x.2.2.1+Int.toNat x.2.2.2.1+y.1.length+1)
def zFq (zV:yC->Bool×ByteArray):=zbV zby 50 [(44,zpf),(92,zuK),(154,(zgL zV))] [] [(5,[(3,.own 9),(9,.keep),(10,.keep),(11,.keep)])] [(5,1,(kpL [3]))] [(5,spW zU6 zUe (zwW zV) default zSQ zRI)] []
theorem zRw (zV:yC->Bool×ByteArray):zC (zFq zV) (lp (body f94) 0):=zn (id:=5) (hl:=rfl)
def zGK (zV:yC->Bool×ByteArray) (a:yB):Wy0 (ByteArray):=.i (Int.ofNat a.length==0) (.k (ByteArray.mk #[(48:UInt8)])) (.bn (zFc zV (a.length+(Int.ofNat a.length).toNat +Int.toNat 0+0+1) a (Int.ofNat a.length) 0 []) λr9=>.bn (strings_Join r9 (ByteArray.mk #[(32:UInt8),(43:UInt8),(32:UInt8)])) λr8=>.k r8)
def zpg (zV:yC->Bool×ByteArray) (a:yB):=(zGK zV a).fin default
theorem zOo (zV:yC->Bool×ByteArray) (zHF:Sound Tryz.prog zby 154 (zgL zV)):Sound Tryz.prog zby 94 (zpe (zpg zV)):=
 sU (cx':=(zFq zV)) (zi ⟨ztB,zBc.nodr,zHF,trivial⟩) call94 func94 (lOK (aC (zRw zV) aN))
def zG9:Nat->(yB->Bool×ByteArray)×(At->Bool×ByteArray)×(yC->Bool×ByteArray)
 | 0=>(λ_=>(false,default),λ_=>(false,default),λ_=>(false,default))
 | n+1=>(zpg ((zG9 n).2.2),zjg ((zG9 n).1),zgY ((zG9 n).2.1))
def zpL (n:Nat):yB->Bool×ByteArray:=(zG9 n).1
def zmj (n:Nat):At->Bool×ByteArray:=(zG9 n).2.1
def zgV (n:Nat):yC->Bool×ByteArray:=(zG9 n).2.2
theorem zU9 (n:Nat):zpL (n+1)=zpg (zgV n):=rfl
theorem zKg (n:Nat):zmj (n+1)=zjg (zpL n):=rfl
theorem zGg (n:Nat):zgV (n+1)=zgY (zmj n):=rfl
theorem zVh:∀ n,Sound Tryz.prog zby 94 (zpe (zpL n))/\Sound Tryz.prog zby 215 (zmi (zmj n))/\Sound Tryz.prog zby 154 (zgL (zgV n))
 | 0=>⟨zbl call94 (λ_=>rfl),zbl call215 (λ_=>rfl),zbl call154 (λ_=>rfl)⟩
 | n+1=>by
  have ih:=zVh n;exact ⟨zOo _ (ih.2.2),zGp _ (ih.1),zC2 _ (ih.2.1)⟩
def zPi:yB->Bool×ByteArray:=zpL 1000
def zFa:Ab.Spec ty:=zpe zPi
theorem zTh:Sound Tryz.prog zby 94 zFa:=(zVh 1000).1
def zrf:yC->Bool×ByteArray:=zgV 1000
def zuU:Ab.Spec ty:=zgL zrf
theorem zEX:Sound Tryz.prog zby 154 zuU:=(zVh 1000).2.2
def zUC:=zbp zby 8 [(52,zcz),(94,zFa)]
def zWH (a:yB):Wy0 (ByteArray):=.bn (zci a) λr1=>.i (!r1) (.k (ByteArray.mk #[])) (.bn (zPi a) λr0=>.k r0)
def zBh (a:yB):=(zWH a).fin default
def zCf:=zh z2f λx=>((zBh x.1).1,zW9 (zBh x.1).2)
theorem zOL:Sound Tryz.prog zby 46 zCf:=
 sU (cx':=zUC) (zi ⟨zcG.nodr,zTh,trivial⟩) call46 func46 (lOK aN)
def zW4:=zbp base 16 [(91,zrJ)]
def zI2 (p:pair):Wy0 (Bool):=.bn (zqA p.v) λr0=>.i (!r0) (.k true) (.k (p.v.Kind != p.c.Type_))
def zm0 (p:pair):=(zI2 p).fin default
def zYM:AL base (pair×Unit):=zd (ze (zb7 137)) zp
def zog:=zh zYM λx=>((zm0 x.1).1,zXz (zm0 x.1).2)
theorem zun:SdP 102 zog:=
 sT (cx':=zW4) (zi ⟨zvb,trivial⟩) call102 func102 (lOK aN)
abbrev zyX:=yH×Unit×yG×Int×Int×Unit
abbrev zzb:=List pair×Unit
def zEy (l:yH) (t8:yG) (t9:Int) (t10:Int) (out_:List pair):Wy zyX zzb (List pair):=.i (decide (t10<t9)) (.ix t10 t8.length (.ix t10 l.length (.i (decide ((out_.length+[pair.mk (l.getD t10.toNat default) (t8.getD t10.toNat default)].length)*56<=zD)) (.h (l,(),t8,t9,(IntKind.i64.wrap (t10+1)),()) ((out_++[pair.mk (l.getD t10.toNat default) (t8.getD t10.toNat default)]),())) .d))) (.k out_)
def zEP (x:zyX) (y:zzb):=zEy x.1 x.2.2.1 x.2.2.2.1 x.2.2.2.2.1 y.1
def zEC (n:Nat) (l:yH) (t8:yG) (t9:Int) (t10:Int) (out_:List pair):=zy (zEP) default n (l,(),t8,t9,t10,()) (out_,())
def z34 (r:List pair):LTree ty:=.done (.exit 0) [.own 104] [.arr 137 r false]
def z6S:LL ty zyX:=za (lSl 75) (za (zeD 104) (za (lSl 79) (za zj (za zj zk))))
def z5X:BL ty zzb:=zeG 137 false (zY)
def z4m (x:zyX) (y:zzb):Nat:=(x.1.length+x.2.2.1.length+Int.toNat x.2.2.2.1+Int.toNat x.2.2.2.2.1+y.1.length+1000)
def zPx:=zbV base 26 [] [] [(3,[(0,.keep),(5,.own 137),(8,.keep),(9,.keep),(10,.keep)])] [(3,1,(kpL [5]))] [(3,spW z6S z5X (zEP) default z34 z4m)] []
theorem z3K:zC zPx (lp (body f101) 0):=zn (id:=3) (hl:=rfl)
def zRs (l:yH) (row:yG):Wy0 (List pair):=.bn (zEC (l.length+row.length+(Int.ofNat row.length).toNat +Int.toNat 0+0+1000) l row (Int.ofNat row.length) 0 []) λr0=>.k r0
def zAb (l:yH) (row:yG):=(zRs l row).fin default
def z4b (r:List pair):ARes ty:=⟨[.own 137 r],[]⟩
def z8c:AL base (yH×yG×Unit):=zd (ze (vSl 75)) (zd (ze (vSl 79)) zp)
def zKC:=zh z8c λx=>((zAb x.1 x.2.1).1,z4b (zAb x.1 x.2.1).2)
theorem zZ3:SdP 101 zKC:=
 sT (cx':=zPx) (zi trivial) call101 func101 (lOK (aC z3K aN)) (sg:=⟨[.own 137],[]⟩)
abbrev zdu:=List pair×Unit×Int×Int×Unit
def zpj (s:List pair) (t7:Int) (t8:Int):Wy zdu Unit (Int⊕Unit):=.i (decide (t8<t7)) (.ix t8 s.length (.bn (zm0 (s.getD t8.toNat default)) λr0=>.i (r0) (.k (.inl t8)) (.h (s,(),t7,(IntKind.i64.wrap (t8+1)),()) ()))) (.k (.inr ()))
def zhi (x:zdu) (y:Unit):=zpj x.1 x.2.2.1 x.2.2.2.1
def zpk (n:Nat) (s:List pair) (t7:Int) (t8:Int):=zy (zhi) (.inl default) n (s,(),t7,t8,()) ()
def zpw:LL ty zdu:=za (lSl 137) (za (lFn 102 (zk)) (za zj (za zj zk)))
def zoO (x:zdu) (y:Unit):Nat:=(x.1.length+Int.toNat x.2.2.1+Int.toNat x.2.2.2.1+1000)
def zhm:=zbV base 19 [(102,zog)] [] [(2,(kpL [0,1,7,8]))] [(2,1,[]),(2,0,(kpL [4]))] [(2,spW zpw zbaJ (zhi) (.inl default) zsB zoO)] []
theorem zo8:zC zhm (lp (body f158) 0):=zn (id:=2) (hl:=rfl)
def zpZ (s:List pair):Wy0 (Int):=.bn (zpk (s.length+(Int.ofNat s.length).toNat +Int.toNat 0+1000) s (Int.ofNat s.length) 0) λr2=>.i (isL r2) (.k (getL r2)) (.k (-1:Int))
def zdd (s:List pair):=(zpZ s).fin default
def zpQ:AL base (List pair×Unit×Unit):=zd (ze (vSl 137)) (zd (ze (vFn 102 zdg)) zp)
def zgK:=zh zpQ λx=>((zdd x.1).1,zQ3 (zdd x.1).2)
theorem znM:SdP 158 zgK:=
 sT (cx':=zhm) (zi ⟨zun,trivial⟩) call158 func158 (lOK (aC zo8 aN))
def zn2:=zbp base 9 [(102,zog),(158,zgK)]
def zgI (s:List pair):Wy0 (Bool):=.bn (zdd s) λr0=>.k (decide (r0≥0))
def zca (s:List pair):=(zgI s).fin default
def zfY:=zh zpQ λx=>((zca x.1).1,zXz (zca x.1).2)
theorem zmG:SdP 100 zfY:=
 sT (cx':=zn2) (zi ⟨zun,znM,trivial⟩) call100 func100 (lOK aN)
def z32:=zbp base 17 [(100,zfY),(101,zKC),(102,zog)]
def zO6 (l:yH) (row:yG):Wy0 (Bool):=.i (Int.ofNat l.length==Int.ofNat row.length) (.bn (zAb l row) λr1=>.bn (zca r1) λr0=>.k (!r0)) (.k false)
def ztd (l:yH) (row:yG):=(zO6 l row).fin default
def zAm:=zh z8c λx=>((ztd x.1 x.2.1).1,zXz (ztd x.1 x.2.1).2)
theorem zGr:SdP 51 zAm:=
 sT (cx':=z32) (zi ⟨zmG,zZ3,zun,trivial⟩) call51 func51 (lOK aN)
def z7q:=zbp base 2 []
def zbbn:Wy0 (List ByteArray):=.k [ByteArray.mk #[(73:UInt8),(78:UInt8),(84:UInt8),(69:UInt8),(71:UInt8),(69:UInt8),(82:UInt8)],ByteArray.mk #[(84:UInt8),(69:UInt8),(88:UInt8),(84:UInt8)],ByteArray.mk #[(66:UInt8),(79:UInt8),(79:UInt8),(76:UInt8),(69:UInt8),(65:UInt8),(78:UInt8)]]
def zH0:Bool×List ByteArray:=(zbbn).fin default
def zNj:=zh z9e λx=>((zH0 ).1,zMi (zH0 ).2)
theorem z1S:SdP 87 zNj:=
 sT (cx':=z7q) (zi trivial) call87 func87 (lOK aN) (sg:=⟨[.own 9],[]⟩)
def z2b:=zbp base 13 [(87,zNj)]
def zDl (kind:Int):Wy0 (ByteArray):=.i (decide (kind<0)) (.k (ByteArray.mk #[])) (.i (decide (kind>2)) (.k (ByteArray.mk #[])) (.ix kind zH0.2.length (.k (zH0.2.getD kind.toNat default))))
def zq8 (kind:Int):=(zDl kind).fin default
def zyA:=zh z16 λx=>((zq8 x.1).1,zW9 (zq8 x.1).2)
theorem zFM:SdP 43 zyA:=
 sT (cx':=z2b) (zi ⟨z1S,trivial⟩) call43 func43 (lOK aN)
def zJr:=zbp base 7 [(43,zyA)]
def zo9 (c:Column):Wy0 (Bool):=.bn (zq8 c.Type_) λr0=>.k (r0.toList==(ByteArray.mk #[]).toList)
def zb8 (c:Column):=(zo9 c).fin default
def zKh:AL base (Column×Unit):=zd (ze (zb7 75)) zp
def zib:=zh zKh λx=>((zb8 x.1).1,zXz (zb8 x.1).2)
theorem zls:SdP 99 zib:=
 sT (cx':=zJr) (zi ⟨zFM,trivial⟩) call99 func99 (lOK aN)
abbrev zez:=yH×Unit×Int×Int×Unit
def zt4 (s:yH) (t7:Int) (t8:Int):Wy zez Unit (Int⊕Unit):=.i (decide (t8<t7)) (.ix t8 s.length (.bn (zb8 (s.getD t8.toNat default)) λr0=>.i (r0) (.k (.inl t8)) (.h (s,(),t7,(IntKind.i64.wrap (t8+1)),()) ()))) (.k (.inr ()))
def zjC (x:zez) (y:Unit):=zt4 x.1 x.2.2.1 x.2.2.2.1
def zub (n:Nat) (s:yH) (t7:Int) (t8:Int):=zy (zjC) (.inl default) n (s,(),t7,t8,()) ()
def zte:LL ty zez:=za (lSl 75) (za (lFn 99 (zk)) (za zj (za zj zk)))
def zs3 (x:zez) (y:Unit):Nat:=(x.1.length+Int.toNat x.2.2.1+Int.toNat x.2.2.2.1+1000)
def zjy:=zbV base 19 [(99,zib)] [] [(2,(kpL [0,1,7,8]))] [(2,1,[]),(2,0,(kpL [4]))] [(2,spW zte zbaJ (zjC) (.inl default) zsB zs3)] []
theorem zsF:zC zjy (lp (body f157) 0):=zn (id:=2) (hl:=rfl)
def zuC (s:yH):Wy0 (Int):=.bn (zub (s.length+(Int.ofNat s.length).toNat +Int.toNat 0+1000) s (Int.ofNat s.length) 0) λr2=>.i (isL r2) (.k (getL r2)) (.k (-1:Int))
def zee (s:yH):=(zuC s).fin default
def zuB:AL base (yH×Unit×Unit):=zd (ze (vSl 75)) (zd (ze (vFn 99 zdg)) zp)
def ziQ:=zh zuB λx=>((zee x.1).1,zQ3 (zee x.1).2)
theorem zry:SdP 157 ziQ:=
 sT (cx':=zjy) (zi ⟨zls,trivial⟩) call157 func157 (lOK (aC zsF aN))
def zrC:=zbp base 9 [(99,zib),(157,ziQ)]
def ziN (s:yH):Wy0 (Bool):=.bn (zee s) λr0=>.k (decide (r0≥0))
def zcB (s:yH):=(ziN s).fin default
def zhB:=zh zuB λx=>((zcB x.1).1,zXz (zcB x.1).2)
theorem zps:SdP 98 zhB:=
 sT (cx':=zrC) (zi ⟨zls,zry,trivial⟩) call98 func98 (lOK aN)
def zM4:=zbp base 11 [(98,zhB),(99,zib)]
def zBb (l:yH):Wy0 (Bool):=.i (decide (Int.ofNat l.length<=16)) (.bn (zcB l) λr0=>.k (!r0)) (.k false)
def zhY (l:yH):=(zBb l).fin default
def zOv:AL base (yH×Unit):=zd (ze (vSl 75)) zp
def zpa:=zh zOv λx=>((zhY x.1).1,zXz (zhY x.1).2)
theorem zwl:SdP 50 zpa:=
 sT (cx':=zM4) (zi ⟨zps,zls,trivial⟩) call50 func50 (lOK aN)
abbrev zu3:=Unit×yF×Int×Int×Unit
abbrev zpm:=Relation×Unit
def zpG (t16:yF) (t17:Int) (t18:Int) (r:Relation):Wy zu3 zpm (Bool⊕Unit):=.i (decide (t18<t17)) (.ix t18 t16.length (.bn (ztd r.Columns (t16.getD t18.toNat default).Values) λr2=>.i (!r2) (.k (.inl false)) (.i (Int.ofNat (t16.getD t18.toNat default).Ann.length==0) (.k (.inl false)) (.bn (zci (t16.getD t18.toNat default).Ann) λr1=>.i (!r1) (.k (.inl false)) (.i (decide (t18>0)) (.ix (IntKind.i64.wrap (t18 - 1)) r.Rows.length (.bn (zcA (r.Rows.getD (IntKind.i64.wrap (t18 - 1)).toNat default) (t16.getD t18.toNat default)) λr0=>.i (decide (r0≥0)) (.k (.inl false)) (.h ((),t16,t17,(IntKind.i64.wrap (t18+1)),()) (r,())))) (.h ((),t16,t17,(IntKind.i64.wrap (t18+1)),()) (r,()))))))) (.k (.inr ()))
def zBk (x:zu3) (y:zpm):=zpG x.2.1 x.2.2.1 x.2.2.2.1 y.1
def zKX (n:Nat) (t16:yF) (t17:Int) (t18:Int) (r:Relation):=zy (zBk) (.inl default) n ((),t16,t17,t18,()) (r,())
def z1H:LL ty zu3:=za (zcm 228 0) (za (lSl 54) (za zj (za zj zk)))
def z11:BL ty zpm:=zdx (zdi (λx=>(⟨x.1,x.2.1⟩:Relation)) (λx=>(x.Columns,x.Rows,())) (λ_=>rfl) (za (lSl 75) (za (lSl 54) zk))) false (zY)
def zXJ (x:zu3) (y:zpm):Nat:=(x.2.1.length+Int.toNat x.2.2.1+Int.toNat x.2.2.2.1+y.1.Columns.length+y.1.Rows.length+1000)
def zK0:=zbV base 57 [(50,zpa),(51,zAm),(52,zcz),(53,zfV)] [] [(4,(kpL [1,16,17,18]))] [(4,1,[]),(4,0,(kpL [2]))] [(4,spW z1H z11 (zBk) (.inl default) znV zXJ)] []
theorem zZ6:zC zK0 (lp (body f14) 0):=zn (id:=4) (hl:=rfl)
def zM1 (r:Relation):Wy0 (Bool):=.bn (zhY r.Columns) λr7=>.i (!r7) (.k false) (.i (decide (Int.ofNat r.Rows.length>1024)) (.k false) (.bn (zKX (r.Rows.length+(Int.ofNat r.Rows.length).toNat +Int.toNat 0+r.Columns.length+r.Rows.length+1000) r.Rows (Int.ofNat r.Rows.length) 0 r) λr6=>.i (isL r6) (.k (getL r6)) (.k true)))
def zkD (r:Relation):=(zM1 r).fin default
def z3r:AL base zpm:=zd (ze (zb7 25)) zp
def zmD:=zh z3r λx=>((zkD x.1).1,zXz (zkD x.1).2)
theorem zqn:SdP 14 zmD:=
 sT (cx':=zK0) (zi ⟨zwl,zGr,zcG,zhd,trivial⟩) call14 func14 (lOK (aC zZ6 aN))
abbrev ztT:=Unit×Unit×yH×Int×Int×Unit
abbrev ztK:=Relation×List ByteArray×Unit
abbrev zI1:=Relation×List ByteArray
abbrev zt6:=Unit×Unit×Unit×yF×Int×Int×yG×Int×Int×Unit
abbrev ztA:=List ByteArray×Row×List ByteArray×Unit
abbrev zJD:=yF×Int×Int×List ByteArray×Row×List ByteArray
abbrev zuf:=Unit×yF×Int×Int×Unit
abbrev zt2:=List ByteArray×Unit
def z0u (t16:yH) (t17:Int) (t18:Int) (r:Relation) (head:List ByteArray):Wy ztT ztK zI1:=.i (decide (t18<t17)) (.ix t18 t16.length (.i (decide ((t16.getD t18.toNat default).Name.size+(ByteArray.mk #[(32:UInt8)]).size<=9223372036854775807)) (.bn (zq8 (t16.getD t18.toNat default).Type_) λr2=>.i (decide (((t16.getD t18.toNat default).Name++ByteArray.mk #[(32:UInt8)]).size+r2.size<=9223372036854775807)) (.i (decide ((head.length+[(t16.getD t18.toNat default).Name++ByteArray.mk #[(32:UInt8)]++r2].length)*16<=zD)) (.h ((),(),t16,t17,(IntKind.i64.wrap (t18+1)),()) (r,(head++[(t16.getD t18.toNat default).Name++ByteArray.mk #[(32:UInt8)]++r2]),())) .d) .d) .d)) (.k (r,head))
def zIE (x:ztT) (y:ztK):=z0u x.2.2.1 x.2.2.2.1 x.2.2.2.2.1 y.1 y.2.1
def zZY (n:Nat) (t16:yH) (t17:Int) (t18:Int) (r:Relation) (head:List ByteArray):=zy (zIE) default n ((),(),t16,t17,t18,()) (r,head,())
def zXh (r:zI1):LTree ty:=.done (.exit 0) [.ptr 272 0,.own 273] [.box (base.enc 25 r.1) false,.arr 9 r.2 false]
def zX7:LL ty ztT:=za (zcm 272 0) (za (zeD 273) (za (lSl 75) (za zj (za zj zk))))
def zX2:BL ty ztK:=zdx (zdi (λx=>(⟨x.1,x.2.1⟩:Relation)) (λx=>(x.Columns,x.Rows,())) (λ_=>rfl) (za (lSl 75) (za (lSl 54) zk))) false (zeG 9 false (zY))
def zXu (t37:yF) (t38:Int) (t39:Int) (t44:yG) (t45:Int) (t46:Int) (out_:List ByteArray) (x_:Row) (l:List ByteArray):Wy zt6 ztA zJD:=.i (decide (t46<t45)) (.ix t46 t44.length (.bn (zrB (t44.getD t46.toNat default)) λr4=>.i (decide ((l.length+[r4].length)*16<=zD)) (.h ((),(),(),t37,t38,t39,t44,t45,(IntKind.i64.wrap (t46+1)),()) (out_,x_,(l++[r4]),())) .d)) (.k (t37,t38,t39,out_,x_,l))
def zGE (x:zt6) (y:ztA):=zXu x.2.2.2.1 x.2.2.2.2.1 x.2.2.2.2.2.1 x.2.2.2.2.2.2.1 x.2.2.2.2.2.2.2.1 x.2.2.2.2.2.2.2.2.1 y.1 y.2.1 y.2.2.1
def zWZ (n:Nat) (t37:yF) (t38:Int) (t39:Int) (t44:yG) (t45:Int) (t46:Int) (out_:List ByteArray) (x_:Row) (l:List ByteArray):=zy (zGE) default n ((),(),(),t37,t38,t39,t44,t45,t46,()) (out_,x_,l,())
def zU5 (r:zJD):LTree ty:=.done (.exit 4) [.own 272,.ptr 273 0,.own 274,.sl 54 r.1,.lit (.int .i64 r.2.1),.lit (.int .i64 r.2.2.1)] [.arr 9 r.2.2.2.1 false,.box (base.enc 54 r.2.2.2.2.1) false,.arr 9 r.2.2.2.2.2 false]
def zW5:LL ty zt6:=za (zeD 272) (za (zcm 273 0) (za (zeD 274) (za (lSl 54) (za zj (za zj (za (lSl 79) (za zj (za zj zk))))))))
def zWF:BL ty ztA:=zeG 9 false (zdx (zdi (λx=>(⟨x.1,x.2.1⟩:Row)) (λx=>(x.Values,x.Ann,())) (λ_=>rfl) (za (lSl 79) (za (lSl 107) zk))) false (zeG 9 false (zY)))
def zXi (t37:yF) (t38:Int) (t39:Int) (out_:List ByteArray):Wy zuf zt2 (List ByteArray):=.i (decide (t39<t38)) (.ix t39 t37.length (.bn (zWZ (t37.length+t38.toNat +t39.toNat +(t37.getD t39.toNat default).Values.length+(Int.ofNat (t37.getD t39.toNat default).Values.length).toNat +Int.toNat 0+out_.length+(t37.getD t39.toNat default).Values.length+(t37.getD t39.toNat default).Ann.length+0+1000) t37 t38 t39 (t37.getD t39.toNat default).Values (Int.ofNat (t37.getD t39.toNat default).Values.length) 0 out_ (t37.getD t39.toNat default) []) λr8=>.bn (strings_Join r8.2.2.2.2.2 (ByteArray.mk #[(44:UInt8),(32:UInt8)])) λr7=>.i (decide (r7.size+(ByteArray.mk #[(32:UInt8),(124:UInt8),(32:UInt8)]).size<=9223372036854775807)) (.bn (zBh r8.2.2.2.2.1.Ann) λr6=>.i (decide ((r7++ByteArray.mk #[(32:UInt8),(124:UInt8),(32:UInt8)]).size+r6.size<=9223372036854775807)) (.i (decide ((r8.2.2.2.1.length+[r7++ByteArray.mk #[(32:UInt8),(124:UInt8),(32:UInt8)]++r6].length)*16<=zD)) (.h ((),(r8.1),(r8.2.1),(IntKind.i64.wrap (r8.2.2.1+1)),()) ((r8.2.2.2.1++[r7++ByteArray.mk #[(32:UInt8),(124:UInt8),(32:UInt8)]++r6]),())) .d) .d) .d)) (.k out_)
def zGB (x:zuf) (y:zt2):=zXi x.2.1 x.2.2.1 x.2.2.2.1 y.1
def zWg (n:Nat) (t37:yF) (t38:Int) (t39:Int) (out_:List ByteArray):=zy (zGB) default n ((),t37,t38,t39,()) (out_,())
def zVb (r:List ByteArray):LTree ty:=.done (.exit 2) [.own 272] [.arr 9 r false]
def zV8:LL ty zuf:=za (zeD 272) (za (lSl 54) (za zj (za zj zk)))
def zWB:BL ty zt2:=zeG 9 false (zY)
def zV7 (x:ztT) (y:ztK):Nat:=(x.2.2.1.length+Int.toNat x.2.2.2.1+Int.toNat x.2.2.2.2.1+y.1.Columns.length+y.1.Rows.length+y.2.1.length+1000)
def zUB (x:zt6) (y:ztA):Nat:=(x.2.2.2.1.length+Int.toNat x.2.2.2.2.1+Int.toNat x.2.2.2.2.2.1+x.2.2.2.2.2.2.1.length+Int.toNat x.2.2.2.2.2.2.2.1+Int.toNat x.2.2.2.2.2.2.2.2.1+y.1.length+y.2.1.Values.length+y.2.1.Ann.length+y.2.2.1.length+1000)
def zUk (x:zuf) (y:zt2):Nat:=(x.2.1.length+Int.toNat x.2.2.1+Int.toNat x.2.2.2.1+y.1.length+1000)
def ztV:=zbV zby 68 [(14,zmD),(43,zyA),(44,zpf),(45,zBj),(46,zCf)] [] [(5,[(1,.keep),(3,.own 9),(16,.keep),(17,.keep),(18,.keep)]),(11,(kpL [6,37,38,39])),(15,[(6,.keep),(8,.keep),(9,.own 9),(37,.keep),(38,.keep),(39,.keep),(44,.keep),(45,.keep),(46,.keep)])] [(5,1,(kpL [1,3])),(11,3,(kpL [6])),(15,5,(kpL [6,8,9,37,38,39]))] [(5,spW zX7 zX2 (zIE) default zXh zV7),(15,spW zW5 zWF (zGE) default zU5 zUB),(11,spW zV8 zWB (zGB) default zVb zUk)] []
theorem zWw:zC ztV (lp (body f12) 0):=zn (id:=5) (hl:=rfl)
theorem zT9:zC ztV (lp (body f12) 2):=zn (id:=15) (hl:=rfl)
theorem zVd:zC ztV (lp (body f12) 1):=zn (id:=11) (hl:=rfl)
def z1r (r:Relation):Wy0 (List ByteArray):=.bn (zkD r) λr15=>.i (!r15) (.k []) (.bn (zZY (r.Columns.length+(Int.ofNat r.Columns.length).toNat +Int.toNat 0+r.Columns.length+r.Rows.length+0+1000) r.Columns (Int.ofNat r.Columns.length) 0 r []) λr14=>.bn (strings_Join r14.2 (ByteArray.mk #[(44:UInt8),(32:UInt8)])) λr13=>.bn (zWg (r14.1.Rows.length+(Int.ofNat r14.1.Rows.length).toNat +Int.toNat 0+[r13].length+1000) r14.1.Rows (Int.ofNat r14.1.Rows.length) 0 [r13]) λr12=>.k r12)
def zPj (r:Relation):=(z1r r).fin default
def z1T:AL zby (Relation×Unit):=zd (ze (zb7 25)) zp
def zFB:=zh z1T λx=>((zPj x.1).1,zMi (zPj x.1).2)
theorem zSY:Sound Tryz.prog zby 12 zFB:=
 sU (cx':=ztV) (zi ⟨zqn.nodr,zFM.nodr,ztB,zIQ,zOL,trivial⟩) call12 func12 (lOK (aC zWw (aC zVd (aC zT9 aN)))) (sg:=⟨[.own 9],[]⟩)
def zLt (k:Go.Value) (l:List (Go.Value×Int)):Option Int:=zTC (ty:=ty) (V:=3) k l
def zbgH (k:Go.Value) (l:List (Go.Value×Int)):Bool:=zJ4 (ty:=ty) (V:=3) k l
def zbgS (k:Go.Value) (x:Int) (l:List (Go.Value×Int)):List (Go.Value×Int):=zHk (ty:=ty) (V:=3) k x l
def zld (x:yB) (a b lim:Int):Bool×yB:=z8d zb4 x a b lim
def zAB:Ab.Spec ty:=zh (cx:=base) (zd (zsC 107) (zd (ze (zgS .i64)) (zd (ze (zgS .i64)) (zd (ze (zgS .i64)) (zd (ze (vFn 104 zdg)) zp))))) λx=>((zld x.1 x.2.1 x.2.2.1 x.2.2.2.1).1,⟨[],[some ⟨107,(zld x.1 x.2.1 x.2.2.1 x.2.2.2.1).2⟩]⟩)
theorem zBP (c:Unit) (x y:Term) (h:(zb4 x y).1=true):ziT ((AV.agg (base.enc 107 x)::AV.agg (base.enc 107 y)::(zdg:VL base Unit).enc c).map Arg.pure)=some (true,⟨[.pure (.lit (.int .i64 (zb4 x y).2))],[]⟩):=by
 rw [<- h]; kernel_rfl
theorem zz9:SdP 231 zAB:=by
 letI:DecidableEq (ty 107):=inferInstanceAs (DecidableEq Term)
 exact zbg0 (T:=107) ze3 rfl Go.Proofs.Tryz.pdqTerm Tryz.isAgg107 (by unfold zt; exact Tryz.sizeOf107) call231 zl5 zdg (λc=>zb4) zBP
open Go.Proofs Go.RowKit
def zbQ (x:yB):Bool×yB:=zbb8 zb4 x
def zfj:Ab.Spec ty:=zh (cx:=base) (zd (zsC 107) (zd (ze (vFn 104 zdg)) zp)) λx=>((zbQ x.1).1,⟨[],[some ⟨107,(zbQ x.1).2⟩]⟩)
set_option maxHeartbeats 1000000 in
theorem zt7:SdP 192 zfj where
 enters:=call192
 calls:=λavs r hsp w F vs hF ha hsep=>by
  unfold zfj zh at hsp;split at hsp
  ·rename_i x hx;simp only [q0,qe] at hsp;obtain ⟨hpre,rfl⟩:=hsp;have hk:=(zd (zsC 107) (zd (ze (vFn 104 zdg)) zp):AL base _).kind vs avs x hx;have ha':=(zd (zsC 107) (zd (ze (vFn 104 zdg)) zp):AL base _).ok Tryz.prog ze3 F w vs avs x hx ha;rw [hk] at hsep ⊢;clear hk hx ha;obtain ⟨l0,c,u0⟩:=x;obtain ⟨l,rfl⟩:∃ l:yB,l=l0:=⟨l0,rfl⟩;obtain ⟨v,vs',rfl,hv,hv'⟩:=ha'.inv;obtain ⟨fv,vs'',rfl,hfv,h0⟩:=hv'.inv;obtain rfl:=h0.nil_left.1
   have hsl:∃ p cap,v=.slice p l.length cap:=by
    obtain ⟨⟨xs,hown,_⟩,_⟩:=(show zdp base F w v 107 l/\∀ b,zbj v=some b->¬ F b from hv)
    rcases hown.2 with ⟨h1,h2⟩ | ⟨g0,cap,cur,h1,_⟩
    ·exact ⟨none,0,by rw [h1,show l.length=0 from h2]⟩
    ·exact ⟨_,cap,h1⟩
   have hok:SortOK (α:=Term) zb4 l:=of_decide_eq_true (p:=SortOK (α:=Term) zb4 l) hpre;have hlen:l.length<4611686018427387904:=hok.size;have hbl:Lib.bitLen l.length<4611686018427387904:=Nat.lt_of_le_of_lt (Lib.bitLen_le l.length 62 (by omega) (by omega)) (by omega)
   have hpp:(zld l 0 (l.length:Int) ((Lib.bitLen l.length:Nat):Int)).1=true:=by
    show (decide (SortOK (α:=Term) zb4 l)&&(decide ((0:Int)=0)&&(decide ((l.length:Int)=l.length)&&(decide ((0:Int)<=((Lib.bitLen l.length:Nat):Int))&&decide (((Lib.bitLen l.length:Nat):Int)<4611686018427387904)))))=true;simp only [qa,qb];exact ⟨hok,trivial,trivial,by omega,by omega⟩
   have hp:=(zz9).calls [.own 107 l,.pure (.lit (.int .i64 0)),.pure (.lit (.int .i64 (l.length:Int))),.pure (.lit (.int .i64 ((Lib.bitLen l.length:Nat):Int))),.pure (.fn 104 [])] ⟨[],[some ⟨107,(zbQ l).2⟩]⟩
    (by rw [<- hpp]; kernel_rfl) w F [v,.int .i64 0,.int .i64 (l.length:Int),.int .i64 ((Lib.bitLen l.length:Nat):Int),fv] hF (.cons hv (.cons (Rep.lit _) (.cons (Rep.lit _) (.cons (Rep.lit _) (.cons hfv .nil))))) hsep
   replace hp:Calls Tryz.prog 231 #[v,.int .i64 0,.int .i64 (l.length:Int),.int .i64 ((Lib.bitLen l.length:Nat):Int),fv] w λe w'=>∃ u,e=.returned u/\Post base F w [v] ⟨[],[some ⟨107,(zbQ l).2⟩]⟩ u w':=hp
   show Calls Tryz.prog 192 #[v,fv] w λe w'=>∃ u,e=.returned u/\Post base F w [v] ⟨[],[some ⟨107,(zbQ l).2⟩]⟩ u w'
   have hb:Calls Tryz.prog 205 #[.int .u64 (l.length:Int)] w λe w'=>e=.returned (.int .i64 ((Lib.bitLen l.length:Nat):Int))/\w'=w:=by
    have h:=Any.bits_Len Go.Proofs.Tryz.lays125 (l.length:Int) w (by omega) (by omega)
    rwa [qt] at h
   have wr:IntKind.u64.wrap (l.length:Int)=l.length:=by simp [IntKind.wrap,IntKind.bits,IntKind.signed]; omega
   generalize (zbQ l).2=res at hp ⊢;generalize hn:l.length=m at *;generalize Lib.bitLen m=bl at *;clear hpp hv hfv hsep hok hpre hF;obtain ⟨p,cap,rfl⟩:=hsl;clear hn
   go_enter func192,ntmps192
   go_wp2_with (first | (go_at_call 205; refine hb.mono ?_; rintro e w' ⟨rfl,rfl⟩) | (go_at_call 231; refine hp.mono ?_; rintro e w' ⟨u,rfl,hpost⟩; obtain rfl:=hpost.unit))
   go_end0
   exact ⟨_,rfl,hpost⟩
  ·cases hsp
end Go.Proofs.YtoknknbmfmddbaaGreatDoor
namespace Go.Proofs.YtoknknbmfmddbaaGreatDoor
open Go Go.Ab
open Go.Proofs.Tryz
abbrev zoy:=Unit×Unit×yB×Int×Int×Unit
abbrev zor:=(List (_root_.Go.Value×Int))×yB×Unit
def zky (t11:yB) (t12:Int) (t13:Int) (at_:List (_root_.Go.Value×Int)) (out_:yB):Wy zoy zor (yB):=.i (decide (t13<t12)) (.ix t13 t11.length (.bn (zrf (t11.getD t13.toNat default).Fs) λr0=>.i (zbgH (Value.string r0) at_) (.ix ((zLt (Value.string r0) at_).getD 0) out_.length (.ix ((zLt (Value.string r0) at_).getD 0) out_.length (.i (decide (Int.toNat ((zLt (Value.string r0) at_).getD 0)<out_.length)) (.h ((),(),t11,t12,(IntKind.i64.wrap (t13+1)),()) (at_,(out_.set (Int.toNat ((zLt (Value.string r0) at_).getD 0)) (TO.mk (if 1152921504606846976<IntKind.i64.wrap ((out_.getD (Int.toNat ((zLt (Value.string r0) at_).getD 0)) default).Cf+(t11.getD t13.toNat default).Cf) then 1152921504606846976 else IntKind.i64.wrap ((out_.getD (Int.toNat ((zLt (Value.string r0) at_).getD 0)) default).Cf+(t11.getD t13.toNat default).Cf)) (out_.getD (Int.toNat ((zLt (Value.string r0) at_).getD 0)) default).Fs)),())) .d))) (.i (decide ((out_.length+[t11.getD t13.toNat default].length)*32<=zD)) (.h ((),(),t11,t12,(IntKind.i64.wrap (t13+1)),()) ((zbgS (Value.string r0) (Int.ofNat out_.length) at_),(out_++[t11.getD t13.toNat default]),())) .d))) (.k out_)
def zvH (x:zoy) (y:zor):=zky x.2.2.1 x.2.2.2.1 x.2.2.2.2.1 y.1 y.2.1
def zvv (n:Nat) (t11:yB) (t12:Int) (t13:Int) (at_:List (_root_.Go.Value×Int)) (out_:yB):=zy (zvH) default n ((),(),t11,t12,t13,()) (at_,out_,())
def zQe (r:yB):LTree ty:=.done (.exit 0) [.own 208] [.arr 107 r false]
def zSa:LL ty zoy:=za (lMp 208) (za (zeD 209) (za (lSl 107) (za zj (za zj zk))))
def zSv:BL ty zor:=bMp 9 3 false (zeG 107 false (zY))
def zQT (x:zoy) (y:zor):Nat:=(x.2.2.1.length+Int.toNat x.2.2.2.1+Int.toNat x.2.2.2.2.1+y.1.length+y.2.1.length+1)
def zDx:=zbV zby 52 [(104,ziT),(154,zuU),(192,zfj)] [(192,[true,false])] [(4,[(3,.keep),(4,.own 107),(11,.keep),(12,.keep),(13,.keep)])] [(4,1,(kpL [4]))] [(4,spW zSa zSv (zvH) default zQe zQT)] []
theorem zP2:zC zDx (lp (body f125) 0):=zn (id:=4) (hl:=rfl)
def zE2 (terms:yB):Wy0 (yB):=.bn (zvv (terms.length+(Int.ofNat terms.length).toNat +Int.toNat 0+0+0+1) terms (Int.ofNat terms.length) 0 [] []) λr3=>.bn (zbQ r3) λr2=>.k r2
def zis (terms:yB):=(zE2 terms).fin default
def zsK:=zh z2f λx=>((zis x.1).1,z7K (zis x.1).2)
theorem zAa:Sound Tryz.prog zby 125 zsK:=
 sU (cx':=zDx) (zi ⟨zl5.nodr,zEX,zt7.nodr,trivial⟩) call125 func125 (lOK (aC zP2 aN)) (sg:=⟨[.own 107],[]⟩)
def zms (F:yB->Bool×yB):Ab.Spec ty:=zh zY9 λx=>((F x.1).1,z7K (F x.1).2)
def zLv (r:At):ARes ty:=⟨[.pure (.agg (base.enc 143 r))],[]⟩
def zmm (F:At->Bool×At):Ab.Spec ty:=zh zbcy λx=>((F x.1).1,zLv (F x.1).2)
def zeP:Cx ty:={ base with nt:=8 }
def zfo (s:yC):Bool×yC:=(decide (s.length*128<=zD),s)
def zla:Ab.Spec ty:=zh (cx:=base) (zd (ze (vSl 145)) zp) λx=>((zfo x.1).1,⟨[.own 145 (zfo x.1).2],[]⟩)
theorem zyf:zeQ zeP f132 (body f132) ⟨[.own 145],[]⟩ [.pure (.lit (.slice none 0 0))]=some ⟨[.own 145 []],[]⟩:=by kernel_rfl
theorem zv9 (p:Addr) (c:Nat):zeQ zeP f132 (body f132) ⟨[.own 145],[]⟩ [.pure (.lit (.slice (some p) 0 c))]=some ⟨[.own 145 []],[]⟩:=by kernel_rfl
theorem zxp (l:yC):zeQ zeP f132 (body f132) ⟨[.own 145],[]⟩ [.pure (.sl 145 l)]=bif !l.isEmpty then bif decide ((([]:List (ty 145)).length+l.length)*128<=zD) then some ⟨[.own 145 l],[]⟩ else none else none:=by kernel_rfl
theorem zv5:SdP 132 zla:=
 zyo (cx':=zeP) (bytes:=128) zCq ze3 ⟨⟨rfl,rfl,rfl,rfl,rfl,rfl⟩,rfl⟩ (λg s h=>by cases h) call132 func132 (c:=body f132) (by kernel_rfl) (ztx (l:=[]) (by kernel_rfl) trivial) zyf zv9 zxp (by kernel_rfl)
abbrev zp3:=Unit×Unit×Unit×yB×Int×Int×Int×Int×Unit
abbrev zqg:=yB×Term×yC×Unit
abbrev zE4:=yB×Int×Int×yB×Term×yC
abbrev zqm:=Unit×yB×Int×Int×Unit
abbrev zp8:=yB×Unit
def zjU (zK:At->Bool×At) (t8:yB) (t9:Int) (t10:Int) (t18:Int) (t19:Int) (out_:yB) (t:Term) (factors:yC):Wy zp3 zqg zE4:=.i (decide (t19<t18)) (.ix t19 factors.length (.bn (zK (At.et ((factors.getD t19.toNat default).At))) λr2=>.ix t19 factors.length (.i (decide (t19.toNat<factors.length)) (.h ((),(),(),t8,t9,t10,t18,(IntKind.i64.wrap (t19+1)),()) (out_,t,(factors.set t19.toNat (FO.mk (At.et r2) (factors.getD t19.toNat default).Exp)),())) .d))) (.k (t8,t9,t10,out_,t,factors))
def zuL (zK:At->Bool×At) (x:zp3) (y:zqg):=zjU zK x.2.2.2.1 x.2.2.2.2.1 x.2.2.2.2.2.1 x.2.2.2.2.2.2.1 x.2.2.2.2.2.2.2.1 y.1 y.2.1 y.2.2.1
def zCm (zK:At->Bool×At) (n:Nat) (t8:yB) (t9:Int) (t10:Int) (t18:Int) (t19:Int) (out_:yB) (t:Term) (factors:yC):=zy (zuL zK) default n ((),(),(),t8,t9,t10,t18,t19,()) (out_,t,factors,())
def zOk (r:zE4):LTree ty:=.done (.exit 2) [.own 168,.ptr 169 0,.own 170,.sl 107 r.1,.lit (.int .i64 r.2.1),.lit (.int .i64 r.2.2.1)] [.arr 107 r.2.2.2.1 false,.box (base.enc 107 r.2.2.2.2.1) false,.arr 145 r.2.2.2.2.2 false]
def zP8:LL ty zp3:=za (zeD 168) (za (zcm 169 0) (za (zeD 170) (za (lSl 107) (za zj (za zj (za zj (za zj zk)))))))
def zP9:BL ty zqg:=zeG 107 false (zdx (zdi (λx=>(⟨x.1,x.2.1⟩:Term)) (λx=>(x.Cf,x.Fs,())) (λ_=>rfl) (za (zL .i64) (za (lSl 145) zk))) false (zeG 145 false (zY)))
def zjT (zK:At->Bool×At) (t8:yB) (t9:Int) (t10:Int) (out_:yB):Wy zqm zp8 (yB):=.i (decide (t10<t9)) (.ix t10 t8.length (.bn (zfo (t8.getD t10.toNat default).Fs) λr5=>.bn (zCm zK (t8.length+t9.toNat +t10.toNat +(Int.ofNat r5.length).toNat +Int.toNat 0+out_.length+(t8.getD t10.toNat default).Fs.length+r5.length+1) t8 t9 t10 (Int.ofNat r5.length) 0 out_ (t8.getD t10.toNat default) r5) λr4=>.i (decide ((r4.2.2.2.1.length+[TO.mk r4.2.2.2.2.1.Cf r4.2.2.2.2.2].length)*32<=zD)) (.h ((),(r4.1),(r4.2.1),(IntKind.i64.wrap (r4.2.2.1+1)),()) ((r4.2.2.2.1++[TO.mk r4.2.2.2.2.1.Cf r4.2.2.2.2.2]),())) .d)) (.k out_)
def zuw (zK:At->Bool×At) (x:zqm) (y:zp8):=zjT zK x.2.1 x.2.2.1 x.2.2.2.1 y.1
def zCj (zK:At->Bool×At) (n:Nat) (t8:yB) (t9:Int) (t10:Int) (out_:yB):=zy (zuw zK) default n ((),t8,t9,t10,()) (out_,())
def zOd (r:yB):LTree ty:=.done (.exit 0) [.own 168] [.arr 107 r false]
def zQ8:LL ty zqm:=za (zeD 168) (za (lSl 107) (za zj (za zj zk)))
def zQZ:BL ty zp8:=zeG 107 false (zY)
def zOS (x:zp3) (y:zqg):Nat:=(x.2.2.2.1.length+Int.toNat x.2.2.2.2.1+Int.toNat x.2.2.2.2.2.1+Int.toNat x.2.2.2.2.2.2.1+Int.toNat x.2.2.2.2.2.2.2.1+y.1.length+y.2.1.Fs.length+y.2.2.1.length+1)
def zOh (x:zqm) (y:zp8):Nat:=(x.2.1.length+Int.toNat x.2.2.1+Int.toNat x.2.2.2.1+y.1.length+1)
def zuk (zK:At->Bool×At):=zbV base 42 [(132,zla),(200,(zmm zK))] [] [(3,[(3,.own 107),(8,.keep),(9,.keep),(10,.keep)]),(7,(kpL [3,5,6,8,9,10,18,19]))] [(3,1,(kpL [3])),(7,3,(kpL [3,5,6,8,9,10]))] [(7,spW zP8 zP9 (zuL zK) default zOk zOS),(3,spW zQ8 zQZ (zuw zK) default zOd zOh)] []
theorem zOC (zK:At->Bool×At):zC (zuk zK) (lp (body f141) 1):=zn (id:=7) (hl:=rfl)
theorem zOj (zK:At->Bool×At):zC (zuk zK) (lp (body f141) 0):=zn (id:=3) (hl:=rfl)
def zD7 (zK:At->Bool×At) (a:yB):Wy0 (yB):=.bn (zCj zK (a.length+(Int.ofNat a.length).toNat +Int.toNat 0+0+1) a (Int.ofNat a.length) 0 []) λr8=>.k r8
def zmt (zK:At->Bool×At) (a:yB):=(zD7 zK a).fin default
theorem zLC (zK:At->Bool×At) (zLK:SdP 200 (zmm zK)):SdP 141 (zms (zmt zK)):=
 sT (cx':=(zuk zK)) (zi ⟨zv5,zLK,trivial⟩) call141 func141 (lOK (aC (zOj zK) (aC (zOC zK) aN))) (sg:=⟨[.own 107],[]⟩)
def zdr:Cx ty:={ base with nt:=8 }
def zdZ (s:yA):Bool×yA:=(decide (s.length*24<=zD),s)
def zik:Ab.Spec ty:=zh (cx:=base) (zd (ze (vSl 51)) zp) λx=>((zdZ x.1).1,⟨[.own 51 (zdZ x.1).2],[]⟩)
theorem zsg:zeQ zdr f133 (body f133) ⟨[.own 51],[]⟩ [.pure (.lit (.slice none 0 0))]=some ⟨[.own 51 []],[]⟩:=by kernel_rfl
theorem zq4 (p:Addr) (c:Nat):zeQ zdr f133 (body f133) ⟨[.own 51],[]⟩ [.pure (.lit (.slice (some p) 0 c))]=some ⟨[.own 51 []],[]⟩:=by kernel_rfl
theorem zro (l:yA):zeQ zdr f133 (body f133) ⟨[.own 51],[]⟩ [.pure (.sl 51 l)]=bif !l.isEmpty then bif decide ((([]:List (ty 51)).length+l.length)*24<=zD) then some ⟨[.own 51 l],[]⟩ else none else none:=by kernel_rfl
theorem zqR:SdP 133 zik:=
 zyo (cx':=zdr) (bytes:=24) zCq ze3 ⟨⟨rfl,rfl,rfl,rfl,rfl,rfl⟩,rfl⟩ (λg s h=>by cases h) call133 func133 (c:=body f133) (by kernel_rfl) (ztx (l:=[]) (by kernel_rfl) trivial) zsg zq4 zro (by kernel_rfl)
def zd6:Cx ty:={ base with nt:=8 }
def zeI (s:yD):Bool×yD:=(decide (s.length*56<=zD),s)
def zj4:Ab.Spec ty:=zh (cx:=base) (zd (ze (vSl 169)) zp) λx=>((zeI x.1).1,⟨[.own 169 (zeI x.1).2],[]⟩)
theorem zu0:zeQ zd6 f134 (body f134) ⟨[.own 169],[]⟩ [.pure (.lit (.slice none 0 0))]=some ⟨[.own 169 []],[]⟩:=by kernel_rfl
theorem zto (p:Addr) (c:Nat):zeQ zd6 f134 (body f134) ⟨[.own 169],[]⟩ [.pure (.lit (.slice (some p) 0 c))]=some ⟨[.own 169 []],[]⟩:=by kernel_rfl
theorem zuM (l:yD):zeQ zd6 f134 (body f134) ⟨[.own 169],[]⟩ [.pure (.sl 169 l)]=bif !l.isEmpty then bif decide ((([]:List (ty 169)).length+l.length)*56<=zD) then some ⟨[.own 169 l],[]⟩ else none else none:=by kernel_rfl
theorem zts:SdP 134 zj4:=
 zyo (cx':=zd6) (bytes:=56) zCq ze3 ⟨⟨rfl,rfl,rfl,rfl,rfl,rfl⟩,rfl⟩ (λg s h=>by cases h) call134 func134 (c:=body f134) (by kernel_rfl) (ztx (l:=[]) (by kernel_rfl) trivial) zu0 zto zuM (by kernel_rfl)
abbrev zdS:=Unit×Unit×Int×Int×Unit
abbrev zli:=(Int×Int×Int×Unit×Int×yD×Int×Int×Int×ByteArray×Unit)×(Int×Int×Int×Unit×Int×Unit×Int×Int×Int×ByteArray×Unit)×yA×Unit
abbrev zzO:=Int×Int×Int×Int×yD×Int×Int×Int×ByteArray×Int×Int×Int×Int×Int×Int×Int×ByteArray×yA
abbrev zlC:=(Int×Int×Int×Unit×Int×Unit×Int×Int×Int×ByteArray×Unit)×(Int×Int×Int×Unit×Int×Unit×Int×Int×Int×ByteArray×Unit)×yA×yD×Unit
abbrev zzQ:=Int×Int×Int×Int×Int×Int×Int×ByteArray×Int×Int×Int×Int×Int×Int×Int×ByteArray×yA×yD
def zgX (zU:yB->Bool×yB) (t11:Int) (t12:Int) (x_0:Int) (x_1:Int) (x_2:Int) (x_3:Int) (x_4:yD) (x_5:Int) (x_6:Int) (x_7:Int) (x_8:ByteArray) (t2_0:Int) (t2_1:Int) (t2_2:Int) (t2_3:Int) (t2_4:Int) (t2_5:Int) (t2_6:Int) (t2_7:ByteArray) (b2:yA):Wy zdS zli zzO:=.i (decide (t12<t11)) (.ix t12 b2.length (.bn (zU (b2.getD t12.toNat default)) λr0=>.ix t12 b2.length (.i (decide (t12.toNat<b2.length)) (.h ((),(),t11,(IntKind.i64.wrap (t12+1)),()) ((x_0,x_1,x_2,(),x_3,x_4,x_5,x_6,x_7,x_8,()),(t2_0,t2_1,t2_2,(),t2_3,(),t2_4,t2_5,t2_6,t2_7,()),(b2.set t12.toNat r0),())) .d))) (.k (x_0,x_1,x_2,x_3,x_4,x_5,x_6,x_7,x_8,t2_0,t2_1,t2_2,t2_3,t2_4,t2_5,t2_6,t2_7,b2))
def zoY (zU:yB->Bool×yB) (x:zdS) (y:zli):=zgX zU x.2.2.1 x.2.2.2.1 y.1.1 y.1.2.1 y.1.2.2.1 y.1.2.2.2.2.1 y.1.2.2.2.2.2.1 y.1.2.2.2.2.2.2.1 y.1.2.2.2.2.2.2.2.1 y.1.2.2.2.2.2.2.2.2.1 y.1.2.2.2.2.2.2.2.2.2.1 y.2.1.1 y.2.1.2.1 y.2.1.2.2.1 y.2.1.2.2.2.2.1 y.2.1.2.2.2.2.2.2.1 y.2.1.2.2.2.2.2.2.2.1 y.2.1.2.2.2.2.2.2.2.2.1 y.2.1.2.2.2.2.2.2.2.2.2.1 y.2.2.1
def zyg (zU:yB->Bool×yB) (n:Nat) (t11:Int) (t12:Int) (x_0:Int) (x_1:Int) (x_2:Int) (x_3:Int) (x_4:yD) (x_5:Int) (x_6:Int) (x_7:Int) (x_8:ByteArray) (t2_0:Int) (t2_1:Int) (t2_2:Int) (t2_3:Int) (t2_4:Int) (t2_5:Int) (t2_6:Int) (t2_7:ByteArray) (b2:yA):=zy (zoY zU) default n ((),(),t11,t12,()) ((x_0,x_1,x_2,(),x_3,x_4,x_5,x_6,x_7,x_8,()),(t2_0,t2_1,t2_2,(),t2_3,(),t2_4,t2_5,t2_6,t2_7,()),b2,())
def zJx (r:zzO):LTree ty:=.done (.exit 0) [.ptr 200 0,.ptr 201 0] [.box ([.lit (.int .i64 r.1),.lit (.int .i64 r.2.1),.lit (.int .i64 r.2.2.1),.own 202,.lit (.int .i64 r.2.2.2.1),.sl 169 r.2.2.2.2.1,.lit (.int .i64 r.2.2.2.2.2.1),.lit (.int .i64 r.2.2.2.2.2.2.1),.lit (.int .i64 r.2.2.2.2.2.2.2.1),.lit (.string r.2.2.2.2.2.2.2.2.1)]) false,.box ([.lit (.int .i64 r.2.2.2.2.2.2.2.2.2.1),.lit (.int .i64 r.2.2.2.2.2.2.2.2.2.2.1),.lit (.int .i64 r.2.2.2.2.2.2.2.2.2.2.2.1),.lit (.slice none 0 0),.lit (.int .i64 r.2.2.2.2.2.2.2.2.2.2.2.2.1),.lit (.slice none 0 0),.lit (.int .i64 r.2.2.2.2.2.2.2.2.2.2.2.2.2.1),.lit (.int .i64 r.2.2.2.2.2.2.2.2.2.2.2.2.2.2.1),.lit (.int .i64 r.2.2.2.2.2.2.2.2.2.2.2.2.2.2.2.1),.lit (.string r.2.2.2.2.2.2.2.2.2.2.2.2.2.2.2.2.1)]) false,.arr 51 r.2.2.2.2.2.2.2.2.2.2.2.2.2.2.2.2.2 false]
def zKc:LL ty zdS:=za (zcm 200 0) (za (zcm 201 0) (za zj (za zj zk)))
def zJP:BL ty zli:=zdx (za (zL .i64) (za (zL .i64) (za (zL .i64) (za (zeD 202) (za (zL .i64) (za (lSl 169) (za (zL .i64) (za (zL .i64) (za (zL .i64) (za zoZ zk)))))))))) false (zdx (za (zL .i64) (za (zL .i64) (za (zL .i64) (za zJF (za (zL .i64) (za zJF (za (zL .i64) (za (zL .i64) (za (zL .i64) (za zoZ zk)))))))))) false (zeG 51 false (zY)))
def zgP (zU:yB->Bool×yB) (t32:Int) (t33:Int) (x_0:Int) (x_1:Int) (x_2:Int) (x_3:Int) (x_4:Int) (x_5:Int) (x_6:Int) (x_7:ByteArray) (t2_0:Int) (t2_1:Int) (t2_2:Int) (t2_3:Int) (t2_4:Int) (t2_5:Int) (t2_6:Int) (t2_7:ByteArray) (b2:yA) (b3:yD):Wy zdS zlC zzQ:=.i (decide (t33<t32)) (.ix t33 b3.length (.bn (zU (b3.getD t33.toNat default).Ann) λr2=>.ix t33 b3.length (.i (decide (t33.toNat<b3.length)) (.h ((),(),t32,(IntKind.i64.wrap (t33+1)),()) ((x_0,x_1,x_2,(),x_3,(),x_4,x_5,x_6,x_7,()),(t2_0,t2_1,t2_2,(),t2_3,(),t2_4,t2_5,t2_6,t2_7,()),b2,(b3.set t33.toNat (WO.mk (b3.getD t33.toNat default).Value r2)),())) .d))) (.k (x_0,x_1,x_2,x_3,x_4,x_5,x_6,x_7,t2_0,t2_1,t2_2,t2_3,t2_4,t2_5,t2_6,t2_7,b2,b3))
def zoU (zU:yB->Bool×yB) (x:zdS) (y:zlC):=zgP zU x.2.2.1 x.2.2.2.1 y.1.1 y.1.2.1 y.1.2.2.1 y.1.2.2.2.2.1 y.1.2.2.2.2.2.2.1 y.1.2.2.2.2.2.2.2.1 y.1.2.2.2.2.2.2.2.2.1 y.1.2.2.2.2.2.2.2.2.2.1 y.2.1.1 y.2.1.2.1 y.2.1.2.2.1 y.2.1.2.2.2.2.1 y.2.1.2.2.2.2.2.2.1 y.2.1.2.2.2.2.2.2.2.1 y.2.1.2.2.2.2.2.2.2.2.1 y.2.1.2.2.2.2.2.2.2.2.2.1 y.2.2.1 y.2.2.2.1
def zx3 (zU:yB->Bool×yB) (n:Nat) (t32:Int) (t33:Int) (x_0:Int) (x_1:Int) (x_2:Int) (x_3:Int) (x_4:Int) (x_5:Int) (x_6:Int) (x_7:ByteArray) (t2_0:Int) (t2_1:Int) (t2_2:Int) (t2_3:Int) (t2_4:Int) (t2_5:Int) (t2_6:Int) (t2_7:ByteArray) (b2:yA) (b3:yD):=zy (zoU zU) default n ((),(),t32,t33,()) ((x_0,x_1,x_2,(),x_3,(),x_4,x_5,x_6,x_7,()),(t2_0,t2_1,t2_2,(),t2_3,(),t2_4,t2_5,t2_6,t2_7,()),b2,b3,())
def zI9 (r:zzQ):LTree ty:=.done (.exit 2) [.ptr 200 0,.ptr 201 0] [.box ([.lit (.int .i64 r.1),.lit (.int .i64 r.2.1),.lit (.int .i64 r.2.2.1),.own 202,.lit (.int .i64 r.2.2.2.1),.own 203,.lit (.int .i64 r.2.2.2.2.1),.lit (.int .i64 r.2.2.2.2.2.1),.lit (.int .i64 r.2.2.2.2.2.2.1),.lit (.string r.2.2.2.2.2.2.2.1)]) false,.box ([.lit (.int .i64 r.2.2.2.2.2.2.2.2.1),.lit (.int .i64 r.2.2.2.2.2.2.2.2.2.1),.lit (.int .i64 r.2.2.2.2.2.2.2.2.2.2.1),.lit (.slice none 0 0),.lit (.int .i64 r.2.2.2.2.2.2.2.2.2.2.2.1),.lit (.slice none 0 0),.lit (.int .i64 r.2.2.2.2.2.2.2.2.2.2.2.2.1),.lit (.int .i64 r.2.2.2.2.2.2.2.2.2.2.2.2.2.1),.lit (.int .i64 r.2.2.2.2.2.2.2.2.2.2.2.2.2.2.1),.lit (.string r.2.2.2.2.2.2.2.2.2.2.2.2.2.2.2.1)]) false,.arr 51 r.2.2.2.2.2.2.2.2.2.2.2.2.2.2.2.2.1 false,.arr 169 r.2.2.2.2.2.2.2.2.2.2.2.2.2.2.2.2.2 false]
def zKd:BL ty zlC:=zdx (za (zL .i64) (za (zL .i64) (za (zL .i64) (za (zeD 202) (za (zL .i64) (za (zeD 203) (za (zL .i64) (za (zL .i64) (za (zL .i64) (za zoZ zk)))))))))) false (zdx (za (zL .i64) (za (zL .i64) (za (zL .i64) (za zJF (za (zL .i64) (za zJF (za (zL .i64) (za (zL .i64) (za (zL .i64) (za zoZ zk)))))))))) false (zeG 51 false (zeG 169 false (zY))))
def zI4 (x:zdS) (y:zli):Nat:=(Int.toNat x.2.2.1+Int.toNat x.2.2.2.1+Int.toNat y.1.1+Int.toNat y.1.2.1+Int.toNat y.1.2.2.1+Int.toNat y.1.2.2.2.2.1+y.1.2.2.2.2.2.1.length+Int.toNat y.1.2.2.2.2.2.2.1+Int.toNat y.1.2.2.2.2.2.2.2.1+Int.toNat y.1.2.2.2.2.2.2.2.2.1+y.1.2.2.2.2.2.2.2.2.2.1.size+Int.toNat y.2.1.1+Int.toNat y.2.1.2.1+Int.toNat y.2.1.2.2.1+Int.toNat y.2.1.2.2.2.2.1+Int.toNat y.2.1.2.2.2.2.2.2.1+Int.toNat y.2.1.2.2.2.2.2.2.2.1+Int.toNat y.2.1.2.2.2.2.2.2.2.2.1+y.2.1.2.2.2.2.2.2.2.2.2.1.size+y.2.2.1.length+1)
def zIw (x:zdS) (y:zlC):Nat:=(Int.toNat x.2.2.1+Int.toNat x.2.2.2.1+Int.toNat y.1.1+Int.toNat y.1.2.1+Int.toNat y.1.2.2.1+Int.toNat y.1.2.2.2.2.1+Int.toNat y.1.2.2.2.2.2.2.1+Int.toNat y.1.2.2.2.2.2.2.2.1+Int.toNat y.1.2.2.2.2.2.2.2.2.1+y.1.2.2.2.2.2.2.2.2.2.1.size+Int.toNat y.2.1.1+Int.toNat y.2.1.2.1+Int.toNat y.2.1.2.2.1+Int.toNat y.2.1.2.2.2.2.1+Int.toNat y.2.1.2.2.2.2.2.2.1+Int.toNat y.2.1.2.2.2.2.2.2.2.1+Int.toNat y.2.1.2.2.2.2.2.2.2.2.1+y.2.1.2.2.2.2.2.2.2.2.2.1.size+y.2.2.1.length+y.2.2.2.1.length+1)
def zo5 (zU:yB->Bool×yB):=zbV base 50 [(133,zik),(134,zj4),(141,(zms zU))] [] [(3,(kpL [1,2,11,12])),(9,(kpL [1,2,32,33]))] [(3,1,(kpL [1,2])),(9,3,(kpL [1,2]))] [(3,spW zKc zJP (zoY zU) default zJx zI4),(9,spW zKc zKd (zoU zU) default zI9 zIw)] []
theorem zID (zU:yB->Bool×yB):zC (zo5 zU) (lp (body f200) 0):=zn (id:=3) (hl:=rfl)
theorem zIx (zU:yB->Bool×yB):zC (zo5 zU) (lp (body f200) 1):=zn (id:=9) (hl:=rfl)
def zzh (zU:yB->Bool×yB) (x_:At):Wy0 (At):=.bn (zdZ x_.Ag) λr7=>.bn (zyg zU ((Int.ofNat r7.length).toNat +Int.toNat 0+x_.Kind.toNat +x_.Row.Table.toNat +x_.Row.Seq.toNat +x_.Func.toNat +x_.Items.length+x_.Op.toNat +x_.Bd.Kind.toNat +x_.Bd.Int.toNat +x_.Bd.Text.size+Int.toNat 0+Int.toNat 0+Int.toNat 0+Int.toNat 0+Int.toNat 0+Int.toNat 0+Int.toNat 0+(ByteArray.mk #[]).size+r7.length+1) (Int.ofNat r7.length) 0 x_.Kind x_.Row.Table x_.Row.Seq x_.Func x_.Items x_.Op x_.Bd.Kind x_.Bd.Int x_.Bd.Text 0 0 0 0 0 0 0 (ByteArray.mk #[]) r7) λr6=>.bn (zeI r6.2.2.2.2.1) λr5=>.bn (zx3 zU ((Int.ofNat r5.length).toNat +Int.toNat 0+r6.1.toNat +r6.2.1.toNat +r6.2.2.1.toNat +r6.2.2.2.1.toNat +r6.2.2.2.2.2.1.toNat +r6.2.2.2.2.2.2.1.toNat +r6.2.2.2.2.2.2.2.1.toNat +r6.2.2.2.2.2.2.2.2.1.size+r6.2.2.2.2.2.2.2.2.2.1.toNat +r6.2.2.2.2.2.2.2.2.2.2.1.toNat +r6.2.2.2.2.2.2.2.2.2.2.2.1.toNat +r6.2.2.2.2.2.2.2.2.2.2.2.2.1.toNat +r6.2.2.2.2.2.2.2.2.2.2.2.2.2.1.toNat +r6.2.2.2.2.2.2.2.2.2.2.2.2.2.2.1.toNat +r6.2.2.2.2.2.2.2.2.2.2.2.2.2.2.2.1.toNat +r6.2.2.2.2.2.2.2.2.2.2.2.2.2.2.2.2.1.size+r6.2.2.2.2.2.2.2.2.2.2.2.2.2.2.2.2.2.length+r5.length+1) (Int.ofNat r5.length) 0 r6.1 r6.2.1 r6.2.2.1 r6.2.2.2.1 r6.2.2.2.2.2.1 r6.2.2.2.2.2.2.1 r6.2.2.2.2.2.2.2.1 r6.2.2.2.2.2.2.2.2.1 r6.2.2.2.2.2.2.2.2.2.1 r6.2.2.2.2.2.2.2.2.2.2.1 r6.2.2.2.2.2.2.2.2.2.2.2.1 r6.2.2.2.2.2.2.2.2.2.2.2.2.1 r6.2.2.2.2.2.2.2.2.2.2.2.2.2.1 r6.2.2.2.2.2.2.2.2.2.2.2.2.2.2.1 r6.2.2.2.2.2.2.2.2.2.2.2.2.2.2.2.1 r6.2.2.2.2.2.2.2.2.2.2.2.2.2.2.2.2.1 r6.2.2.2.2.2.2.2.2.2.2.2.2.2.2.2.2.2 r5) λr4=>.k (⟨r4.1,(⟨r4.2.1,r4.2.2.1⟩:RowID),r4.2.2.2.2.2.2.2.2.2.2.2.2.2.2.2.2.1,r4.2.2.2.1,r4.2.2.2.2.2.2.2.2.2.2.2.2.2.2.2.2.2,r4.2.2.2.2.1,(⟨r4.2.2.2.2.2.1,r4.2.2.2.2.2.2.1,r4.2.2.2.2.2.2.2.1⟩:Value)⟩:At)
def zjk (zU:yB->Bool×yB) (x_:At):=(zzh zU x_).fin default
theorem zGh (zU:yB->Bool×yB) (zS8:SdP 141 (zms zU)):SdP 200 (zmm (zjk zU)):=
 sT (cx':=(zo5 zU)) (zi ⟨zqR,zts,zS8,trivial⟩) call200 func200 (lOK (aC (zID zU) (aC (zIx zU) aN)))
def zK5:Nat->(yB->Bool×yB)×(At->Bool×At)
 | 0=>(λ_=>(false,default),λ_=>(false,default))
 | n+1=>(zmt ((zK5 n).2),zjk ((zK5 n).1))
def zmv (n:Nat):yB->Bool×yB:=(zK5 n).1
def zmn (n:Nat):At->Bool×At:=(zK5 n).2
theorem zQ0 (n:Nat):zmv (n+1)=zmt (zmn n):=rfl
theorem zJ9 (n:Nat):zmn (n+1)=zjk (zmv n):=rfl
theorem zX0:∀ n,SdP 141 (zms (zmv n))/\SdP 200 (zmm (zmn n))
 | 0=>⟨zbl call141 (λ_=>rfl),zbl call200 (λ_=>rfl)⟩
 | n+1=>by
  have ih:=zX0 n;exact ⟨zLC _ (ih.2),zGh _ (ih.1)⟩
def zhk:yB->Bool×yB:=zmv 1000
def zhc:Ab.Spec ty:=zms zhk
theorem zje:SdP 141 zhc:=(zX0 1000).1
def zSb:=zbp base 9 [(103,zuJ),(141,zhc)]
def zFG (a:yB):Wy0 (yB×Int):=.bn (zlP a) λr1=>.i (!r1) (.k ([],6)) (.bn (zhk a) λr0=>.k (r0,0))
def zeC (a:yB):=(zFG a).fin default
def zQk (r:yB×Int):ARes ty:=⟨[.own 107 r.1,.pure (.lit (.int .i64 r.2))],[]⟩
def ze0:=zh zY9 λx=>((zeC x.1).1,zQk (zeC x.1).2)
theorem zfW:SdP 124 ze0:=
 sT (cx':=zSb) (zi ⟨zBa,zje,trivial⟩) call124 func124 (lOK aN) (sg:=⟨[.own 107,.pure],[]⟩)
def zyr:=zbp base 27 []
def zm6 (n_:Int):Wy0 (yB):=.i (decide (n_<0)) .d (.i (decide (IntKind.i64.wrap (n_ - IntKind.i64.wrap (0 - 0))>0)) (.i (decide (0<IntKind.i64.wrap (n_ - IntKind.i64.wrap (0 - 0)))&&(decide (IntKind.i64.wrap (n_ - IntKind.i64.wrap (0 - 0))*Int.ofNat 32<=Int.ofNat zD)&&(decide (IntKind.i64.wrap (n_ - IntKind.i64.wrap (0 - 0))<=Int.ofNat zD)&& !Nat.beq 2 0))) (.k (List.take (Int.toNat 0 - Int.toNat 0) (List.replicate (IntKind.i64.wrap (n_ - IntKind.i64.wrap (0 - 0))).toNat (TO.mk 0 [])))) .d) (.k []))
def zd7 (n_:Int):=(zm6 n_).fin default
def zzi:AL base (Unit×Int×Unit):=zd (ze zbf1) (zd (ze zeZ) zp)
def zlq:=zh zzi λx=>((zd7 x.2.1).1,z7K (zd7 x.2.1).2)
theorem zv4:SdP 193 zlq:=
 sT (cx':=zyr) (zi trivial) call193 func193 (lOK aN) (sg:=⟨[.own 107],[]⟩)
abbrev ze7:=yA×Int×yA×Int×Int×Unit
abbrev znA:=yA×Int
abbrev zfd:=Unit×yA×Int×Int×Unit
abbrev zff:=yB×Unit
def zde (slices:yA) (size:Int) (t9:yA) (t10:Int) (t11:Int):Wy ze7 Unit znA:=.i (decide (t11<t10)) (.ix t11 t9.length (.i (decide (IntKind.i64.wrap (size+Int.ofNat (List.length (t9.getD t11.toNat default)))<0)) .d (.h (slices,(IntKind.i64.wrap (size+Int.ofNat (List.length (t9.getD t11.toNat default)))),t9,t10,(IntKind.i64.wrap (t11+1)),()) ()))) (.k (slices,size))
def zgv (x:ze7) (y:Unit):=zde x.1 x.2.1 x.2.2.1 x.2.2.2.1 x.2.2.2.2.1
def zlw (n:Nat) (slices:yA) (size:Int) (t9:yA) (t10:Int) (t11:Int):=zy (zgv) default n (slices,size,t9,t10,t11,()) ()
def zwg (r:znA):LTree ty:=.done (.exit 0) [.sl 51 r.1,.lit (.int .i64 r.2)] []
def zxa:LL ty ze7:=za (lSl 51) (za zj (za (lSl 51) (za zj (za zj zk))))
def zc5 (t25:yA) (t26:Int) (t27:Int) (newslice:yB):Wy zfd zff (yB):=.i (decide (t27<t26)) (.ix t27 t25.length (.i (decide ((newslice.length+List.length (t25.getD t27.toNat default))*32<=zD)) (.h ((),t25,t26,(IntKind.i64.wrap (t27+1)),()) ((newslice++t25.getD t27.toNat default),())) .d)) (.k newslice)
def zgf (x:zfd) (y:zff):=zc5 x.2.1 x.2.2.1 x.2.2.2.1 y.1
def zk0 (n:Nat) (t25:yA) (t26:Int) (t27:Int) (newslice:yB):=zy (zgf) default n ((),t25,t26,t27,()) (newslice,())
def zvO (r:yB):LTree ty:=.done (.exit 2) [.own 144] [.arr 107 r false]
def zwb:LL ty zfd:=za (zeD 144) (za (lSl 51) (za zj (za zj zk)))
def zwi:BL ty zff:=zeG 107 false (zY)
def zwh (x:ze7) (y:Unit):Nat:=(x.1.length+Int.toNat x.2.1+x.2.2.1.length+Int.toNat x.2.2.2.1+Int.toNat x.2.2.2.2.1+1)
def zvI (x:zfd) (y:zff):Nat:=(x.2.1.length+Int.toNat x.2.2.1+Int.toNat x.2.2.2.1+y.1.length+1)
def zgt:=zbV base 36 [(193,zlq)] [] [(3,(kpL [0,3,9,10,11])),(11,(kpL [6,25,26,27]))] [(3,1,(kpL [0,3])),(11,3,(kpL [6]))] [(3,spW zxa zbaJ (zgv) default zwg zwh),(11,spW zwb zwi (zgf) default zvO zvI)] [193]
theorem zwj:zC zgt (lp (body f126) 0):=zn (id:=3) (hl:=rfl)
theorem zv1:zC zgt (lp (body f126) 1):=zn (id:=11) (hl:=rfl)
def zlZ (slices:yA):Wy0 (yB):=.bn (zlw (slices.length+Int.toNat 0+slices.length+(Int.ofNat slices.length).toNat +Int.toNat 0+1) slices 0 slices (Int.ofNat slices.length) 0) λr2=>.bn (zd7 r2.2) λr1=>.bn (zk0 (r2.1.length+(Int.ofNat r2.1.length).toNat +Int.toNat 0+r1.length+1) r2.1 (Int.ofNat r2.1.length) 0 r1) λr0=>.k r0
def zdL (slices:yA):=(zlZ slices).fin default
def zxX:AL base (yA×Unit):=zd (ze (vSl 51)) zp
def zku:=zh zxX λx=>((zdL x.1).1,z7K (zdL x.1).2)
theorem zu1:SdP 126 zku:=
 sT (cx':=zgt) (zi ⟨zv4,trivial⟩) call126 func126 (lOK (aC zwj (aC zv1 aN))) (sg:=⟨[.own 107],[]⟩)
def z1E:=zbp zby 22 [(52,zcz),(124,ze0),(125,zsK),(126,zku)]
def zMj (a:yB) (b:yB):Wy0 (yB×Int):=.bn (zci a) λr4=>.i (!r4) (.k ([],1)) (.bn (zci b) λr3=>.i (!r3) (.k ([],1)) (.bn (zdL [a,b]) λr2=>.bn (zis r2) λr1=>.bn (zeC r1) λr0=>.k (r0.1,r0.2)))
def zqY (a:yB) (b:yB):=(zMj a b).fin default
def z3R:AL zby (yB×yB×Unit):=zd (ze (vSl 107)) (zd (ze (vSl 107)) zp)
def zyp:=zh z3R λx=>((zqY x.1 x.2.1).1,zQk (zqY x.1 x.2.1).2)
theorem zFV:Sound Tryz.prog zby 72 zyp:=
 sU (cx':=z1E) (zi ⟨zcG.nodr,zfW.nodr,zAa,zu1.nodr,trivial⟩) call72 func72 (lOK aN) (sg:=⟨[.own 107,.pure],[]⟩)
def zNs:=zbp base 7 []
def zOc (x_:Row):Wy0 (Bool):=.k (Int.ofNat x_.Ann.length==0)
def zh0 (x_:Row):=(zOc x_).fin default
def zOX:AL base (Row×Unit):=zd (ze (zb7 54)) zp
def zkb:=zh zOX λx=>((zh0 x.1).1,zXz (zh0 x.1).2)
theorem zns:SdP 69 zkb:=
 sT (cx':=zNs) (zi trivial) call69 func69 (lOK aN)
def zUr:AL zby (yB×((yE×Unit)×Unit)×Unit):=zd (ze (vSl 107)) (zd (ze (vFn 138 (zAL (z8A (zAL (vSl 65) zdg)) zdg))) zp)
def zlp (F:yB->yE->Bool×(yB×Int)):Ab.Spec ty:=zh zUr λx=>((F x.1 x.2.1.1.1).1,zQk (F x.1 x.2.1.1.1).2)
def zN5:AL zby (At×((yE×Unit)×Unit)×Unit):=zd (ze (zb7 143)) (zd (ze (vFn 138 (zAL (z8A (zAL (vSl 65) zdg)) zdg))) zp)
def zlu (F:At->yE->Bool×(yB×Int)):Ab.Spec ty:=zh zN5 λx=>((F x.1 x.2.1.1.1).1,zQk (F x.1 x.2.1.1.1).2)
def zWP:=zbp base 9 []
def zIF (n_:Int):Wy0 (yB):=.i (decide (n_<1)) (.k []) (.k [TO.mk (if 1152921504606846976<n_ then 1152921504606846976 else n_) []])
def zrq (n_:Int):=(zIF n_).fin default
def zDr:=zh z16 λx=>((zrq x.1).1,z7K (zrq x.1).2)
theorem zQC:SdP 197 zDr:=
 sT (cx':=zWP) (zi trivial) call197 func197 (lOK aN) (sg:=⟨[.own 107],[]⟩)
def zzm:=zbp base 27 []
def znu (n_:Int):Wy0 (yC):=.i (decide (n_<0)) .d (.i (decide (IntKind.i64.wrap (n_ - IntKind.i64.wrap (0 - 0))>0)) (.i (decide (0<IntKind.i64.wrap (n_ - IntKind.i64.wrap (0 - 0)))&&(decide (IntKind.i64.wrap (n_ - IntKind.i64.wrap (0 - 0))*Int.ofNat 128<=Int.ofNat zD)&&(decide (IntKind.i64.wrap (n_ - IntKind.i64.wrap (0 - 0))<=Int.ofNat zD)&& !Nat.beq 11 0))) (.k (List.take (Int.toNat 0 - Int.toNat 0) (List.replicate (IntKind.i64.wrap (n_ - IntKind.i64.wrap (0 - 0))).toNat (FO.mk (At.mk 0 (RowID.mk 0 0) [] 0 [] 0 (Value.mk 0 0 (ByteArray.mk #[]))) 0)))) .d) (.k []))
def zen (n_:Int):=(znu n_).fin default
def zyQ (r:yC):ARes ty:=⟨[.own 145 r],[]⟩
def zlY:=zh zzi λx=>((zen x.2.1).1,zyQ (zen x.2.1).2)
theorem zxl:SdP 303 zlY:=
 sT (cx':=zzm) (zi trivial) call303 func303 (lOK aN) (sg:=⟨[.own 145],[]⟩)
end Go.Proofs.YtoknknbmfmddbaaGreatDoor
end
