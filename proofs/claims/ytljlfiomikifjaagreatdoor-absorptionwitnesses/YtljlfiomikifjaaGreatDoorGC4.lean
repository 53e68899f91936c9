/- Texts of this claim, joined (the program, its functions in plain words, and what they compute). -/
import Derived.WalkKit
import Derived.WalkSpells
import Derived.Test.YtljlfiomikifjaaGreatDoorGC3
set_option autoImplicit false
set_option linter.unusedVariables false
set_option linter.unusedSectionVars false
set_option linter.unusedSimpArgs false
set_option maxRecDepth 1000000
set_option maxHeartbeats 0
noncomputable section
namespace Go.Proofs.YtljlfiomikifjaaGreatDoor
open Go Go.Ab
open Go.Proofs.Tryz
abbrev zsw:=Unit×yC×Int×Int×Unit
abbrev zs3:=List ByteArray×Unit
def zSB (zY:yD->Bool×ByteArray) (t9:yC) (t10:Int) (t11:Int) (out_:List ByteArray):Wy zsw zs3 (List ByteArray):=.i (decide (t11<t10)) (.i (decide (0<=t11)&&decide (t11<Int.ofNat t9.length)) (.i (Int.ofNat (t9.getD t11.toNat default).Fs.length==0) (.bn (zn5 (t9.getD t11.toNat default).Cf 10) λr0=>.i (decide ((out_.length+[r0].length)*16<=z7)) (.h ((),t9,t10,(IntKind.i64.wrap (t11+1)),()) ((out_++[r0]),())) .d) (.i ((t9.getD t11.toNat default).Cf==1) (.bn (zY (t9.getD t11.toNat default).Fs) λr1=>.i (decide ((out_.length+[r1].length)*16<=z7)) (.h ((),t9,t10,(IntKind.i64.wrap (t11+1)),()) ((out_++[r1]),())) .d) (.bn (zn5 (t9.getD t11.toNat default).Cf 10) λr3=>.i (decide (r3.size+(ByteArray.mk #[(42:UInt8)]).size<=9223372036854775807)) (.bn (zY (t9.getD t11.toNat default).Fs) λr2=>.i (decide ((r3++ByteArray.mk #[(42:UInt8)]).size+r2.size<=9223372036854775807)) (.i (decide ((out_.length+[r3++ByteArray.mk #[(42:UInt8)]++r2].length)*16<=z7)) (.h ((),t9,t10,(IntKind.i64.wrap (t11+1)),()) ((out_++[r3++ByteArray.mk #[(42:UInt8)]++r2]),())) .d) .d) .d))) .d) (.k out_)
def zDF (zY:yD->Bool×ByteArray) (x:zsw) (y:zs3):=zSB zY x.2.1 x.2.2.1 x.2.2.2.1 y.1
def zRR (zY:yD->Bool×ByteArray) (n:Nat) (t9:yC) (t10:Int) (t11:Int) (out_:List ByteArray):=zH (zDF zY) default n ((),t9,t10,t11,()) (out_,())
def zQX (r:List ByteArray):LTree ty:=.done (.exit 0) [.own 200] [.arr 9 r false]
def zS8:LL ty zsw:=za (zes 200) (za (lSl 28) (za zj (za zj zm)))
def zSW:BL ty zs3:=zew 9 false (zbg)
def zRl (x:zsw) (y:zs3):Nat:=(x.2.1.length+Int.toNat x.2.2.1+Int.toNat x.2.2.2.1+y.1.length+1)
def zC1 (zY:yD->Bool×ByteArray):=zbZ zbU 50 [(139,(zgr zY)),(169,zuk),(227,ztj)] [] [(5,[(3,.own 9),(9,.keep),(10,.keep),(11,.keep)])] [(5,1,(kpL [3]))] [(5,spW zS8 zSW (zDF zY) default zQX zRl)] []
theorem zP5 (zY:yD->Bool×ByteArray):zD (zC1 zY) (lp (body f196) 0):=zq (id:=5) (hl:=rfl)
def zVk (zY:yD->Bool×ByteArray) (a:yC):Wy0 (ByteArray):=.i (Int.ofNat a.length==0) (.k (ByteArray.mk #[(48:UInt8)])) (.bn (zRR zY (a.length+(Int.ofNat a.length).toNat +Int.toNat 0+0+1) a (Int.ofNat a.length) 0 []) λr9=>.bn (strings_Join r9 (ByteArray.mk #[(32:UInt8),(43:UInt8),(32:UInt8)])) λr8=>.k r8)
def zJa (zY:yD->Bool×ByteArray) (a:yC):=(zVk zY a).fin default
theorem zNg (zY:yD->Bool×ByteArray) (zFP:Sound Tryz.prog zbU 139 (zgr zY)):Sound Tryz.prog zbU 196 (zt3 (zJa zY)):=
 sU (cx':=(zC1 zY)) (zi ⟨zFP,zzk,zAn.nodr,trivial⟩) call196 func196 (lOK (aC (zP5 zY) aN))
def zFu:Nat->(yC->Bool×ByteArray)×(At->Bool×ByteArray)×(yD->Bool×ByteArray)
 | 0=>(λ_=>(false,default),λ_=>(false,default),λ_=>(false,default))
 | n+1=>(zJa ((zFu n).2.2),zAo ((zFu n).1),zxl ((zFu n).2.1))
def zZT (n:Nat):yC->Bool×ByteArray:=(zFu n).1
def zMW (n:Nat):At->Bool×ByteArray:=(zFu n).2.1
def zw2 (n:Nat):yD->Bool×ByteArray:=(zFu n).2.2
theorem z4q:∀ n,Sound Tryz.prog zbU 196 (zt3 (zZT n))/\Sound Tryz.prog zbU 167 (zlC (zMW n))/\Sound Tryz.prog zbU 139 (zgr (zw2 n))
 | 0=>⟨zba call196 (λ_=>rfl),zba call167 (λ_=>rfl),zba call139 (λ_=>rfl)⟩
 | n+1=>by
  have ih:=z4q n;exact ⟨zNg _ (ih.2.2),zEq _ (ih.1),zBL _ (ih.2.1)⟩
def zy3:yD->Bool×ByteArray:=zw2 1000
def ztP:Ab.Spec ty:=zgr zy3
theorem zC4:Sound Tryz.prog zbU 139 ztP:=(z4q 1000).2.2
def zkT (x:yC) (a b lim:Int):Bool×yC:=z6u zcl x a b lim
def zzL:Ab.Spec ty:=zh (cx:=base) (zd (zlu 28) (zd (ze (zhM .i64)) (zd (ze (zhM .i64)) (zd (ze (zhM .i64)) (zd (ze (vFn 63 zbT)) zp))))) λx=>((zkT x.1 x.2.1 x.2.2.1 x.2.2.2.1).1,⟨[],[some ⟨28,(zkT x.1 x.2.1 x.2.2.1 x.2.2.2.1).2⟩]⟩)
theorem zAV (c:Unit) (x y:Term) (h:(zcl x y).1=true):zin ((AV.agg (base.enc 28 x)::AV.agg (base.enc 28 y)::(zbT:VL base Unit).enc c).map Arg.pure)=some (true,⟨[.pure (.lit (.int .i64 (zcl x y).2))],[]⟩):=by
 rw [<- h]; kernel_rfl
theorem zy1:SdP 155 zzL:=by
 letI:DecidableEq (ty 28):=inferInstanceAs (DecidableEq Term)
 exact zbcG (T:=28) zgB rfl Go.Proofs.Tryz.pdqTerm Tryz.isAgg28 (by unfold zr; exact Tryz.sizeOf28) call155 zlr zbT (λc=>zcl) zAV
open Go.Proofs Go.RowKit
def zb3 (x:yC):Bool×yC:=zwH zcl x
def zeU:Ab.Spec ty:=zh (cx:=base) (zd (zlu 28) (zd (ze (vFn 63 zbT)) zp)) λx=>((zb3 x.1).1,⟨[],[some ⟨28,(zb3 x.1).2⟩]⟩)
set_option maxHeartbeats 1000000 in
theorem zsJ:SdP 96 zeU where
 enters:=call96
 calls:=λavs r hsp w F vs hF ha hsep=>by
  unfold zeU zh at hsp;split at hsp
  ·rename_i x hx;simp only [qa,qb] at hsp;obtain ⟨hpre,rfl⟩:=hsp;have hk:=(zd (zlu 28) (zd (ze (vFn 63 zbT)) zp):AL base _).kind vs avs x hx;have ha':=(zd (zlu 28) (zd (ze (vFn 63 zbT)) zp):AL base _).ok Tryz.prog zgB F w vs avs x hx ha;rw [hk] at hsep ⊢;clear hk hx ha;obtain ⟨l0,c,u0⟩:=x;obtain ⟨l,rfl⟩:∃ l:yC,l=l0:=⟨l0,rfl⟩;obtain ⟨v,vs',rfl,hv,hv'⟩:=ha'.inv;obtain ⟨fv,vs'',rfl,hfv,h0⟩:=hv'.inv;obtain rfl:=h0.nil_left.1
   have hsl:∃ p cap,v=.slice p l.length cap:=by
    obtain ⟨⟨xs,hown,_⟩,_⟩:=(show zcT base F w v 28 l/\∀ b,zbi v=some b->¬ F b from hv)
    rcases hown.2 with ⟨h1,h2⟩ | ⟨g0,cap,cur,h1,_⟩
    ·exact ⟨none,0,by rw [h1,show l.length=0 from h2]⟩
    ·exact ⟨_,cap,h1⟩
   have hok:SortOK (α:=Term) zcl l:=of_decide_eq_true (p:=SortOK (α:=Term) zcl l) hpre;have hlen:l.length<4611686018427387904:=hok.size;have hbl:Lib.bitLen l.length<4611686018427387904:=Nat.lt_of_le_of_lt (Lib.bitLen_le l.length 62 (by omega) (by omega)) (by omega)
   have hpp:(zkT l 0 (l.length:Int) ((Lib.bitLen l.length:Nat):Int)).1=true:=by
    show (decide (SortOK (α:=Term) zcl l)&&(decide ((0:Int)=0)&&(decide ((l.length:Int)=l.length)&&(decide ((0:Int)<=((Lib.bitLen l.length:Nat):Int))&&decide (((Lib.bitLen l.length:Nat):Int)<4611686018427387904)))))=true;simp only [qc,qe];exact ⟨hok,trivial,trivial,by omega,by omega⟩
   have hp:=(zy1).calls [.own 28 l,.pure (.lit (.int .i64 0)),.pure (.lit (.int .i64 (l.length:Int))),.pure (.lit (.int .i64 ((Lib.bitLen l.length:Nat):Int))),.pure (.fn 63 [])] ⟨[],[some ⟨28,(zb3 l).2⟩]⟩
    (by rw [<- hpp]; kernel_rfl) w F [v,.int .i64 0,.int .i64 (l.length:Int),.int .i64 ((Lib.bitLen l.length:Nat):Int),fv] hF (.cons hv (.cons (Rep.lit _) (.cons (Rep.lit _) (.cons (Rep.lit _) (.cons hfv .nil))))) hsep
   replace hp:Calls Tryz.prog 155 #[v,.int .i64 0,.int .i64 (l.length:Int),.int .i64 ((Lib.bitLen l.length:Nat):Int),fv] w λe w'=>∃ u,e=.returned u/\Post base F w [v] ⟨[],[some ⟨28,(zb3 l).2⟩]⟩ u w':=hp
   show Calls Tryz.prog 96 #[v,fv] w λe w'=>∃ u,e=.returned u/\Post base F w [v] ⟨[],[some ⟨28,(zb3 l).2⟩]⟩ u w'
   have hb:Calls Tryz.prog 156 #[.int .u64 (l.length:Int)] w λe w'=>e=.returned (.int .i64 ((Lib.bitLen l.length:Nat):Int))/\w'=w:=by
    have h:=Any.bits_Len Go.Proofs.Tryz.lays125 (l.length:Int) w (by omega) (by omega)
    rwa [Int.toNat_natCast] at h
   have wr:IntKind.u64.wrap (l.length:Int)=l.length:=by simp [IntKind.wrap,IntKind.bits,IntKind.signed]; omega
   generalize (zb3 l).2=res at hp ⊢;generalize hn:l.length=m at *;generalize Lib.bitLen m=bl at *;clear hpp hv hfv hsep hok hpre hF;obtain ⟨p,cap,rfl⟩:=hsl;clear hn
   go_enter func96,ntmps96
   go_wp2_with (first | (go_at_call 156; refine hb.mono ?_; rintro e w' ⟨rfl,rfl⟩) | (go_at_call 155; refine hp.mono ?_; rintro e w' ⟨u,rfl,hpost⟩; obtain rfl:=hpost.unit))
   go_end0
   exact ⟨_,rfl,hpost⟩
  ·cases hsp
end Go.Proofs.YtljlfiomikifjaaGreatDoor
namespace Go.Proofs.YtljlfiomikifjaaGreatDoor
open Go Go.Ab
open Go.Proofs.Tryz
abbrev znq:=Unit×Unit×yC×Int×Int×Unit
abbrev znc:=(List (_root_.Go.Value×Int))×yC×Unit
def zQN (t11:yC) (t12:Int) (t13:Int) (at_:List (_root_.Go.Value×Int)) (out_:yC):Wy znq znc (yC):=.i (decide (t13<t12)) (.i (decide (0<=t13)&&decide (t13<Int.ofNat t11.length)) (.bn (zy3 (t11.getD t13.toNat default).Fs) λr0=>.i (zbh3 (Value.string r0) at_) (.i (decide (0<=(zKq (Value.string r0) at_).getD 0)&&decide ((zKq (Value.string r0) at_).getD 0<Int.ofNat out_.length)) (.i (decide (0<=(zKq (Value.string r0) at_).getD 0)&&decide ((zKq (Value.string r0) at_).getD 0<Int.ofNat out_.length)) (.i (decide (Int.toNat ((zKq (Value.string r0) at_).getD 0)<out_.length)) (.h ((),(),t11,t12,(IntKind.i64.wrap (t13+1)),()) (at_,(out_.set (Int.toNat ((zKq (Value.string r0) at_).getD 0)) (TO.mk (if 1152921504606846976<IntKind.i64.wrap ((out_.getD (Int.toNat ((zKq (Value.string r0) at_).getD 0)) default).Cf+(t11.getD t13.toNat default).Cf) then 1152921504606846976 else IntKind.i64.wrap ((out_.getD (Int.toNat ((zKq (Value.string r0) at_).getD 0)) default).Cf+(t11.getD t13.toNat default).Cf)) (out_.getD (Int.toNat ((zKq (Value.string r0) at_).getD 0)) default).Fs)),())) .d) .d) .d) (.i (decide ((out_.length+[t11.getD t13.toNat default].length)*32<=z7)) (.h ((),(),t11,t12,(IntKind.i64.wrap (t13+1)),()) ((zbh1 (Value.string r0) (Int.ofNat out_.length) at_),(out_++[t11.getD t13.toNat default]),())) .d)) .d) (.k out_)
def zCt (x:znq) (y:znc):=zQN x.2.2.1 x.2.2.2.1 x.2.2.2.2.1 y.1 y.2.1
def zQl (n:Nat) (t11:yC) (t12:Int) (t13:Int) (at_:List (_root_.Go.Value×Int)) (out_:yC):=zH (zCt) default n ((),(),t11,t12,t13,()) (at_,out_,())
def zOJ (r:yC):LTree ty:=.done (.exit 0) [.own 208] [.arr 28 r false]
def zQd:LL ty znq:=za (lMp 208) (za (zes 209) (za (lSl 28) (za zj (za zj zm))))
def zP9:BL ty znc:=bMp 9 3 false (zew 28 false (zbg))
def zOO (x:znq) (y:znc):Nat:=(x.2.2.1.length+Int.toNat x.2.2.2.1+Int.toNat x.2.2.2.2.1+y.1.length+y.2.1.length+1)
def zCb:=zbZ zbU 52 [(63,zin),(96,zeU),(139,ztP)] [(96,[true,false])] [(4,[(3,.keep),(4,.own 28),(11,.keep),(12,.keep),(13,.keep)])] [(4,1,(kpL [4]))] [(4,spW zQd zP9 (zCt) default zOJ zOO)] []
theorem zPE:zD zCb (lp (body f71) 0):=zq (id:=4) (hl:=rfl)
def zTe (terms:yC):Wy0 (yC):=.bn (zQl (terms.length+(Int.ofNat terms.length).toNat +Int.toNat 0+0+0+1) terms (Int.ofNat terms.length) 0 [] []) λr3=>.bn (zb3 r3) λr2=>.k r2
def zsV (terms:yC):=(zTe terms).fin default
def zOR (r:yC):ARes ty:=⟨[.own 28 r],[]⟩
def zrD:=zh zY8 λx=>((zsV x.1).1,zOR (zsV x.1).2)
theorem zy8:Sound Tryz.prog zbU 71 zrD:=
 sU (cx':=zCb) (zi ⟨zlr.nodr,zsJ.nodr,zC4,trivial⟩) call71 func71 (lOK (aC zPE aN)) (sg:=⟨[.own 28],[]⟩)
def zlS (F:yC->Bool×yC):Ab.Spec ty:=zh zWH λx=>((F x.1).1,zOR (F x.1).2)
def zJV (r:At):ARes ty:=⟨[.pure (.agg (base.enc 67 r))],[]⟩
def zlB (F:At->Bool×At):Ab.Spec ty:=zh zBm λx=>((F x.1).1,zJV (F x.1).2)
def zen:Cx ty:={ base with nt:=8 }
def zio (s:yD):Bool×yD:=(decide (s.length*128<=z7),s)
def zkz:Ab.Spec ty:=zh (cx:=base) (zd (ze (vSl 69)) zp) λx=>((zio x.1).1,⟨[.own 69 (zio x.1).2],[]⟩)
theorem zxo:zgd zen f95 (body f95) ⟨[.own 69],[]⟩ [.pure (.lit (.slice none 0 0))]=some ⟨[.own 69 []],[]⟩:=by kernel_rfl
theorem zvs (p:Addr) (c:Nat):zgd zen f95 (body f95) ⟨[.own 69],[]⟩ [.pure (.lit (.slice (some p) 0 c))]=some ⟨[.own 69 []],[]⟩:=by kernel_rfl
theorem zwd (l:yD):zgd zen f95 (body f95) ⟨[.own 69],[]⟩ [.pure (.sl 69 l)]=bif !l.isEmpty then bif decide ((([]:List (ty 69)).length+l.length)*128<=z7) then some ⟨[.own 69 l],[]⟩ else none else none:=by kernel_rfl
theorem zvo:SdP 95 zkz:=
 zGj (cx':=zen) (bytes:=128) zDg zgB ⟨⟨rfl,rfl,rfl,rfl,rfl,rfl⟩,rfl⟩ (λg s h=>by cases h) call95 func95 (c:=body f95) (by kernel_rfl) (zzZ (l:=[]) (by kernel_rfl) trivial) zxo zvs zwd (by kernel_rfl)
abbrev zoX:=Unit×Unit×Unit×yC×Int×Int×Int×Int×Unit
abbrev zot:=yC×Term×yD×Unit
abbrev zCW:=yC×Int×Int×yC×Term×yD
abbrev zoV:=Unit×yC×Int×Int×Unit
abbrev zoT:=yC×Unit
def zOK (zJ:At->Bool×At) (t8:yC) (t9:Int) (t10:Int) (t18:Int) (t19:Int) (out_:yC) (t:Term) (factors:yD):Wy zoX zot zCW:=.i (decide (t19<t18)) (.i (decide (0<=t19)&&decide (t19<Int.ofNat factors.length)) (.bn (zJ (At.mk (factors.getD t19.toNat default).At.Kind (factors.getD t19.toNat default).At.Row (factors.getD t19.toNat default).At.Ag (factors.getD t19.toNat default).At.Func (factors.getD t19.toNat default).At.Items (factors.getD t19.toNat default).At.Op (factors.getD t19.toNat default).At.Bd)) λr2=>.i (decide (0<=t19)&&decide (t19<Int.ofNat factors.length)) (.i (decide (t19.toNat<factors.length)) (.h ((),(),(),t8,t9,t10,t18,(IntKind.i64.wrap (t19+1)),()) (out_,t,(factors.set t19.toNat (FO.mk (At.mk r2.Kind r2.Row r2.Ag r2.Func r2.Items r2.Op r2.Bd) (factors.getD t19.toNat default).Exp)),())) .d) .d) .d) (.k (t8,t9,t10,out_,t,factors))
def zBo (zJ:At->Bool×At) (x:zoX) (y:zot):=zOK zJ x.2.2.2.1 x.2.2.2.2.1 x.2.2.2.2.2.1 x.2.2.2.2.2.2.1 x.2.2.2.2.2.2.2.1 y.1 y.2.1 y.2.2.1
def zOs (zJ:At->Bool×At) (n:Nat) (t8:yC) (t9:Int) (t10:Int) (t18:Int) (t19:Int) (out_:yC) (t:Term) (factors:yD):=zH (zBo zJ) default n ((),(),(),t8,t9,t10,t18,t19,()) (out_,t,factors,())
def zMy (r:zCW):LTree ty:=.done (.exit 2) [.own 168,.ptr 169 0,.own 170,.sl 28 r.1,.lit (.int .i64 r.2.1),.lit (.int .i64 r.2.2.1)] [.arr 28 r.2.2.2.1 false,.box (base.enc 28 r.2.2.2.2.1) false,.arr 69 r.2.2.2.2.2 false]
def zOk:LL ty zoX:=za (zes 168) (za (zfa 169 0) (za (zes 170) (za (lSl 28) (za zj (za zj (za zj (za zj zm)))))))
def zOl:BL ty zot:=zew 28 false (ziw (zgt (λx=>(⟨x.1,x.2.1⟩:Term)) (λx=>(x.Cf,x.Fs,())) (λ_=>rfl) (za (zO .i64) (za (lSl 69) zm))) false (zew 69 false (zbg)))
def zPk (zJ:At->Bool×At) (t8:yC) (t9:Int) (t10:Int) (out_:yC):Wy zoV zoT (yC):=.i (decide (t10<t9)) (.i (decide (0<=t10)&&decide (t10<Int.ofNat t8.length)) (.bn (zio (t8.getD t10.toNat default).Fs) λr5=>.bn (zOs zJ (t8.length+t9.toNat +t10.toNat +(Int.ofNat r5.length).toNat +Int.toNat 0+out_.length+(t8.getD t10.toNat default).Fs.length+r5.length+1) t8 t9 t10 (Int.ofNat r5.length) 0 out_ (t8.getD t10.toNat default) r5) λr4=>.i (decide ((r4.2.2.2.1.length+[TO.mk r4.2.2.2.2.1.Cf r4.2.2.2.2.2].length)*32<=z7)) (.h ((),(r4.1),(r4.2.1),(IntKind.i64.wrap (r4.2.2.1+1)),()) ((r4.2.2.2.1++[TO.mk r4.2.2.2.2.1.Cf r4.2.2.2.2.2]),())) .d) .d) (.k out_)
def zBn (zJ:At->Bool×At) (x:zoV) (y:zoT):=zPk zJ x.2.1 x.2.2.1 x.2.2.2.1 y.1
def zO0 (zJ:At->Bool×At) (n:Nat) (t8:yC) (t9:Int) (t10:Int) (out_:yC):=zH (zBn zJ) default n ((),t8,t9,t10,()) (out_,())
def zNd (r:yC):LTree ty:=.done (.exit 0) [.own 168] [.arr 28 r false]
def zPD:LL ty zoV:=za (zes 168) (za (lSl 28) (za zj (za zj zm)))
def zOP:BL ty zoT:=zew 28 false (zbg)
def zMs (x:zoX) (y:zot):Nat:=(x.2.2.2.1.length+Int.toNat x.2.2.2.2.1+Int.toNat x.2.2.2.2.2.1+Int.toNat x.2.2.2.2.2.2.1+Int.toNat x.2.2.2.2.2.2.2.1+y.1.length+y.2.1.Fs.length+y.2.2.1.length+1)
def zM1 (x:zoV) (y:zoT):Nat:=(x.2.1.length+Int.toNat x.2.2.1+Int.toNat x.2.2.2.1+y.1.length+1)
def ztK (zJ:At->Bool×At):=zbZ base 42 [(95,zkz),(151,(zlB zJ))] [] [(3,[(3,.own 28),(8,.keep),(9,.keep),(10,.keep)]),(7,(kpL [3,5,6,8,9,10,18,19]))] [(3,1,(kpL [3])),(7,3,(kpL [3,5,6,8,9,10]))] [(7,spW zOk zOl (zBo zJ) default zMy zMs),(3,spW zPD zOP (zBn zJ) default zNd zM1)] []
theorem zMA (zJ:At->Bool×At):zD (ztK zJ) (lp (body f87) 1):=zq (id:=7) (hl:=rfl)
theorem zM2 (zJ:At->Bool×At):zD (ztK zJ) (lp (body f87) 0):=zq (id:=3) (hl:=rfl)
def zQr (zJ:At->Bool×At) (a:yC):Wy0 (yC):=.bn (zO0 zJ (a.length+(Int.ofNat a.length).toNat +Int.toNat 0+0+1) a (Int.ofNat a.length) 0 []) λr8=>.k r8
def zEZ (zJ:At->Bool×At) (a:yC):=(zQr zJ a).fin default
theorem zKj (zJ:At->Bool×At) (zJ0:SdP 151 (zlB zJ)):SdP 87 (zlS (zEZ zJ)):=
 sT (cx':=(ztK zJ)) (zi ⟨zvo,zJ0,trivial⟩) call87 func87 (lOK (aC (zM2 zJ) (aC (zMA zJ) aN))) (sg:=⟨[.own 28],[]⟩)
def zdl:Cx ty:={ base with nt:=8 }
def zfi (s:yA):Bool×yA:=(decide (s.length*24<=z7),s)
def zhP:Ab.Spec ty:=zh (cx:=base) (zd (ze (vSl 23)) zp) λx=>((zfi x.1).1,⟨[.own 23 (zfi x.1).2],[]⟩)
theorem zrk:zgd zdl f181 (body f181) ⟨[.own 23],[]⟩ [.pure (.lit (.slice none 0 0))]=some ⟨[.own 23 []],[]⟩:=by kernel_rfl
theorem zpm (p:Addr) (c:Nat):zgd zdl f181 (body f181) ⟨[.own 23],[]⟩ [.pure (.lit (.slice (some p) 0 c))]=some ⟨[.own 23 []],[]⟩:=by kernel_rfl
theorem zpU (l:yA):zgd zdl f181 (body f181) ⟨[.own 23],[]⟩ [.pure (.sl 23 l)]=bif !l.isEmpty then bif decide ((([]:List (ty 23)).length+l.length)*24<=z7) then some ⟨[.own 23 l],[]⟩ else none else none:=by kernel_rfl
theorem zpy:SdP 181 zhP:=
 zGj (cx':=zdl) (bytes:=24) zDg zgB ⟨⟨rfl,rfl,rfl,rfl,rfl,rfl⟩,rfl⟩ (λg s h=>by cases h) call181 func181 (c:=body f181) (by kernel_rfl) (zzZ (l:=[]) (by kernel_rfl) trivial) zrk zpm zpU (by kernel_rfl)
def zdT:Cx ty:={ base with nt:=8 }
def zgo (s:yE):Bool×yE:=(decide (s.length*56<=z7),s)
def zji:Ab.Spec ty:=zh (cx:=base) (zd (ze (vSl 100)) zp) λx=>((zgo x.1).1,⟨[.own 100 (zgo x.1).2],[]⟩)
theorem ztW:zgd zdT f182 (body f182) ⟨[.own 100],[]⟩ [.pure (.lit (.slice none 0 0))]=some ⟨[.own 100 []],[]⟩:=by kernel_rfl
theorem zs4 (p:Addr) (c:Nat):zgd zdT f182 (body f182) ⟨[.own 100],[]⟩ [.pure (.lit (.slice (some p) 0 c))]=some ⟨[.own 100 []],[]⟩:=by kernel_rfl
theorem zts (l:yE):zgd zdT f182 (body f182) ⟨[.own 100],[]⟩ [.pure (.sl 100 l)]=bif !l.isEmpty then bif decide ((([]:List (ty 100)).length+l.length)*56<=z7) then some ⟨[.own 100 l],[]⟩ else none else none:=by kernel_rfl
theorem zsY:SdP 182 zji:=
 zGj (cx':=zdT) (bytes:=56) zDg zgB ⟨⟨rfl,rfl,rfl,rfl,rfl,rfl⟩,rfl⟩ (λg s h=>by cases h) call182 func182 (c:=body f182) (by kernel_rfl) (zzZ (l:=[]) (by kernel_rfl) trivial) ztW zs4 zts (by kernel_rfl)
abbrev zdH:=Unit×Unit×Int×Int×Unit
abbrev zk3:=(Int×Int×Int×Unit×Int×yE×Int×Int×Int×ByteArray×Unit)×(Int×Int×Int×Unit×Int×Unit×Int×Int×Int×ByteArray×Unit)×yA×Unit
abbrev zzs:=Int×Int×Int×Int×yE×Int×Int×Int×ByteArray×Int×Int×Int×Int×Int×Int×Int×ByteArray×yA
abbrev zk0:=(Int×Int×Int×Unit×Int×Unit×Int×Int×Int×ByteArray×Unit)×(Int×Int×Int×Unit×Int×Unit×Int×Int×Int×ByteArray×Unit)×yA×yE×Unit
abbrev zzh:=Int×Int×Int×Int×Int×Int×Int×ByteArray×Int×Int×Int×Int×Int×Int×Int×ByteArray×yA×yE
def zIf (zU:yC->Bool×yC) (t11:Int) (t12:Int) (x_0:Int) (x_1:Int) (x_2:Int) (x_3:Int) (x_4:yE) (x_5:Int) (x_6:Int) (x_7:Int) (x_8:ByteArray) (t2_0:Int) (t2_1:Int) (t2_2:Int) (t2_3:Int) (t2_4:Int) (t2_5:Int) (t2_6:Int) (t2_7:ByteArray) (b2:yA):Wy zdH zk3 zzs:=.i (decide (t12<t11)) (.i (decide (0<=t12)&&decide (t12<Int.ofNat b2.length)) (.bn (zU (b2.getD t12.toNat default)) λr0=>.i (decide (0<=t12)&&decide (t12<Int.ofNat b2.length)) (.i (decide (t12.toNat<b2.length)) (.h ((),(),t11,(IntKind.i64.wrap (t12+1)),()) ((x_0,x_1,x_2,(),x_3,x_4,x_5,x_6,x_7,x_8,()),(t2_0,t2_1,t2_2,(),t2_3,(),t2_4,t2_5,t2_6,t2_7,()),(b2.set t12.toNat r0),())) .d) .d) .d) (.k (x_0,x_1,x_2,x_3,x_4,x_5,x_6,x_7,x_8,t2_0,t2_1,t2_2,t2_3,t2_4,t2_5,t2_6,t2_7,b2))
def zwQ (zU:yC->Bool×yC) (x:zdH) (y:zk3):=zIf zU x.2.2.1 x.2.2.2.1 y.1.1 y.1.2.1 y.1.2.2.1 y.1.2.2.2.2.1 y.1.2.2.2.2.2.1 y.1.2.2.2.2.2.2.1 y.1.2.2.2.2.2.2.2.1 y.1.2.2.2.2.2.2.2.2.1 y.1.2.2.2.2.2.2.2.2.2.1 y.2.1.1 y.2.1.2.1 y.2.1.2.2.1 y.2.1.2.2.2.2.1 y.2.1.2.2.2.2.2.2.1 y.2.1.2.2.2.2.2.2.2.1 y.2.1.2.2.2.2.2.2.2.2.1 y.2.1.2.2.2.2.2.2.2.2.2.1 y.2.2.1
def zIK (zU:yC->Bool×yC) (n:Nat) (t11:Int) (t12:Int) (x_0:Int) (x_1:Int) (x_2:Int) (x_3:Int) (x_4:yE) (x_5:Int) (x_6:Int) (x_7:Int) (x_8:ByteArray) (t2_0:Int) (t2_1:Int) (t2_2:Int) (t2_3:Int) (t2_4:Int) (t2_5:Int) (t2_6:Int) (t2_7:ByteArray) (b2:yA):=zH (zwQ zU) default n ((),(),t11,t12,()) ((x_0,x_1,x_2,(),x_3,x_4,x_5,x_6,x_7,x_8,()),(t2_0,t2_1,t2_2,(),t2_3,(),t2_4,t2_5,t2_6,t2_7,()),b2,())
def zHH (r:zzs):LTree ty:=.done (.exit 0) [.ptr 200 0,.ptr 201 0] [.box ([.lit (.int .i64 r.1),.lit (.int .i64 r.2.1),.lit (.int .i64 r.2.2.1),.own 202,.lit (.int .i64 r.2.2.2.1),.sl 100 r.2.2.2.2.1,.lit (.int .i64 r.2.2.2.2.2.1),.lit (.int .i64 r.2.2.2.2.2.2.1),.lit (.int .i64 r.2.2.2.2.2.2.2.1),.lit (.string r.2.2.2.2.2.2.2.2.1)]) false,.box ([.lit (.int .i64 r.2.2.2.2.2.2.2.2.2.1),.lit (.int .i64 r.2.2.2.2.2.2.2.2.2.2.1),.lit (.int .i64 r.2.2.2.2.2.2.2.2.2.2.2.1),.lit (.slice none 0 0),.lit (.int .i64 r.2.2.2.2.2.2.2.2.2.2.2.2.1),.lit (.slice none 0 0),.lit (.int .i64 r.2.2.2.2.2.2.2.2.2.2.2.2.2.1),.lit (.int .i64 r.2.2.2.2.2.2.2.2.2.2.2.2.2.2.1),.lit (.int .i64 r.2.2.2.2.2.2.2.2.2.2.2.2.2.2.2.1),.lit (.string r.2.2.2.2.2.2.2.2.2.2.2.2.2.2.2.2.1)]) false,.arr 23 r.2.2.2.2.2.2.2.2.2.2.2.2.2.2.2.2.2 false]
def zIJ:LL ty zdH:=za (zfa 200 0) (za (zfa 201 0) (za zj (za zj zm)))
def zH0:BL ty zk3:=ziw (za (zO .i64) (za (zO .i64) (za (zO .i64) (za (zes 202) (za (zO .i64) (za (lSl 100) (za (zO .i64) (za (zO .i64) (za (zO .i64) (za zp3 zm)))))))))) false (ziw (za (zO .i64) (za (zO .i64) (za (zO .i64) (za zbco (za (zO .i64) (za zbco (za (zO .i64) (za (zO .i64) (za (zO .i64) (za zp3 zm)))))))))) false (zew 23 false (zbg)))
def zHJ (zU:yC->Bool×yC) (t32:Int) (t33:Int) (x_0:Int) (x_1:Int) (x_2:Int) (x_3:Int) (x_4:Int) (x_5:Int) (x_6:Int) (x_7:ByteArray) (t2_0:Int) (t2_1:Int) (t2_2:Int) (t2_3:Int) (t2_4:Int) (t2_5:Int) (t2_6:Int) (t2_7:ByteArray) (b2:yA) (b3:yE):Wy zdH zk0 zzh:=.i (decide (t33<t32)) (.i (decide (0<=t33)&&decide (t33<Int.ofNat b3.length)) (.bn (zU (b3.getD t33.toNat default).Ann) λr2=>.i (decide (0<=t33)&&decide (t33<Int.ofNat b3.length)) (.i (decide (t33.toNat<b3.length)) (.h ((),(),t32,(IntKind.i64.wrap (t33+1)),()) ((x_0,x_1,x_2,(),x_3,(),x_4,x_5,x_6,x_7,()),(t2_0,t2_1,t2_2,(),t2_3,(),t2_4,t2_5,t2_6,t2_7,()),b2,(b3.set t33.toNat (WO.mk (b3.getD t33.toNat default).Value r2)),())) .d) .d) .d) (.k (x_0,x_1,x_2,x_3,x_4,x_5,x_6,x_7,t2_0,t2_1,t2_2,t2_3,t2_4,t2_5,t2_6,t2_7,b2,b3))
def zxv (zU:yC->Bool×yC) (x:zdH) (y:zk0):=zHJ zU x.2.2.1 x.2.2.2.1 y.1.1 y.1.2.1 y.1.2.2.1 y.1.2.2.2.2.1 y.1.2.2.2.2.2.2.1 y.1.2.2.2.2.2.2.2.1 y.1.2.2.2.2.2.2.2.2.1 y.1.2.2.2.2.2.2.2.2.2.1 y.2.1.1 y.2.1.2.1 y.2.1.2.2.1 y.2.1.2.2.2.2.1 y.2.1.2.2.2.2.2.2.1 y.2.1.2.2.2.2.2.2.2.1 y.2.1.2.2.2.2.2.2.2.2.1 y.2.1.2.2.2.2.2.2.2.2.2.1 y.2.2.1 y.2.2.2.1
def zIa (zU:yC->Bool×yC) (n:Nat) (t32:Int) (t33:Int) (x_0:Int) (x_1:Int) (x_2:Int) (x_3:Int) (x_4:Int) (x_5:Int) (x_6:Int) (x_7:ByteArray) (t2_0:Int) (t2_1:Int) (t2_2:Int) (t2_3:Int) (t2_4:Int) (t2_5:Int) (t2_6:Int) (t2_7:ByteArray) (b2:yA) (b3:yE):=zH (zxv zU) default n ((),(),t32,t33,()) ((x_0,x_1,x_2,(),x_3,(),x_4,x_5,x_6,x_7,()),(t2_0,t2_1,t2_2,(),t2_3,(),t2_4,t2_5,t2_6,t2_7,()),b2,b3,())
def zHA (r:zzh):LTree ty:=.done (.exit 2) [.ptr 200 0,.ptr 201 0] [.box ([.lit (.int .i64 r.1),.lit (.int .i64 r.2.1),.lit (.int .i64 r.2.2.1),.own 202,.lit (.int .i64 r.2.2.2.1),.own 203,.lit (.int .i64 r.2.2.2.2.1),.lit (.int .i64 r.2.2.2.2.2.1),.lit (.int .i64 r.2.2.2.2.2.2.1),.lit (.string r.2.2.2.2.2.2.2.1)]) false,.box ([.lit (.int .i64 r.2.2.2.2.2.2.2.2.1),.lit (.int .i64 r.2.2.2.2.2.2.2.2.2.1),.lit (.int .i64 r.2.2.2.2.2.2.2.2.2.2.1),.lit (.slice none 0 0),.lit (.int .i64 r.2.2.2.2.2.2.2.2.2.2.2.1),.lit (.slice none 0 0),.lit (.int .i64 r.2.2.2.2.2.2.2.2.2.2.2.2.1),.lit (.int .i64 r.2.2.2.2.2.2.2.2.2.2.2.2.2.1),.lit (.int .i64 r.2.2.2.2.2.2.2.2.2.2.2.2.2.2.1),.lit (.string r.2.2.2.2.2.2.2.2.2.2.2.2.2.2.2.1)]) false,.arr 23 r.2.2.2.2.2.2.2.2.2.2.2.2.2.2.2.2.1 false,.arr 100 r.2.2.2.2.2.2.2.2.2.2.2.2.2.2.2.2.2 false]
def zIr:BL ty zk0:=ziw (za (zO .i64) (za (zO .i64) (za (zO .i64) (za (zes 202) (za (zO .i64) (za (zes 203) (za (zO .i64) (za (zO .i64) (za (zO .i64) (za zp3 zm)))))))))) false (ziw (za (zO .i64) (za (zO .i64) (za (zO .i64) (za zbco (za (zO .i64) (za zbco (za (zO .i64) (za (zO .i64) (za (zO .i64) (za zp3 zm)))))))))) false (zew 23 false (zew 100 false (zbg))))
def zGy (x:zdH) (y:zk3):Nat:=(Int.toNat x.2.2.1+Int.toNat x.2.2.2.1+Int.toNat y.1.1+Int.toNat y.1.2.1+Int.toNat y.1.2.2.1+Int.toNat y.1.2.2.2.2.1+y.1.2.2.2.2.2.1.length+Int.toNat y.1.2.2.2.2.2.2.1+Int.toNat y.1.2.2.2.2.2.2.2.1+Int.toNat y.1.2.2.2.2.2.2.2.2.1+y.1.2.2.2.2.2.2.2.2.2.1.size+Int.toNat y.2.1.1+Int.toNat y.2.1.2.1+Int.toNat y.2.1.2.2.1+Int.toNat y.2.1.2.2.2.2.1+Int.toNat y.2.1.2.2.2.2.2.2.1+Int.toNat y.2.1.2.2.2.2.2.2.2.1+Int.toNat y.2.1.2.2.2.2.2.2.2.2.1+y.2.1.2.2.2.2.2.2.2.2.2.1.size+y.2.2.1.length+1)
def zGS (x:zdH) (y:zk0):Nat:=(Int.toNat x.2.2.1+Int.toNat x.2.2.2.1+Int.toNat y.1.1+Int.toNat y.1.2.1+Int.toNat y.1.2.2.1+Int.toNat y.1.2.2.2.2.1+Int.toNat y.1.2.2.2.2.2.2.1+Int.toNat y.1.2.2.2.2.2.2.2.1+Int.toNat y.1.2.2.2.2.2.2.2.2.1+y.1.2.2.2.2.2.2.2.2.2.1.size+Int.toNat y.2.1.1+Int.toNat y.2.1.2.1+Int.toNat y.2.1.2.2.1+Int.toNat y.2.1.2.2.2.2.1+Int.toNat y.2.1.2.2.2.2.2.2.1+Int.toNat y.2.1.2.2.2.2.2.2.2.1+Int.toNat y.2.1.2.2.2.2.2.2.2.2.1+y.2.1.2.2.2.2.2.2.2.2.2.1.size+y.2.2.1.length+y.2.2.2.1.length+1)
def znC (zU:yC->Bool×yC):=zbZ base 50 [(87,(zlS zU)),(181,zhP),(182,zji)] [] [(3,(kpL [1,2,11,12])),(9,(kpL [1,2,32,33]))] [(3,1,(kpL [1,2])),(9,3,(kpL [1,2]))] [(3,spW zIJ zH0 (zwQ zU) default zHH zGy),(9,spW zIJ zIr (zxv zU) default zHA zGS)] []
theorem zHn (zU:yC->Bool×yC):zD (znC zU) (lp (body f151) 0):=zq (id:=3) (hl:=rfl)
theorem zHp (zU:yC->Bool×yC):zD (znC zU) (lp (body f151) 1):=zq (id:=9) (hl:=rfl)
def zJI (zU:yC->Bool×yC) (x_:At):Wy0 (At):=.bn (zfi x_.Ag) λr7=>.bn (zIK zU ((Int.ofNat r7.length).toNat +Int.toNat 0+x_.Kind.toNat +x_.Row.Table.toNat +x_.Row.Seq.toNat +x_.Func.toNat +x_.Items.length+x_.Op.toNat +x_.Bd.Kind.toNat +x_.Bd.Int.toNat +x_.Bd.Text.size+Int.toNat 0+Int.toNat 0+Int.toNat 0+Int.toNat 0+Int.toNat 0+Int.toNat 0+Int.toNat 0+(ByteArray.mk #[]).size+r7.length+1) (Int.ofNat r7.length) 0 x_.Kind x_.Row.Table x_.Row.Seq x_.Func x_.Items x_.Op x_.Bd.Kind x_.Bd.Int x_.Bd.Text 0 0 0 0 0 0 0 (ByteArray.mk #[]) r7) λr6=>.bn (zgo r6.2.2.2.2.1) λr5=>.bn (zIa zU ((Int.ofNat r5.length).toNat +Int.toNat 0+r6.1.toNat +r6.2.1.toNat +r6.2.2.1.toNat +r6.2.2.2.1.toNat +r6.2.2.2.2.2.1.toNat +r6.2.2.2.2.2.2.1.toNat +r6.2.2.2.2.2.2.2.1.toNat +r6.2.2.2.2.2.2.2.2.1.size+r6.2.2.2.2.2.2.2.2.2.1.toNat +r6.2.2.2.2.2.2.2.2.2.2.1.toNat +r6.2.2.2.2.2.2.2.2.2.2.2.1.toNat +r6.2.2.2.2.2.2.2.2.2.2.2.2.1.toNat +r6.2.2.2.2.2.2.2.2.2.2.2.2.2.1.toNat +r6.2.2.2.2.2.2.2.2.2.2.2.2.2.2.1.toNat +r6.2.2.2.2.2.2.2.2.2.2.2.2.2.2.2.1.toNat +r6.2.2.2.2.2.2.2.2.2.2.2.2.2.2.2.2.1.size+r6.2.2.2.2.2.2.2.2.2.2.2.2.2.2.2.2.2.length+r5.length+1) (Int.ofNat r5.length) 0 r6.1 r6.2.1 r6.2.2.1 r6.2.2.2.1 r6.2.2.2.2.2.1 r6.2.2.2.2.2.2.1 r6.2.2.2.2.2.2.2.1 r6.2.2.2.2.2.2.2.2.1 r6.2.2.2.2.2.2.2.2.2.1 r6.2.2.2.2.2.2.2.2.2.2.1 r6.2.2.2.2.2.2.2.2.2.2.2.1 r6.2.2.2.2.2.2.2.2.2.2.2.2.1 r6.2.2.2.2.2.2.2.2.2.2.2.2.2.1 r6.2.2.2.2.2.2.2.2.2.2.2.2.2.2.1 r6.2.2.2.2.2.2.2.2.2.2.2.2.2.2.2.1 r6.2.2.2.2.2.2.2.2.2.2.2.2.2.2.2.2.1 r6.2.2.2.2.2.2.2.2.2.2.2.2.2.2.2.2.2 r5) λr4=>.k (⟨r4.1,(⟨r4.2.1,r4.2.2.1⟩:RowID),r4.2.2.2.2.2.2.2.2.2.2.2.2.2.2.2.2.1,r4.2.2.2.1,r4.2.2.2.2.2.2.2.2.2.2.2.2.2.2.2.2.2,r4.2.2.2.2.1,(⟨r4.2.2.2.2.2.1,r4.2.2.2.2.2.2.1,r4.2.2.2.2.2.2.2.1⟩:Value)⟩:At)
def zAa (zU:yC->Bool×yC) (x_:At):=(zJI zU x_).fin default
theorem zEz (zU:yC->Bool×yC) (zQi:SdP 87 (zlS zU)):SdP 151 (zlB (zAa zU)):=
 sT (cx':=(znC zU)) (zi ⟨zQi,zpy,zsY,trivial⟩) call151 func151 (lOK (aC (zHn zU) (aC (zHp zU) aN)))
def zJ9:Nat->(yC->Bool×yC)×(At->Bool×At)
 | 0=>(λ_=>(false,default),λ_=>(false,default))
 | n+1=>(zEZ ((zJ9 n).2),zAa ((zJ9 n).1))
def zES (n:Nat):yC->Bool×yC:=(zJ9 n).1
def zMt (n:Nat):At->Bool×At:=(zJ9 n).2
theorem zXr:∀ n,SdP 87 (zlS (zES n))/\SdP 151 (zlB (zMt n))
 | 0=>⟨zba call87 (λ_=>rfl),zba call151 (λ_=>rfl)⟩
 | n+1=>by
  have ih:=zXr n;exact ⟨zKj _ (ih.2),zEz _ (ih.1)⟩
def ziT:yC->Bool×yC:=zES 1000
def zgz:Ab.Spec ty:=zlS ziT
theorem ziH:SdP 87 zgz:=(zXr 1000).1
def zPT:=zbq base 9 [(62,ztd),(87,zgz)]
def zS7 (a:yC):Wy0 (yC×Int):=.bn (zla a) λr1=>.i (!r1) (.k ([],6)) (.bn (ziT a) λr0=>.k (r0,0))
def zfZ (a:yC):=(zS7 a).fin default
def zeA:=zh zWH λx=>((zfZ x.1).1,zOT (zfZ x.1).2)
theorem zfz:SdP 70 zeA:=
 sT (cx':=zPT) (zi ⟨zAh,ziH,trivial⟩) call70 func70 (lOK aN) (sg:=⟨[.own 28,.pure],[]⟩)
def zxI:=zbq base 27 []
def zyy (n_:Int):Wy0 (yC):=.i (decide (n_<0)) .d (.i (decide (IntKind.i64.wrap (n_ - IntKind.i64.wrap (0 - 0))>0)) (.i (decide (0<IntKind.i64.wrap (n_ - IntKind.i64.wrap (0 - 0)))&&(decide (IntKind.i64.wrap (n_ - IntKind.i64.wrap (0 - 0))*Int.ofNat 32<=Int.ofNat z7)&&(decide (IntKind.i64.wrap (n_ - IntKind.i64.wrap (0 - 0))<=Int.ofNat z7)&& !Nat.beq 2 0))) (.k (List.take (Int.toNat 0 - Int.toNat 0) (List.replicate (IntKind.i64.wrap (n_ - IntKind.i64.wrap (0 - 0))).toNat (TO.mk 0 [])))) .d) (.k []))
def zie (n_:Int):=(zyy n_).fin default
def zyD:AL base (Unit×Int×Unit):=zd (ze zbfh) (zd (ze zha) zp)
def zkK:=zh zyD λx=>((zie x.2.1).1,zOR (zie x.2.1).2)
theorem zvn:SdP 140 zkK:=
 sT (cx':=zxI) (zi trivial) call140 func140 (lOK aN) (sg:=⟨[.own 28],[]⟩)
abbrev zeK:=yA×Int×yA×Int×Int×Unit
abbrev zm1:=yA×Int
abbrev zeG:=Unit×yA×Int×Int×Unit
abbrev zeE:=yC×Unit
def zv4 (slices:yA) (size:Int) (t9:yA) (t10:Int) (t11:Int):Wy zeK Unit zm1:=.i (decide (t11<t10)) (.i (decide (0<=t11)&&decide (t11<Int.ofNat t9.length)) (.i (decide (IntKind.i64.wrap (size+Int.ofNat (List.length (t9.getD t11.toNat default)))<0)) .d (.h (slices,(IntKind.i64.wrap (size+Int.ofNat (List.length (t9.getD t11.toNat default)))),t9,t10,(IntKind.i64.wrap (t11+1)),()) ())) .d) (.k (slices,size))
def zkU (x:zeK) (y:Unit):=zv4 x.1 x.2.1 x.2.2.1 x.2.2.2.1 x.2.2.2.2.1
def zv8 (n:Nat) (slices:yA) (size:Int) (t9:yA) (t10:Int) (t11:Int):=zH (zkU) default n (slices,size,t9,t10,t11,()) ()
def zvt (r:zm1):LTree ty:=.done (.exit 0) [.sl 23 r.1,.lit (.int .i64 r.2)] []
def zwe:LL ty zeK:=za (lSl 23) (za zj (za (lSl 23) (za zj (za zj zm))))
def zvD (t25:yA) (t26:Int) (t27:Int) (newslice:yC):Wy zeG zeE (yC):=.i (decide (t27<t26)) (.i (decide (0<=t27)&&decide (t27<Int.ofNat t25.length)) (.i (decide ((newslice.length+List.length (t25.getD t27.toNat default))*32<=z7)) (.h ((),t25,t26,(IntKind.i64.wrap (t27+1)),()) ((newslice++t25.getD t27.toNat default),())) .d) .d) (.k newslice)
def zkp (x:zeG) (y:zeE):=zvD x.2.1 x.2.2.1 x.2.2.2.1 y.1
def zvu (n:Nat) (t25:yA) (t26:Int) (t27:Int) (newslice:yC):=zH (zkp) default n ((),t25,t26,t27,()) (newslice,())
def zu9 (r:yC):LTree ty:=.done (.exit 2) [.own 144] [.arr 28 r false]
def zvh:LL ty zeG:=za (zes 144) (za (lSl 23) (za zj (za zj zm)))
def zvE:BL ty zeE:=zew 28 false (zbg)
def zvk (x:zeK) (y:Unit):Nat:=(x.1.length+Int.toNat x.2.1+x.2.2.1.length+Int.toNat x.2.2.2.1+Int.toNat x.2.2.2.2.1+1)
def zu6 (x:zeG) (y:zeE):Nat:=(x.2.1.length+Int.toNat x.2.2.1+Int.toNat x.2.2.2.1+y.1.length+1)
def zgg:=zbZ base 36 [(140,zkK)] [] [(3,(kpL [0,3,9,10,11])),(11,(kpL [6,25,26,27]))] [(3,1,(kpL [0,3])),(11,3,(kpL [6]))] [(3,spW zwe z8a (zkU) default zvt zvk),(11,spW zvh zvE (zkp) default zu9 zu6)] [140]
theorem zvz:zD zgg (lp (body f72) 0):=zq (id:=3) (hl:=rfl)
theorem zuY:zD zgg (lp (body f72) 1):=zq (id:=11) (hl:=rfl)
def zw3 (slices:yA):Wy0 (yC):=.bn (zv8 (slices.length+Int.toNat 0+slices.length+(Int.ofNat slices.length).toNat +Int.toNat 0+1) slices 0 slices (Int.ofNat slices.length) 0) λr2=>.bn (zie r2.2) λr1=>.bn (zvu (r2.1.length+(Int.ofNat r2.1.length).toNat +Int.toNat 0+r1.length+1) r2.1 (Int.ofNat r2.1.length) 0 r1) λr0=>.k r0
def zhc (slices:yA):=(zw3 slices).fin default
def zwW:AL base (yA×Unit):=zd (ze (vSl 23)) zp
def zjU:=zh zwW λx=>((zhc x.1).1,zOR (zhc x.1).2)
theorem ztY:SdP 72 zjU:=
 sT (cx':=zgg) (zi ⟨zvn,trivial⟩) call72 func72 (lOK (aC zvz (aC zuY aN))) (sg:=⟨[.own 28],[]⟩)
def zZR:=zbq zbU 22 [(20,zcs),(70,zeA),(71,zrD),(72,zjU)]
def z1V (a:yC) (b:yC):Wy0 (yC×Int):=.bn (zb7 a) λr4=>.i (!r4) (.k ([],1)) (.bn (zb7 b) λr3=>.i (!r3) (.k ([],1)) (.bn (zhc [a,b]) λr2=>.bn (zsV r2) λr1=>.bn (zfZ r1) λr0=>.k (r0.1,r0.2)))
def zFw (a:yC) (b:yC):=(z1V a b).fin default
def z1D:AL zbU (yC×yC×Unit):=zd (ze (vSl 28)) (zd (ze (vSl 28)) zp)
def zE2:=zh z1D λx=>((zFw x.1 x.2.1).1,zOT (zFw x.1 x.2.1).2)
theorem zSE:Sound Tryz.prog zbU 23 zE2:=
 sU (cx':=zZR) (zi ⟨zcC.nodr,zfz.nodr,zy8,ztY.nodr,trivial⟩) call23 func23 (lOK aN) (sg:=⟨[.own 28,.pure],[]⟩)
def zUx:=zbq base 9 []
def zX8 (n_:Int):Wy0 (yC):=.i (decide (n_<1)) (.k []) (.k [TO.mk (if 1152921504606846976<n_ then 1152921504606846976 else n_) []])
def zBZ (n_:Int):=(zX8 n_).fin default
def zCH:=zh zZB λx=>((zBZ x.1).1,zOR (zBZ x.1).2)
theorem zO8:SdP 149 zCH:=
 sT (cx':=zUx) (zi trivial) call149 func149 (lOK aN) (sg:=⟨[.own 28],[]⟩)
def zyz:=zbq base 27 []
def zza (n_:Int):Wy0 (yD):=.i (decide (n_<0)) .d (.i (decide (IntKind.i64.wrap (n_ - IntKind.i64.wrap (0 - 0))>0)) (.i (decide (0<IntKind.i64.wrap (n_ - IntKind.i64.wrap (0 - 0)))&&(decide (IntKind.i64.wrap (n_ - IntKind.i64.wrap (0 - 0))*Int.ofNat 128<=Int.ofNat z7)&&(decide (IntKind.i64.wrap (n_ - IntKind.i64.wrap (0 - 0))<=Int.ofNat z7)&& !Nat.beq 11 0))) (.k (List.take (Int.toNat 0 - Int.toNat 0) (List.replicate (IntKind.i64.wrap (n_ - IntKind.i64.wrap (0 - 0))).toNat (FO.mk (At.mk 0 (RowID.mk 0 0) [] 0 [] 0 (Value.mk 0 0 (ByteArray.mk #[]))) 0)))) .d) (.k []))
def ziR (n_:Int):=(zza n_).fin default
def zxW (r:yD):ARes ty:=⟨[.own 69 r],[]⟩
def zlh:=zh zyD λx=>((ziR x.2.1).1,zxW (ziR x.2.1).2)
theorem zv3:SdP 220 zlh:=
 sT (cx':=zyz) (zi trivial) call220 func220 (lOK aN) (sg:=⟨[.own 69],[]⟩)
abbrev ze5:=List (yD)×Int×List (yD)×Int×Int×Unit
abbrev znr:=List (yD)×Int
abbrev ze6:=Unit×List (yD)×Int×Int×Unit
abbrev zfd:=yD×Unit
def zxp (slices:List (yD)) (size:Int) (t9:List (yD)) (t10:Int) (t11:Int):Wy ze5 Unit znr:=.i (decide (t11<t10)) (.i (decide (0<=t11)&&decide (t11<Int.ofNat t9.length)) (.i (decide (IntKind.i64.wrap (size+Int.ofNat (List.length (t9.getD t11.toNat default)))<0)) .d (.h (slices,(IntKind.i64.wrap (size+Int.ofNat (List.length (t9.getD t11.toNat default)))),t9,t10,(IntKind.i64.wrap (t11+1)),()) ())) .d) (.k (slices,size))
def zll (x:ze5) (y:Unit):=zxp x.1 x.2.1 x.2.2.1 x.2.2.2.1 x.2.2.2.2.1
def zxe (n:Nat) (slices:List (yD)) (size:Int) (t9:List (yD)) (t10:Int) (t11:Int):=zH (zll) default n (slices,size,t9,t10,t11,()) ()
def zwh (r:znr):LTree ty:=.done (.exit 0) [.sl 26 r.1,.lit (.int .i64 r.2)] []
def zxb:LL ty ze5:=za (lSl 26) (za zj (za (lSl 26) (za zj (za zj zm))))
def zwt (t25:List (yD)) (t26:Int) (t27:Int) (newslice:yD):Wy ze6 zfd (yD):=.i (decide (t27<t26)) (.i (decide (0<=t27)&&decide (t27<Int.ofNat t25.length)) (.i (decide ((newslice.length+List.length (t25.getD t27.toNat default))*128<=z7)) (.h ((),t25,t26,(IntKind.i64.wrap (t27+1)),()) ((newslice++t25.getD t27.toNat default),())) .d) .d) (.k newslice)
def zkW (x:ze6) (y:zfd):=zwt x.2.1 x.2.2.1 x.2.2.2.1 y.1
def zvZ (n:Nat) (t25:List (yD)) (t26:Int) (t27:Int) (newslice:yD):=zH (zkW) default n ((),t25,t26,t27,()) (newslice,())
def zvm (r:yD):LTree ty:=.done (.exit 2) [.own 144] [.arr 69 r false]
def zwl:LL ty ze6:=za (zes 144) (za (lSl 26) (za zj (za zj zm)))
def zwI:BL ty zfd:=zew 69 false (zbg)
def zwM (x:ze5) (y:Unit):Nat:=(x.1.length+Int.toNat x.2.1+x.2.2.1.length+Int.toNat x.2.2.2.1+Int.toNat x.2.2.2.2.1+1)
def zvy (x:ze6) (y:zfd):Nat:=(x.2.1.length+Int.toNat x.2.2.1+Int.toNat x.2.2.2.1+y.1.length+1)
def zgs:=zbZ base 36 [(220,zlh)] [] [(3,(kpL [0,3,9,10,11])),(11,(kpL [6,25,26,27]))] [(3,1,(kpL [0,3])),(11,3,(kpL [6]))] [(3,spW zxb z8a (zll) default zwh zwM),(11,spW zwl zwI (zkW) default zvm zvy)] [220]
theorem zv1:zD zgs (lp (body f183) 0):=zq (id:=3) (hl:=rfl)
theorem zvB:zD zgs (lp (body f183) 1):=zq (id:=11) (hl:=rfl)
def zxR (slices:List (yD)):Wy0 (yD):=.bn (zxe (slices.length+Int.toNat 0+slices.length+(Int.ofNat slices.length).toNat +Int.toNat 0+1) slices 0 slices (Int.ofNat slices.length) 0) λr2=>.bn (ziR r2.2) λr1=>.bn (zvZ (r2.1.length+(Int.ofNat r2.1.length).toNat +Int.toNat 0+r1.length+1) r2.1 (Int.ofNat r2.1.length) 0 r1) λr0=>.k r0
def zhw (slices:List (yD)):=(zxR slices).fin default
def zxU:AL base (List (yD)×Unit):=zd (ze (vSl 26)) zp
def zkq:=zh zxU λx=>((zhw x.1).1,zxW (zhw x.1).2)
theorem zva:SdP 183 zkq:=
 sT (cx':=zgs) (zi ⟨zv3,trivial⟩) call183 func183 (lOK (aC zv1 (aC zvB aN))) (sg:=⟨[.own 69],[]⟩)
abbrev zsI:=yD×yD×Unit×Unit
abbrev zsq:=yD×Unit
abbrev zGY:=yD×yD×yD
def zWM (a:yD) (b:yD) (out_:yD):Wy zsI zsq zGY:=.i (decide (Int.ofNat a.length>0)) (.i (decide (Int.ofNat b.length>0)) (.i (decide ((0:Int)<=(0:Int))&&decide (0<Int.ofNat a.length)) (.i (decide ((0:Int)<=(0:Int))&&decide (0<Int.ofNat b.length)) (.bn (ziI (At.mk (a.getD (Int.toNat 0) default).At.Kind (a.getD (Int.toNat 0) default).At.Row (a.getD (Int.toNat 0) default).At.Ag (a.getD (Int.toNat 0) default).At.Func (a.getD (Int.toNat 0) default).At.Items (a.getD (Int.toNat 0) default).At.Op (a.getD (Int.toNat 0) default).At.Bd) (At.mk (b.getD (Int.toNat 0) default).At.Kind (b.getD (Int.toNat 0) default).At.Row (b.getD (Int.toNat 0) default).At.Ag (b.getD (Int.toNat 0) default).At.Func (b.getD (Int.toNat 0) default).At.Items (b.getD (Int.toNat 0) default).At.Op (b.getD (Int.toNat 0) default).At.Bd)) λr1=>.i (decide (r1<0)) (.i (decide ((0:Int)<=(0:Int))&&decide (0<Int.ofNat a.length)) (.i (decide ((out_.length+[FO.mk (At.mk (a.getD (Int.toNat 0) default).At.Kind (a.getD (Int.toNat 0) default).At.Row (a.getD (Int.toNat 0) default).At.Ag (a.getD (Int.toNat 0) default).At.Func (a.getD (Int.toNat 0) default).At.Items (a.getD (Int.toNat 0) default).At.Op (a.getD (Int.toNat 0) default).At.Bd) (a.getD (Int.toNat 0) default).Exp].length)*128<=z7)) (.i (decide ((0:Int)<=(1:Int))&&decide (1<=Int.ofNat a.length)&&decide (Int.ofNat a.length<=Int.ofNat a.length)) (.h ((List.take ((Int.ofNat a.length).toNat - Int.toNat 1) (List.drop (Int.toNat 1) a)),b,(),()) ((out_++[FO.mk (At.mk (a.getD (Int.toNat 0) default).At.Kind (a.getD (Int.toNat 0) default).At.Row (a.getD (Int.toNat 0) default).At.Ag (a.getD (Int.toNat 0) default).At.Func (a.getD (Int.toNat 0) default).At.Items (a.getD (Int.toNat 0) default).At.Op (a.getD (Int.toNat 0) default).At.Bd) (a.getD (Int.toNat 0) default).Exp]),())) .d) .d) .d) (.i (decide (r1>0)) (.i (decide ((0:Int)<=(0:Int))&&decide (0<Int.ofNat b.length)) (.i (decide ((out_.length+[FO.mk (At.mk (b.getD (Int.toNat 0) default).At.Kind (b.getD (Int.toNat 0) default).At.Row (b.getD (Int.toNat 0) default).At.Ag (b.getD (Int.toNat 0) default).At.Func (b.getD (Int.toNat 0) default).At.Items (b.getD (Int.toNat 0) default).At.Op (b.getD (Int.toNat 0) default).At.Bd) (b.getD (Int.toNat 0) default).Exp].length)*128<=z7)) (.i (decide ((0:Int)<=(1:Int))&&decide (1<=Int.ofNat b.length)&&decide (Int.ofNat b.length<=Int.ofNat b.length)) (.h (a,(List.take ((Int.ofNat b.length).toNat - Int.toNat 1) (List.drop (Int.toNat 1) b)),(),()) ((out_++[FO.mk (At.mk (b.getD (Int.toNat 0) default).At.Kind (b.getD (Int.toNat 0) default).At.Row (b.getD (Int.toNat 0) default).At.Ag (b.getD (Int.toNat 0) default).At.Func (b.getD (Int.toNat 0) default).At.Items (b.getD (Int.toNat 0) default).At.Op (b.getD (Int.toNat 0) default).At.Bd) (b.getD (Int.toNat 0) default).Exp]),())) .d) .d) .d) (.i (decide ((0:Int)<=(0:Int))&&decide (0<Int.ofNat a.length)) (.bn (zfK (At.mk (a.getD (Int.toNat 0) default).At.Kind (a.getD (Int.toNat 0) default).At.Row (a.getD (Int.toNat 0) default).At.Ag (a.getD (Int.toNat 0) default).At.Func (a.getD (Int.toNat 0) default).At.Items (a.getD (Int.toNat 0) default).At.Op (a.getD (Int.toNat 0) default).At.Bd)) λr0=>.i (!r0) (.i (decide ((0:Int)<=(0:Int))&&decide (0<Int.ofNat b.length)) (.i (decide ((out_.length+[FO.mk (At.mk (a.getD (Int.toNat 0) default).At.Kind (a.getD (Int.toNat 0) default).At.Row (a.getD (Int.toNat 0) default).At.Ag (a.getD (Int.toNat 0) default).At.Func (a.getD (Int.toNat 0) default).At.Items (a.getD (Int.toNat 0) default).At.Op (a.getD (Int.toNat 0) default).At.Bd) (IntKind.i64.wrap ((a.getD (Int.toNat 0) default).Exp+(b.getD (Int.toNat 0) default).Exp))].length)*128<=z7)) (.i (decide ((0:Int)<=(1:Int))&&decide (1<=Int.ofNat a.length)&&decide (Int.ofNat a.length<=Int.ofNat a.length)) (.i (decide ((0:Int)<=(1:Int))&&decide (1<=Int.ofNat b.length)&&decide (Int.ofNat b.length<=Int.ofNat b.length)) (.h ((List.take ((Int.ofNat a.length).toNat - Int.toNat 1) (List.drop (Int.toNat 1) a)),(List.take ((Int.ofNat b.length).toNat - Int.toNat 1) (List.drop (Int.toNat 1) b)),(),()) ((out_++[FO.mk (At.mk (a.getD (Int.toNat 0) default).At.Kind (a.getD (Int.toNat 0) default).At.Row (a.getD (Int.toNat 0) default).At.Ag (a.getD (Int.toNat 0) default).At.Func (a.getD (Int.toNat 0) default).At.Items (a.getD (Int.toNat 0) default).At.Op (a.getD (Int.toNat 0) default).At.Bd) (IntKind.i64.wrap ((a.getD (Int.toNat 0) default).Exp+(b.getD (Int.toNat 0) default).Exp))]),())) .d) .d) .d) .d) (.i (decide ((out_.length+[FO.mk (At.mk (a.getD (Int.toNat 0) default).At.Kind (a.getD (Int.toNat 0) default).At.Row (a.getD (Int.toNat 0) default).At.Ag (a.getD (Int.toNat 0) default).At.Func (a.getD (Int.toNat 0) default).At.Items (a.getD (Int.toNat 0) default).At.Op (a.getD (Int.toNat 0) default).At.Bd) (a.getD (Int.toNat 0) default).Exp].length)*128<=z7)) (.i (decide ((0:Int)<=(1:Int))&&decide (1<=Int.ofNat a.length)&&decide (Int.ofNat a.length<=Int.ofNat a.length)) (.i (decide ((0:Int)<=(1:Int))&&decide (1<=Int.ofNat b.length)&&decide (Int.ofNat b.length<=Int.ofNat b.length)) (.h ((List.take ((Int.ofNat a.length).toNat - Int.toNat 1) (List.drop (Int.toNat 1) a)),(List.take ((Int.ofNat b.length).toNat - Int.toNat 1) (List.drop (Int.toNat 1) b)),(),()) ((out_++[FO.mk (At.mk (a.getD (Int.toNat 0) default).At.Kind (a.getD (Int.toNat 0) default).At.Row (a.getD (Int.toNat 0) default).At.Ag (a.getD (Int.toNat 0) default).At.Func (a.getD (Int.toNat 0) default).At.Items (a.getD (Int.toNat 0) default).At.Op (a.getD (Int.toNat 0) default).At.Bd) (a.getD (Int.toNat 0) default).Exp]),())) .d) .d) .d)) .d))) .d) .d) (.k (a,b,out_))) (.k (a,b,out_))
def zGT (x:zsI) (y:zsq):=zWM x.1 x.2.1 y.1
def zW6 (n:Nat) (a:yD) (b:yD) (out_:yD):=zH (zGT) default n (a,b,(),()) (out_,())
def zUi (r:zGY):LTree ty:=.done (.exit 0) [.sl 69 r.1,.sl 69 r.2.1,.own 300] [.arr 69 r.2.2 false]
def zXQ:LL ty zsI:=za (lSl 69) (za (lSl 69) (za (zes 300) zm))
def zXE:BL ty zsq:=zew 69 false (zbg)
def zUz (x:zsI) (y:zsq):Nat:=(x.1.length+x.2.1.length+y.1.length+1)
def zHc:=zbZ base 75 [(64,zjz),(65,zlY),(183,zkq)] [] [(2,[(0,.keep),(1,.keep),(5,.own 69)])] [(2,1,(kpL [0,1,5]))] [(2,spW zXQ zXE (zGT) default zUi zUz)] []
theorem zVi:zD zHc (lp (body f154) 0):=zq (id:=2) (hl:=rfl)
def zY7 (a:yD) (b:yD):Wy0 (yD):=.bn (zW6 (a.length+b.length+0+1) a b []) λr5=>.bn (zhw [r5.2.2,r5.1,r5.2.1]) λr4=>.k r4
def zDE (a:yD) (b:yD):=(zY7 a b).fin default
def zZP:AL base (yD×yD×Unit):=zd (ze (vSl 69)) (zd (ze (vSl 69)) zp)
def zEh:=zh zZP λx=>((zDE x.1 x.2.1).1,zxW (zDE x.1 x.2.1).2)
theorem zQu:SdP 154 zEh:=
 sT (cx':=zHc) (zi ⟨zmD,ztS,zva,trivial⟩) call154 func154 (lOK (aC zVi aN)) (sg:=⟨[.own 69],[]⟩)
def zVu:=zbq base 12 []
def zVU (a:Int) (b:Int):Wy0 (Int):=.i (!decide (b=0)) (.i (decide (a>IntKind.i64.wrap (Int.tdiv 1152921504606846976 b))) (.k 1152921504606846976) (.k (IntKind.i64.wrap (a*b)))) .d
def zBT (a:Int) (b:Int):=(zVU a b).fin default
def zCm:=zh zVp λx=>((zBT x.1 x.2.1).1,zOF (zBT x.1 x.2.1).2)
theorem zOH:SdP 153 zCm:=
 sT (cx':=zVu) (zi trivial) call153 func153 (lOK aN)
abbrev zuh:=yC×Unit×Unit×yC×Int×Int×yC×Int×Int×Unit
abbrev zuc:=yC×Term×Unit
abbrev zI7:=yC×yC×Int×Int×yC
abbrev zua:=yC×Unit×yC×Int×Int×Unit
abbrev zug:=yC×Unit
def z0D (b:yC) (t19:yC) (t20:Int) (t21:Int) (t25:yC) (t26:Int) (t27:Int) (terms:yC) (x_:Term):Wy zuh zuc zI7:=.i (decide (t27<t26)) (.i (decide (0<=t27)&&decide (t27<Int.ofNat t25.length)) (.bn (zBT x_.Cf (t25.getD t27.toNat default).Cf) λr5=>.bn (zDE x_.Fs (t25.getD t27.toNat default).Fs) λr4=>.i (decide ((terms.length+[TO.mk r5 r4].length)*32<=z7)) (.h (b,(),(),t19,t20,t21,t25,t26,(IntKind.i64.wrap (t27+1)),()) ((terms++[TO.mk r5 r4]),x_,())) .d) .d) (.k (b,t19,t20,t21,terms))
def zIV (x:zuh) (y:zuc):=z0D x.1 x.2.2.2.1 x.2.2.2.2.1 x.2.2.2.2.2.1 x.2.2.2.2.2.2.1 x.2.2.2.2.2.2.2.1 x.2.2.2.2.2.2.2.2.1 y.1 y.2.1
def z0t (n:Nat) (b:yC) (t19:yC) (t20:Int) (t21:Int) (t25:yC) (t26:Int) (t27:Int) (terms:yC) (x_:Term):=zH (zIV) default n (b,(),(),t19,t20,t21,t25,t26,t27,()) (terms,x_,())
def zYw (r:zI7):LTree ty:=.done (.exit 2) [.sl 28 r.1,.own 208,.sl 28 r.2.1,.lit (.int .i64 r.2.2.1),.lit (.int .i64 r.2.2.2.1)] [.arr 28 r.2.2.2.2 false]
def zZa:LL ty zuh:=za (lSl 28) (za (zes 208) (za (zfa 209 0) (za (lSl 28) (za zj (za zj (za (lSl 28) (za zj (za zj zm))))))))
def zZZ:BL ty zuc:=zew 28 false (ziw (zgt (λx=>(⟨x.1,x.2.1⟩:Term)) (λx=>(x.Cf,x.Fs,())) (λ_=>rfl) (za (zO .i64) (za (lSl 69) zm))) false (zbg))
def zZU (b:yC) (t19:yC) (t20:Int) (t21:Int) (terms:yC):Wy zua zug (yC):=.i (decide (t21<t20)) (.i (decide (0<=t21)&&decide (t21<Int.ofNat t19.length)) (.bn (z0t (b.length+t19.length+t20.toNat +t21.toNat +b.length+(Int.ofNat b.length).toNat +Int.toNat 0+terms.length+(t19.getD t21.toNat default).Fs.length+1) b t19 t20 t21 b (Int.ofNat b.length) 0 terms (t19.getD t21.toNat default)) λr8=>.h ((r8.1),(),(r8.2.1),(r8.2.2.1),(IntKind.i64.wrap (r8.2.2.2.1+1)),()) ((r8.2.2.2.2),())) .d) (.k terms)
def zJd (x:zua) (y:zug):=zZU x.1 x.2.2.1 x.2.2.2.1 x.2.2.2.2.1 y.1
def zZl (n:Nat) (b:yC) (t19:yC) (t20:Int) (t21:Int) (terms:yC):=zH (zJd) default n (b,(),t19,t20,t21,()) (terms,())
def zZb:LL ty zua:=za (lSl 28) (za (zes 208) (za (lSl 28) (za zj (za zj zm))))
def z0y:BL ty zug:=zew 28 false (zbg)
def zV6 (x:zuh) (y:zuc):Nat:=(x.1.length+x.2.2.2.1.length+Int.toNat x.2.2.2.2.1+Int.toNat x.2.2.2.2.2.1+x.2.2.2.2.2.2.1.length+Int.toNat x.2.2.2.2.2.2.2.1+Int.toNat x.2.2.2.2.2.2.2.2.1+y.1.length+y.2.1.Fs.length+1)
def zVK (x:zua) (y:zug):Nat:=(x.1.length+x.2.2.1.length+Int.toNat x.2.2.2.1+Int.toNat x.2.2.2.2.1+y.1.length+1)
def zAy:=zbZ zbU 52 [(20,zcs),(70,zeA),(71,zrD),(153,zCm),(154,zEh)] [] [(5,[(1,.keep),(6,.own 28),(19,.keep),(20,.keep),(21,.keep)]),(8,[(1,.keep),(6,.own 28),(8,.keep),(19,.keep),(20,.keep),(21,.keep),(25,.keep),(26,.keep),(27,.keep)])] [(5,1,(kpL [6])),(8,3,(kpL [1,6,19,20,21]))] [(8,spW zZa zZZ (zIV) default zYw zV6),(5,spW zZb z0y (zJd) default zOJ zVK)] []
theorem zX5:zD zAy (lp (body f92) 1):=zq (id:=8) (hl:=rfl)
theorem zWq:zD zAy (lp (body f92) 0):=zq (id:=5) (hl:=rfl)
def z1I (a:yC) (b:yC):Wy0 (yC×Int):=.bn (zb7 a) λr14=>.i (!r14) (.k ([],1)) (.bn (zb7 b) λr13=>.i (!r13) (.k ([],1)) (.bn (zZl (b.length+a.length+(Int.ofNat a.length).toNat +Int.toNat 0+0+1) b a (Int.ofNat a.length) 0 []) λr12=>.bn (zsV r12) λr11=>.bn (zfZ r11) λr10=>.k (r10.1,r10.2)))
def zFH (a:yC) (b:yC):=(z1I a b).fin default
def zEN:=zh z1D λx=>((zFH x.1 x.2.1).1,zOT (zFH x.1 x.2.1).2)
theorem zRQ:Sound Tryz.prog zbU 92 zEN:=
 sU (cx':=zAy) (zi ⟨zcC.nodr,zfz.nodr,zy8,zOH.nodr,zQu.nodr,trivial⟩) call92 func92 (lOK (aC zWq (aC zX5 aN))) (sg:=⟨[.own 28,.pure],[]⟩)
def zDD:=zbq base 8 []
def zEm (b:Bg) (p1:RowID):Wy0 (Bool):=.k (b.Row.Table==p1.Table&&(b.Row.Seq==p1.Seq&&true))
def zmE (b:Bg) (p1:RowID):=(zEm b p1).fin default
def zEt:AL base (Bg×RowID×Unit):=zd (ze (zcx 51)) (zd (ze (zx7 49)) zp)
def zjK:=zh zEt λx=>((zmE x.1 x.2.1).1,zVf (zmE x.1 x.2.1).2)
theorem zpd:SdP 86 zjK:=
 sT (cx':=zDD) (zi trivial) call86 func86 (lOK aN)
def zSe:=zbq base 8 []
def zVa (x_:At):Wy0 (yC):=.k [TO.mk 1 [FO.mk (At.mk x_.Kind x_.Row x_.Ag x_.Func x_.Items x_.Op x_.Bd) 1]]
def ziW (x_:At):=(zVa x_).fin default
def zgD:=zh zBm λx=>((ziW x.1).1,zOR (ziW x.1).2)
theorem ziM:SdP 152 zgD:=
 sT (cx':=zSe) (zi trivial) call152 func152 (lOK aN) (sg:=⟨[.own 28],[]⟩)
def zZA:=zbq base 9 [(128,zuj),(152,zgD)]
def z2G (id:RowID):Wy0 (yC):=.bn (zp0 id) λr0=>.i (!r0) (.k []) (.k ((ziW (At.mk 0 id [] 0 [] 0 (Value.mk 0 0 (ByteArray.mk #[])))).2))
def zFy (id:RowID):=(z2G id).fin default
def zEX:=zh z5M λx=>((zFy x.1).1,zOR (zFy x.1).2)
theorem zSF:SdP 88 zEX:=
 sT (cx':=zZA) (zi ⟨zzG,ziM,trivial⟩) call88 func88 (lOK aN) (sg:=⟨[.own 28],[]⟩)
abbrev zdW:=yG×(RowID×Unit)×Int×Int×Unit
def zqP (s:yG) (f:RowID) (t7:Int) (t8:Int):Wy zdW Unit (Int⊕Unit):=.i (decide (t8<t7)) (.i (decide (0<=t8)&&decide (t8<Int.ofNat s.length)) (.i ((zmE (s.getD t8.toNat default) f).2) (.k (.inl t8)) (.h (s,(f,()),t7,(IntKind.i64.wrap (t8+1)),()) ())) .d) (.k (.inr ()))
def zh9 (x:zdW) (y:Unit):=zqP x.1 x.2.1.1 x.2.2.1 x.2.2.2.1
def zqR (n:Nat) (s:yG) (f:RowID) (t7:Int) (t8:Int):=zH (zh9) (.inl default) n (s,(f,()),t7,t8,()) ()
def zq3:LL ty zdW:=za (lSl 51) (za (lFn 86 (za (zmY (zgt (λx=>(⟨x.1,x.2.1⟩:RowID)) (λx=>(x.Table,x.Seq,())) (λ_=>rfl) (za zj (za zj zm))) 0) zm)) (za zj (za zj zm)))
def zqe (x:zdW) (y:Unit):Nat:=(x.1.length+Int.toNat x.2.2.1+Int.toNat x.2.2.2.1+1)
def zh5:=zbZ base 19 [(86,zjK)] [] [(2,(kpL [0,1,7,8]))] [(2,1,[]),(2,0,(kpL [4]))] [(2,spW zq3 z8a (zh9) (.inl default) zrC zqe)] []
theorem zpY:zD zh5 (lp (body f85) 0):=zq (id:=2) (hl:=rfl)
def zrM (s:yG) (f:RowID):Wy0 (Int):=.bn (zqR (s.length+(Int.ofNat s.length).toNat +Int.toNat 0+1) s f (Int.ofNat s.length) 0) λr0=>.i (isL r0) (.k (getL r0)) (.k (-1:Int))
def ze0 (s:yG) (f:RowID):=(zrM s f).fin default
def zrU:AL base (yG×(RowID×Unit)×Unit):=zd (ze (vSl 51)) (zd (ze (vFn 86 (zdv (zx7 49) zbT))) zp)
def zhk:=zh zrU λx=>((ze0 x.1 x.2.1.1).1,zOF (ze0 x.1 x.2.1.1).2)
theorem zov:SdP 85 zhk:=
 sT (cx':=zh5) (zi ⟨zpd,trivial⟩) call85 func85 (lOK (aC zpY aN))
def zGC:=zbq base 18 [(85,zhk),(86,zjK),(87,zgz),(88,zEX)]
def zIm (id:RowID) (p1:yG):Wy0 (yC):=.bn (ze0 p1 id) λr2=>.i (decide (r2≥0)) (.i (decide (0<=r2)&&decide (r2<Int.ofNat p1.length)) (.bn (ziT (p1.getD r2.toNat default).To) λr0=>.k r0) .d) (.bn (zFy id) λr1=>.k r1)
def zpX (id:RowID) (p1:yG):=(zIm id p1).fin default
def zIN:AL base (RowID×(yG×Unit)×Unit):=zd (ze (zcx 49)) (zd (ze (ztA (zdv (vSl 51) zbT))) zp)
def zhu:=zh zIN λx=>((zpX x.1 x.2.1.1).1,zOR (zpX x.1 x.2.1.1).2)
theorem zk6:SdP 84 zhu:=
 sT (cx':=zGC) (zi ⟨zov,zpd,ziH,zSF,trivial⟩) call84 func84 (lOK aN) (sg:=⟨[.own 28],[]⟩)
abbrev znn:=((yG×Unit)×Unit)×Unit×Unit×yC×Int×yC×Int×Int×yD×Int×Int×Int×Int×Unit
abbrev zer:=yC×yC×Unit
abbrev zB8:=yG×Int×yC×Int×Int×yD×Int×Int×yC×yC
abbrev znA:=((yG×Unit)×Unit)×Unit×Unit×yC×Int×Int×yD×Int×Int×Unit
abbrev zCF:=Int⊕(yG×yC×Int×Int×yC×yC)
abbrev znl:=((yG×Unit)×Unit)×Unit×yC×Int×Int×Unit
abbrev znf:=yC×Unit
abbrev zCn:=Int⊕yC
def zLK (zn:At->yG->Bool×(yC×Int)) (to:yG) (b:yC) (e:Int) (t16:yC) (t17:Int) (t18:Int) (t26:yD) (t27:Int) (t28:Int) (t40:Int) (t41:Int) (sum:yC) (product:yC):Wy znn zer zB8:=.i (decide (t41<t40)) (.i (e==0) (.bn (zFH product b) λr6=>.h (((to,()),()),(),(),b,(r6.2),t16,t17,t18,t26,t27,t28,t40,(IntKind.i64.wrap (t41+1)),()) (sum,(r6.1),())) (.h (((to,()),()),(),(),b,e,t16,t17,t18,t26,t27,t28,t40,(IntKind.i64.wrap (t41+1)),()) (sum,product,()))) (.k (to,e,t16,t17,t18,t26,t27,t28,sum,product))
def zzc (zn:At->yG->Bool×(yC×Int)) (x:znn) (y:zer):=zLK zn x.1.1.1 x.2.2.2.1 x.2.2.2.2.1 x.2.2.2.2.2.1 x.2.2.2.2.2.2.1 x.2.2.2.2.2.2.2.1 x.2.2.2.2.2.2.2.2.1 x.2.2.2.2.2.2.2.2.2.1 x.2.2.2.2.2.2.2.2.2.2.1 x.2.2.2.2.2.2.2.2.2.2.2.1 x.2.2.2.2.2.2.2.2.2.2.2.2.1 y.1 y.2.1
def zMp (zn:At->yG->Bool×(yC×Int)) (n:Nat) (to:yG) (b:yC) (e:Int) (t16:yC) (t17:Int) (t18:Int) (t26:yD) (t27:Int) (t28:Int) (t40:Int) (t41:Int) (sum:yC) (product:yC):=zH (zzc zn) default n (((to,()),()),(),(),b,e,t16,t17,t18,t26,t27,t28,t40,t41,()) (sum,product,())
def zJO (r:zB8):LTree ty:=.done (.exit 4) [.fn 84 ([.bptr ([.sl 51 r.1]) 0]),.own 272,.own 273,.lit (.int .i64 r.2.1),.sl 28 r.2.2.1,.lit (.int .i64 r.2.2.2.1),.lit (.int .i64 r.2.2.2.2.1),.sl 69 r.2.2.2.2.2.1,.lit (.int .i64 r.2.2.2.2.2.2.1),.lit (.int .i64 r.2.2.2.2.2.2.2.1)] [.arr 28 r.2.2.2.2.2.2.2.2.1 false,.arr 28 r.2.2.2.2.2.2.2.2.2 false]
def zK0:LL ty znn:=za (lFn 84 (za (zmY (za (lSl 51) zm) 0) zm)) (za (zes 272) (za (zes 273) (za (lSl 28) (za zj (za (lSl 28) (za zj (za zj (za (lSl 69) (za zj (za zj (za zj (za zj zm))))))))))))
def zL4:BL ty zer:=zew 28 false (zew 28 false (zbg))
def zM9 (zn:At->yG->Bool×(yC×Int)) (to:yG) (t16:yC) (t17:Int) (t18:Int) (t26:yD) (t27:Int) (t28:Int) (sum:yC) (product:yC):Wy znA zer zCF:=.i (decide (t28<t27)) (.i (decide (0<=t28)&&decide (t28<Int.ofNat t26.length)) (.bn (zn (At.mk (t26.getD t28.toNat default).At.Kind (t26.getD t28.toNat default).At.Row (t26.getD t28.toNat default).At.Ag (t26.getD t28.toNat default).At.Func (t26.getD t28.toNat default).At.Items (t26.getD t28.toNat default).At.Op (t26.getD t28.toNat default).At.Bd) to) λr9=>.bn (zMp zn (to.length+r9.1.length+r9.2.toNat +t16.length+t17.toNat +t18.toNat +t26.length+t27.toNat +t28.toNat +(t26.getD t28.toNat default).Exp.toNat +Int.toNat 0+sum.length+product.length+1) to r9.1 r9.2 t16 t17 t18 t26 t27 t28 (t26.getD t28.toNat default).Exp 0 sum product) λr8=>.i (r8.2.1 != 0) (.k (.inl (r8.2.1))) (.h ((((r8.1),()),()),(),(),(r8.2.2.1),(r8.2.2.2.1),(r8.2.2.2.2.1),(r8.2.2.2.2.2.1),(r8.2.2.2.2.2.2.1),(IntKind.i64.wrap (r8.2.2.2.2.2.2.2.1+1)),()) ((r8.2.2.2.2.2.2.2.2.1),(r8.2.2.2.2.2.2.2.2.2),()))) .d) (.k (.inr (to,t16,t17,t18,sum,product)))
def zAq (zn:At->yG->Bool×(yC×Int)) (x:znA) (y:zer):=zM9 zn x.1.1.1 x.2.2.2.1 x.2.2.2.2.1 x.2.2.2.2.2.1 x.2.2.2.2.2.2.1 x.2.2.2.2.2.2.2.1 x.2.2.2.2.2.2.2.2.1 y.1 y.2.1
def zMr (zn:At->yG->Bool×(yC×Int)) (n:Nat) (to:yG) (t16:yC) (t17:Int) (t18:Int) (t26:yD) (t27:Int) (t28:Int) (sum:yC) (product:yC):=zH (zAq zn) (.inl default) n (((to,()),()),(),(),t16,t17,t18,t26,t27,t28,()) (sum,product,())
def zLD (r:zCF):LTree ty:=.ite (isL r) (.done .ret [.lit (.slice none 0 0),.lit (.int .i64 (getL r))] []) (.done (.exit 2) [.fn 84 ([.bptr ([.sl 51 (getR r).1]) 0]),.own 272,.own 273,.sl 28 (getR r).2.1,.lit (.int .i64 (getR r).2.2.1),.lit (.int .i64 (getR r).2.2.2.1)] [.arr 28 (getR r).2.2.2.2.1 false,.arr 28 (getR r).2.2.2.2.2 false])
def zMw:LL ty znA:=za (lFn 84 (za (zmY (za (lSl 51) zm) 0) zm)) (za (zes 272) (za (zes 273) (za (lSl 28) (za zj (za zj (za (lSl 69) (za zj (za zj zm))))))))
def zMF (zn:At->yG->Bool×(yC×Int)) (to:yG) (t16:yC) (t17:Int) (t18:Int) (sum:yC):Wy znl znf zCn:=.i (decide (t18<t17)) (.i (decide (0<=t18)&&decide (t18<Int.ofNat t16.length)) (.bn (zBZ (t16.getD t18.toNat default).Cf) λr14=>.bn (zMr zn (to.length+t16.length+t17.toNat +t18.toNat +(t16.getD t18.toNat default).Fs.length+(Int.ofNat (t16.getD t18.toNat default).Fs.length).toNat +Int.toNat 0+sum.length+r14.length+1) to t16 t17 t18 (t16.getD t18.toNat default).Fs (Int.ofNat (t16.getD t18.toNat default).Fs.length) 0 sum r14) λr13=>.i (isL r13) (.k (.inl (getL r13))) (.bn (zFw (getR r13).2.2.2.2.1 (getR r13).2.2.2.2.2) λr12=>.i (r12.2 != 0) (.k (.inl (r12.2))) (.h ((((getR r13).1,()),()),(),(getR r13).2.1,(getR r13).2.2.1,(IntKind.i64.wrap ((getR r13).2.2.2.1+1)),()) ((r12.1),())))) .d) (.k (.inr sum))
def zAv (zn:At->yG->Bool×(yC×Int)) (x:znl) (y:znf):=zMF zn x.1.1.1 x.2.2.1 x.2.2.2.1 x.2.2.2.2.1 y.1
def zNf (zn:At->yG->Bool×(yC×Int)) (n:Nat) (to:yG) (t16:yC) (t17:Int) (t18:Int) (sum:yC):=zH (zAv zn) (.inl default) n (((to,()),()),(),t16,t17,t18,()) (sum,())
def zKK (r:zCn):LTree ty:=.ite (isL r) (.done .ret [.lit (.slice none 0 0),.lit (.int .i64 (getL r))] []) (.done (.exit 0) [.own 272] [.arr 28 (getR r) false])
def zNe:LL ty znl:=za (lFn 84 (za (zmY (za (lSl 51) zm) 0) zm)) (za (zes 272) (za (lSl 28) (za zj (za zj zm))))
def zNc:BL ty znf:=zew 28 false (zbg)
def zJ3 (x:znn) (y:zer):Nat:=(x.1.1.1.length+x.2.2.2.1.length+Int.toNat x.2.2.2.2.1+x.2.2.2.2.2.1.length+Int.toNat x.2.2.2.2.2.2.1+Int.toNat x.2.2.2.2.2.2.2.1+x.2.2.2.2.2.2.2.2.1.length+Int.toNat x.2.2.2.2.2.2.2.2.2.1+Int.toNat x.2.2.2.2.2.2.2.2.2.2.1+Int.toNat x.2.2.2.2.2.2.2.2.2.2.2.1+Int.toNat x.2.2.2.2.2.2.2.2.2.2.2.2.1+y.1.length+y.2.1.length+1)
def zKF (x:znA) (y:zer):Nat:=(x.1.1.1.length+x.2.2.2.1.length+Int.toNat x.2.2.2.2.1+Int.toNat x.2.2.2.2.2.1+x.2.2.2.2.2.2.1.length+Int.toNat x.2.2.2.2.2.2.2.1+Int.toNat x.2.2.2.2.2.2.2.2.1+y.1.length+y.2.1.length+1)
def zLZ (x:znl) (y:znf):Nat:=(x.1.1.1.length+x.2.2.1.length+Int.toNat x.2.2.2.1+Int.toNat x.2.2.2.2.1+y.1.length+1)
def zlw (zn:At->yG->Bool×(yC×Int)):=zbZ zbU 68 [(23,zE2),(84,zhu),(92,zEN),(149,zCH),(150,(zk5 zn))] [] [(3,[(1,.keep),(6,.own 28),(16,.keep),(17,.keep),(18,.keep)]),(7,(kpL [1,6,9,16,17,18,26,27,28])),(11,[(1,.keep),(6,.keep),(9,.keep),(12,.sl 28),(13,.keep),(16,.keep),(17,.keep),(18,.keep),(26,.keep),(27,.keep),(28,.keep),(40,.keep),(41,.keep)])] [(3,1,(kpL [6])),(3,0,(kpL [4,5])),(7,3,(kpL [1,6,9,16,17,18])),(7,0,(kpL [4,5])),(11,5,(kpL [1,6,9,13,16,17,18,26,27,28]))] [(11,spW zK0 zL4 (zzc zn) default zJO zJ3),(7,spW zMw zL4 (zAq zn) (.inl default) zLD zKF),(3,spW zNe zNc (zAv zn) (.inl default) zKK zLZ)] []
theorem zJp (zn:At->yG->Bool×(yC×Int)):zD (zlw zn) (lp (body f83) 2):=zq (id:=11) (hl:=rfl)
theorem zLL (zn:At->yG->Bool×(yC×Int)):zD (zlw zn) (lp (body f83) 1):=zq (id:=7) (hl:=rfl)
theorem zLB (zn:At->yG->Bool×(yC×Int)):zD (zlw zn) (lp (body f83) 0):=zq (id:=3) (hl:=rfl)
def zPf (zn:At->yG->Bool×(yC×Int)) (a:yC) (to:yG):Wy0 (yC×Int):=.bn (zNf zn (to.length+a.length+(Int.ofNat a.length).toNat +Int.toNat 0+0+1) to a (Int.ofNat a.length) 0 []) λr18=>.i (isL r18) (.k ([],getL r18)) (.k (getR r18,0))
def zC6 (zn:At->yG->Bool×(yC×Int)) (a:yC) (to:yG):=(zPf zn a to).fin default
theorem zIn (zn:At->yG->Bool×(yC×Int)) (zIk:Sound Tryz.prog zbU 150 (zk5 zn)):Sound Tryz.prog zbU 83 (zkx (zC6 zn)):=
 sU (cx':=(zlw zn)) (zi ⟨zSE,zk6.nodr,zRQ,zO8.nodr,zIk,trivial⟩) call83 func83 (lOK (aC (zLB zn) (aC (zLL zn) (aC (zJp zn) aN)))) (sg:=⟨[.own 28,.pure],[]⟩)
def zZ0:=zbq base 3 []
def z1F:Wy0 (yC):=.k [TO.mk 1 []]
def zuW:Bool×yC:=(z1F).fin default
def zqJ:=zh zOB λx=>((zuW ).1,zOR (zuW ).2)
theorem zwL:SdP 36 zqJ:=
 sT (cx':=zZ0) (zi trivial) call36 func36 (lOK aN) (sg:=⟨[.own 28],[]⟩)
def zTn:=zbq base 23 [(20,zcs),(36,zqJ),(70,zeA),(131,zmL),(152,zgD)]
def zVo (a:yC):Wy0 (yC×Int):=.bn (zb7 a) λr2=>.i (!r2) (.k ([],1)) (.i (Int.ofNat a.length==0) (.k (zuW.2,0)) (.bn (ze3 a) λr1=>.i (r1) (.k ([],0)) (.bn (zfZ (ziW (At.mk 3 (RowID.mk 0 0) [a] 0 [] 0 (Value.mk 0 0 (ByteArray.mk #[])))).2) λr0=>.k (r0.1,r0.2))))
def zA1 (a:yC):=(zVo a).fin default
def zBa:=zh zWH λx=>((zA1 x.1).1,zOT (zA1 x.1).2)
theorem zNb:SdP 179 zBa:=
 sT (cx':=zTn) (zi ⟨zcC,zwL,zfz,zu2,ziM,trivial⟩) call179 func179 (lOK aN) (sg:=⟨[.own 28,.pure],[]⟩)
def zUj:=zbq base 29 [(20,zcs),(36,zqJ),(70,zeA),(87,zgz),(129,znO),(130,ztI),(152,zgD)]
def zW4 (a:yC):Wy0 (yC×Int):=.bn (zb7 a) λr5=>.i (!r5) (.k ([],1)) (.i (Int.ofNat a.length==0) (.bn (ziT a) λr0=>.k (r0,0)) (.bn (zld a) λr4=>.i (r4) (.bn (ziT a) λr1=>.k (r1,0)) (.bn (zhh a) λr3=>.i (r3) (.k (zuW.2,0)) (.bn (zfZ (ziW (At.mk 2 (RowID.mk 0 0) [a] 0 [] 0 (Value.mk 0 0 (ByteArray.mk #[])))).2) λr2=>.k (r2.1,r2.2)))))
def zBO (a:yC):=(zW4 a).fin default
def zCk:=zh zWH λx=>((zBO x.1).1,zOT (zBO x.1).2)
theorem zPd:SdP 178 zCk:=
 sT (cx':=zUj) (zi ⟨zcC,zwL,zfz,ziH,zvL,zAt,ziM,trivial⟩) call178 func178 (lOK aN) (sg:=⟨[.own 28,.pure],[]⟩)
def zUu:=zbq base 38 [(20,zcs),(21,zny),(70,zeA),(87,zgz),(152,zgD)]
def zV5 (a:yC) (b:yC):Wy0 (yC×Int):=.bn (zb7 a) λr4=>.i (!r4) (.k ([],1)) (.bn (zb7 b) λr3=>.i (!r3) (.k ([],1)) (.i (Int.ofNat b.length==0) (.bn (ziT a) λr0=>.k (r0,0)) (.i (Int.ofNat a.length==0) (.k ([],0)) (.bn (zhL a b) λr2=>.i (r2) (.k ([],0)) (.bn (zfZ (ziW (At.mk 1 (RowID.mk 0 0) [a,b] 0 [] 0 (Value.mk 0 0 (ByteArray.mk #[])))).2) λr1=>.k (r1.1,r1.2))))))
def zB3 (a:yC) (b:yC):=(zV5 a b).fin default
def zCx:=zh zSZ λx=>((zB3 x.1 x.2.1).1,zOT (zB3 x.1 x.2.1).2)
theorem zOm:SdP 177 zCx:=
 sT (cx':=zUu) (zi ⟨zcC,ztp,zfz,ziH,ziM,trivial⟩) call177 func177 (lOK aN) (sg:=⟨[.own 28,.pure],[]⟩)
def zf7 (x:yE) (a b:Int):Bool×yE:=z63 zbA x a b
def zsG:Ab.Spec ty:=zh (cx:=base) (zd (zlu 100) (zd (ze (zhM .i64)) (zd (ze (zhM .i64)) (zd (ze (vFn 124 zbT)) zp)))) λx=>((zf7 x.1 x.2.1 x.2.2.1).1,⟨[],[some ⟨100,(zf7 x.1 x.2.1 x.2.2.1).2⟩]⟩)
theorem ztv (c:Unit) (x y:Wd) (h:(zbA x y).1=true):zfG ((AV.agg (base.enc 100 x)::AV.agg (base.enc 100 y)::(zbT:VL base Unit).enc c).map Arg.pure)=some (true,⟨[.pure (.lit (.int .i64 (zbA x y).2))],[]⟩):=by
 rw [<- h]; kernel_rfl
theorem zr0:SdP 281 zsG:=by
 letI:DecidableEq (ty 100):=inferInstanceAs (DecidableEq Wd)
 exact zbcl (T:=100) zgB rfl Go.Proofs.Tryz.insW Tryz.isAgg100 (by unfold zr; exact Tryz.sizeOf100) call281 zht zbT (λc=>zbA) ztv
open Go.Proofs Go.RowKit
def zcA (x:yE) (m:Int):Bool×yE:=(decide (SortOK zbA x)&&(decide (m=x.length)&&decide (m<20)),zfo zbA x)
def zlR:Ab.Spec ty:=zh (cx:=base) (zd (zlu 100) (zd (ze (zhM .i64)) (zd (ze (vFn 124 zbT)) zp))) λx=>((zcA x.1 x.2.1).1,⟨[],[some ⟨100,(zcA x.1 x.2.1).2⟩]⟩)
set_option maxHeartbeats 1000000 in
theorem zxu:SdP 262 zlR where
 enters:=call262
 calls:=λavs r hsp w F vs hF ha hsep=>by
  unfold zlR zh at hsp;split at hsp
  ·rename_i x hx;simp only [qa,qb] at hsp;obtain ⟨hpre,rfl⟩:=hsp;have hk:=(zd (zlu 100) (zd (ze (zhM .i64)) (zd (ze (vFn 124 zbT)) zp)):AL base _).kind vs avs x hx;have ha':=(zd (zlu 100) (zd (ze (zhM .i64)) (zd (ze (vFn 124 zbT)) zp)):AL base _).ok Tryz.prog zgB F w vs avs x hx ha;rw [hk] at hsep ⊢;clear hk hx ha;obtain ⟨l0,m,c,u0⟩:=x;obtain ⟨l,rfl⟩:∃ l:yE,l=l0:=⟨l0,rfl⟩;obtain ⟨v,vs',rfl,hv,hv'⟩:=ha'.inv;obtain ⟨mv,vs1,rfl,hm,hv1⟩:=hv'.inv;obtain ⟨fv,vs'',rfl,hfv,h0⟩:=hv1.inv;obtain rfl:=h0.nil_left.1;have hm:Rep base F w mv (.lit (.int .i64 m)):=hm;obtain rfl:mv=.int .i64 m:=by cases hm; rfl
   have hsl:∃ p cap,v=.slice p l.length cap:=by
    obtain ⟨⟨xs,hown,_⟩,_⟩:=(show zcT base F w v 100 l/\∀ b,zbi v=some b->¬ F b from hv)
    rcases hown.2 with ⟨h1,h2⟩ | ⟨g0,cap,cur,h1,_⟩
    ·exact ⟨none,0,by rw [h1,show l.length=0 from h2]⟩
    ·exact ⟨_,cap,h1⟩
   have hpre:(decide (SortOK (α:=Wd) zbA l)&&(decide (m=l.length)&&decide (m<20)))=true:=hpre;simp only [qc,qe] at hpre;obtain ⟨hok,rfl,h20⟩:=hpre
   have hpp:(zf7 l 0 (l.length:Int)).1=true:=by
    show (decide (SortOK (α:=Wd) zbA l)&&(decide ((0:Int)=0)&&decide ((l.length:Int)=l.length)))=true;simp only [qc,qe];exact ⟨hok,trivial,trivial⟩
   have hp:=(zr0).calls [.own 100 l,.pure (.lit (.int .i64 0)),.pure (.lit (.int .i64 (l.length:Int))),.pure (.fn 124 [])] ⟨[],[some ⟨100,(zcA l (l.length:Int)).2⟩]⟩
    (by rw [<- hpp]; kernel_rfl) w F [v,.int .i64 0,.int .i64 (l.length:Int),fv] hF (.cons hv (.cons (Rep.lit _) (.cons (Rep.lit _) (.cons hfv .nil)))) hsep
   replace hp:Calls Tryz.prog 281 #[v,.int .i64 0,.int .i64 (l.length:Int),fv] w λe w'=>∃ u,e=.returned u/\Post base F w [v] ⟨[],[some ⟨100,(zcA l (l.length:Int)).2⟩]⟩ u w':=hp
   show Calls Tryz.prog 262 #[v,.int .i64 (l.length:Int),fv] w λe w'=>∃ u,e=.returned u/\Post base F w [v] ⟨[],[some ⟨100,(zcA l (l.length:Int)).2⟩]⟩ u w'
   generalize (zcA l (l.length:Int)).2=res at hp ⊢;generalize hn:l.length=m at *;clear hpp hv hfv hsep hok hF hm;obtain ⟨p,cap,rfl⟩:=hsl;clear hn
   go_enter func262,ntmps262
   go_wp2
   refine wp_loop_rounds 1 ?_;rw [rounds_succ]
   go_wp2_with (go_at_call 281; refine hp.mono ?_; rintro e w' ⟨u,rfl,hpost⟩; obtain rfl:=hpost.unit)
   refine wp_loop_rounds 1 ?_;rw [rounds_succ]
   go_wp2
   all_goals first | (exfalso; omega) | (go_end0; exact ⟨_,rfl,hpost⟩)
  ·cases hsp
end Go.Proofs.YtljlfiomikifjaaGreatDoor
namespace Go.Proofs.YtljlfiomikifjaaGreatDoor
open Go Go.Ab
open Go.Proofs Go.RowKit
open Go.Proofs.Tryz
def zbC (x:yE):Bool×yE:=(decide (SortOK zbA x)&&decide (x.length<20),zfo zbA x)
def zdS:Ab.Spec ty:=zh (cx:=base) (zd (zlu 100) (zd (ze (vFn 124 zbT)) zp)) λx=>((zbC x.1).1,⟨[],[some ⟨100,(zbC x.1).2⟩]⟩)
set_option maxHeartbeats 1000000 in
theorem zmF:SdP 242 zdS where
 enters:=call242
 calls:=λavs r hsp w F vs hF ha hsep=>by
  unfold zdS zh at hsp;split at hsp
  ·rename_i x hx;simp only [qa,qb] at hsp;obtain ⟨hpre,rfl⟩:=hsp;have hk:=(zd (zlu 100) (zd (ze (vFn 124 zbT)) zp):AL base _).kind vs avs x hx;have ha':=(zd (zlu 100) (zd (ze (vFn 124 zbT)) zp):AL base _).ok Tryz.prog zgB F w vs avs x hx ha;rw [hk] at hsep ⊢;clear hk hx ha;obtain ⟨l0,c,u0⟩:=x;obtain ⟨l,rfl⟩:∃ l:yE,l=l0:=⟨l0,rfl⟩;obtain ⟨v,vs',rfl,hv,hv'⟩:=ha'.inv;obtain ⟨fv,vs'',rfl,hfv,h0⟩:=hv'.inv;obtain rfl:=h0.nil_left.1
   have hsl:∃ p cap,v=.slice p l.length cap:=by
    obtain ⟨⟨xs,hown,_⟩,_⟩:=(show zcT base F w v 100 l/\∀ b,zbi v=some b->¬ F b from hv)
    rcases hown.2 with ⟨h1,h2⟩ | ⟨g0,cap,cur,h1,_⟩
    ·exact ⟨none,0,by rw [h1,show l.length=0 from h2]⟩
    ·exact ⟨_,cap,h1⟩
   have hpre:(decide (SortOK (α:=Wd) zbA l)&&decide (l.length<20))=true:=hpre;simp only [qc,qe] at hpre;obtain ⟨hok,h20⟩:=hpre
   have hpp:(zcA l (l.length:Int)).1=true:=by
    show (decide (SortOK (α:=Wd) zbA l)&&(decide ((l.length:Int)=l.length)&&decide ((l.length:Int)<20)))=true;simp only [qc,qe];exact ⟨hok,trivial,by omega⟩
   have hp:=(zxu).calls [.own 100 l,.pure (.lit (.int .i64 (l.length:Int))),.pure (.fn 124 [])] ⟨[],[some ⟨100,(zbC l).2⟩]⟩
    (by rw [<- hpp]; kernel_rfl) w F [v,.int .i64 (l.length:Int),fv] hF (.cons hv (.cons (Rep.lit _) (.cons hfv .nil))) hsep
   replace hp:Calls Tryz.prog 262 #[v,.int .i64 (l.length:Int),fv] w λe w'=>∃ u,e=.returned u/\Post base F w [v] ⟨[],[some ⟨100,(zbC l).2⟩]⟩ u w':=hp
   show Calls Tryz.prog 242 #[v,fv] w λe w'=>∃ u,e=.returned u/\Post base F w [v] ⟨[],[some ⟨100,(zbC l).2⟩]⟩ u w'
   generalize (zbC l).2=res at hp ⊢;generalize hn:l.length=m at *;clear hpp hv hfv hsep hok hF;obtain ⟨p,cap,rfl⟩:=hsl;clear hn
   go_enter func242,ntmps242
   go_wp2_with (go_at_call 262; refine hp.mono ?_; rintro e w' ⟨u,rfl,hpost⟩; obtain rfl:=hpost.unit)
   go_end0
   exact ⟨_,rfl,hpost⟩
  ·cases hsp
end Go.Proofs.YtljlfiomikifjaaGreatDoor
namespace Go.Proofs.YtljlfiomikifjaaGreatDoor
open Go Go.Ab
open Go.Proofs.Tryz
abbrev zqH:=Unit×yE×Int×Int×Unit
abbrev zlM:=yE×Unit
def zVb (t6:yE) (t7:Int) (t8:Int) (out_:yE):Wy zqH zlM (yE):=.i (decide (t8<t7)) (.i (decide (0<=t8)&&decide (t8<Int.ofNat t6.length)) (.i (decide (Int.ofNat (t6.getD t8.toNat default).Ann.length>0)) (.bn (ziT (t6.getD t8.toNat default).Ann) λr0=>.i (decide ((out_.length+[WO.mk (t6.getD t8.toNat default).Value r0].length)*56<=z7)) (.h ((),t6,t7,(IntKind.i64.wrap (t8+1)),()) ((out_++[WO.mk (t6.getD t8.toNat default).Value r0]),())) .d) (.h ((),t6,t7,(IntKind.i64.wrap (t8+1)),()) (out_,()))) .d) (.k out_)
def zEQ (x:zqH) (y:zlM):=zVb x.2.1 x.2.2.1 x.2.2.2.1 y.1
def zU3 (n:Nat) (t6:yE) (t7:Int) (t8:Int) (out_:yE):=zH (zEQ) default n ((),t6,t7,t8,()) (out_,())
def zTw (r:yE):LTree ty:=.done (.exit 0) [.own 116] [.arr 100 r false]
def zUs:LL ty zqH:=za (zes 116) (za (lSl 100) (za zj (za zj zm)))
def zUo:BL ty zlM:=zew 100 false (zbg)
def zSU (x:zqH) (y:zlM):Nat:=(x.2.1.length+Int.toNat x.2.2.1+Int.toNat x.2.2.2.1+y.1.length+1)
def zEW:=zbZ base 29 [(87,zgz),(124,zfG),(242,zdS)] [(242,[true,false])] [(3,[(3,.own 100),(6,.keep),(7,.keep),(8,.keep)])] [(3,1,(kpL [3]))] [(3,spW zUs zUo (zEQ) default zTw zSU)] []
theorem zTj:zD zEW (lp (body f218) 0):=zq (id:=3) (hl:=rfl)
def zXn (l:yE):Wy0 (yE):=.bn (zU3 (l.length+(Int.ofNat l.length).toNat +Int.toNat 0+0+1) l (Int.ofNat l.length) 0 []) λr3=>.bn (zbC r3) λr2=>.k r2
def zB0 (l:yE):=(zXn l).fin default
def zS4 (r:yE):ARes ty:=⟨[.own 100 r],[]⟩
def zYe:AL base zlM:=zd (ze (vSl 100)) zp
def zCs:=zh zYe λx=>((zB0 x.1).1,zS4 (zB0 x.1).2)
theorem zPs:SdP 218 zCs:=
 sT (cx':=zEW) (zi ⟨ziH,zht,zmF,trivial⟩) call218 func218 (lOK (aC zTj aN)) (sg:=⟨[.own 100],[]⟩)
def zRo:=zbq base 7 [(20,zcs)]
def zRz (w:Wd):Wy0 (Bool):=.bn (zb7 w.Ann) λr0=>.k (!r0)
def zyV (w:Wd):=(zRz w).fin default
def zlD:=zh zKa λx=>((zyV x.1).1,zVf (zyV x.1).2)
theorem zpM:SdP 217 zlD:=
 sT (cx':=zRo) (zi ⟨zcC,trivial⟩) call217 func217 (lOK aN)
def zUS:=zbq base 28 []
def zWr (op:Int) (sign:Int):Wy0 (Bool):=.i (op==5) (.k (sign==0)) (.i (op==6) (.k (sign != 0)) (.i (op==7) (.k (decide (sign<0))) (.i (op==8) (.k (decide (sign<=0))) (.i (op==9) (.k (decide (sign>0))) (.k (decide (sign≥0)))))))
def zBV (op:Int) (sign:Int):=(zWr op sign).fin default
def zCa:=zh zVp λx=>((zBV x.1 x.2.1).1,zVf (zBV x.1 x.2.1).2)
theorem zOq:SdP 219 zCa:=
 sT (cx':=zUS) (zi trivial) call219 func219 (lOK aN)
abbrev zdF:=yE×Unit×Int×Int×Unit
def zpD (s:yE) (t7:Int) (t8:Int):Wy zdF Unit (Int⊕Unit):=.i (decide (t8<t7)) (.i (decide (0<=t8)&&decide (t8<Int.ofNat s.length)) (.bn (zyV (s.getD t8.toNat default)) λr0=>.i (r0) (.k (.inl t8)) (.h (s,(),t7,(IntKind.i64.wrap (t8+1)),()) ())) .d) (.k (.inr ()))
def zhj (x:zdF) (y:Unit):=zpD x.1 x.2.2.1 x.2.2.2.1
def zpK (n:Nat) (s:yE) (t7:Int) (t8:Int):=zH (zhj) (.inl default) n (s,(),t7,t8,()) ()
def zpp:LL ty zdF:=za (lSl 100) (za (lFn 217 (zm)) (za zj (za zj zm)))
def zoL (x:zdF) (y:Unit):Nat:=(x.1.length+Int.toNat x.2.2.1+Int.toNat x.2.2.2.1+1)
def zhe:=zbZ base 19 [(217,zlD)] [] [(2,(kpL [0,1,7,8]))] [(2,1,[]),(2,0,(kpL [4]))] [(2,spW zpp z8a (zhj) (.inl default) zrC zoL)] []
theorem zoP:zD zhe (lp (body f163) 0):=zq (id:=2) (hl:=rfl)
def zpV (s:yE):Wy0 (Int):=.bn (zpK (s.length+(Int.ofNat s.length).toNat +Int.toNat 0+1) s (Int.ofNat s.length) 0) λr2=>.i (isL r2) (.k (getL r2)) (.k (-1:Int))
def zez (s:yE):=(zpV s).fin default
def zpP:AL base (yE×Unit×Unit):=zd (ze (vSl 100)) (zd (ze (vFn 217 zbT)) zp)
def zgN:=zh zpP λx=>((zez x.1).1,zOF (zez x.1).2)
theorem znF:SdP 163 zgN:=
 sT (cx':=zhe) (zi ⟨zpM,trivial⟩) call163 func163 (lOK (aC zoP aN))
def znL:=zbq base 9 [(163,zgN),(217,zlD)]
def zn6 (s:yE):Wy0 (Bool):=.bn (zez s) λr0=>.k (decide (r0≥0))
def zei (s:yE):=(zn6 s).fin default
def zf2:=zh zpP λx=>((zei x.1).1,zVf (zei x.1).2)
theorem zmr:SdP 132 zf2:=
 sT (cx':=znL) (zi ⟨znF,zpM,trivial⟩) call132 func132 (lOK aN)
def zXG:=zbq base 45 [(36,zqJ),(70,zeA),(132,zf2),(135,zrK),(138,zmg),(152,zgD),(217,zlD),(218,zCs),(219,zCa)]
def zZ1 (fn:Int) (items:yE) (op:Int) (bound:Value):Wy0 (yC×Int):=.bn (zj1 fn items op bound) λr5=>.i (!r5) (.k ([],1)) (.bn (zei items) λr4=>.i (r4) (.k ([],1)) (.bn (zB0 items) λr3=>.i (decide (Int.ofNat r3.length>0)) (.bn (zfZ (ziW (At.mk 4 (RowID.mk 0 0) [] fn r3 op bound)).2) λr0=>.k (r0.1,r0.2)) (.i (fn==0) (.bn (ziV 0 bound.Int) λr2=>.bn (zBV op r2) λr1=>.i (r1) (.k (zuW.2,0)) (.k ([],0))) (.k ([],0)))))
def zDA (fn:Int) (items:yE) (op:Int) (bound:Value):=(zZ1 fn items op bound).fin default
def zD7:=zh zSj λx=>((zDA x.1 x.2.1 x.2.2.1 x.2.2.2.1).1,zOT (zDA x.1 x.2.1 x.2.2.1 x.2.2.2.1).2)
theorem zQg:SdP 180 zD7:=
 sT (cx':=zXG) (zi ⟨zwL,zfz,zmr,zy7,zrW,ziM,zpM,zPs,zOq,trivial⟩) call180 func180 (lOK aN) (sg:=⟨[.own 28,.pure],[]⟩)
end Go.Proofs.YtljlfiomikifjaaGreatDoor
end
