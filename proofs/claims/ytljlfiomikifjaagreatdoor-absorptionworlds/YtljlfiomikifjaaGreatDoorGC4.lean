/- Texts of this claim, joined (the program, its functions in plain words, and what they compute). -/
import Derived.WalkKit
import Derived.WalkSpells
import Derived.Test.YtljlfiomikifjaaGreatDoorGC3
set_option autoImplicit false
set_option linter.unusedVariables false
set_option linter.unusedSectionVars false
set_option linter.unusedSimpArgs false
set_option maxRecDepth 1000000
set_option maxHeartbeats 0
noncomputable section
namespace Go.Proofs.YtljlfiomikifjaaGreatDoor
open Go Go.Ab
open Go.Proofs.Tryz
abbrev ztK:=Unit×yC×Int×Int×Unit
abbrev ztR:=List ByteArray×Unit
def zXD (z6:yD->Bool×ByteArray) (t9:yC) (t10:Int) (t11:Int) (out_:List ByteArray):Wy ztK ztR (List ByteArray):=.i (decide (t11<t10)) (.i (decide (0<=t11)&&decide (t11<Int.ofNat t9.length)) (.i (Int.ofNat (t9.getD t11.toNat default).Fs.length==0) (.bn (zo8 (t9.getD t11.toNat default).Cf 10) λr0=>.i (decide ((out_.length+[r0].length)*16<=zP)) (.h ((),t9,t10,(IntKind.i64.wrap (t11+1)),()) ((out_++[r0]),())) .d) (.i ((t9.getD t11.toNat default).Cf==1) (.bn (z6 (t9.getD t11.toNat default).Fs) λr1=>.i (decide ((out_.length+[r1].length)*16<=zP)) (.h ((),t9,t10,(IntKind.i64.wrap (t11+1)),()) ((out_++[r1]),())) .d) (.bn (zo8 (t9.getD t11.toNat default).Cf 10) λr3=>.i (decide (r3.size+(ByteArray.mk #[(42:UInt8)]).size<=9223372036854775807)) (.bn (z6 (t9.getD t11.toNat default).Fs) λr2=>.i (decide ((r3++ByteArray.mk #[(42:UInt8)]).size+r2.size<=9223372036854775807)) (.i (decide ((out_.length+[r3++ByteArray.mk #[(42:UInt8)]++r2].length)*16<=zP)) (.h ((),t9,t10,(IntKind.i64.wrap (t11+1)),()) ((out_++[r3++ByteArray.mk #[(42:UInt8)]++r2]),())) .d) .d) .d))) .d) (.k out_)
def zF9 (z6:yD->Bool×ByteArray) (x:ztK) (y:ztR):=zXD z6 x.2.1 x.2.2.1 x.2.2.2.1 y.1
def zV9 (z6:yD->Bool×ByteArray) (n:Nat) (t9:yC) (t10:Int) (t11:Int) (out_:List ByteArray):=zA (zF9 z6) default n ((),t9,t10,t11,()) (out_,())
def zU3 (r:List ByteArray):LTree ty:=.done (.exit 0) [.own 200] [.arr 9 r false]
def zW2:LL ty ztK:=za (zdK 200) (za (lSl 28) (za zj (za zj zk)))
def zVS:BL ty ztR:=zdO 9 false (z8)
def zTh (x:ztK) (y:ztR):Nat:=(x.2.1.length+Int.toNat x.2.2.1+Int.toNat x.2.2.2.1+y.1.length+1)
def zF1 (z6:yD->Bool×ByteArray):=zbY zb5 50 [(139,(zgO z6)),(169,zvq),(227,zuu)] [] [(5,[(3,.own 9),(9,.keep),(10,.keep),(11,.keep)])] [(5,1,(kpL [3]))] [(5,spW zW2 zVS (zF9 z6) default zU3 zTh)] []
theorem zU7 (z6:yD->Bool×ByteArray):zy (zF1 z6) (lp (body f196) 0):=zm (id:=5) (hl:=rfl)
def zZv (z6:yD->Bool×ByteArray) (a:yC):Wy0 (ByteArray):=.i (Int.ofNat a.length==0) (.k (ByteArray.mk #[(48:UInt8)])) (.bn (zV9 z6 (a.length+(Int.ofNat a.length).toNat +Int.toNat 0+0+1) a (Int.ofNat a.length) 0 []) λr9=>.bn (strings_Join r9 (ByteArray.mk #[(32:UInt8),(43:UInt8),(32:UInt8)])) λr8=>.k r8)
def zLO (z6:yD->Bool×ByteArray) (a:yC):=(zZv z6 a).fin default
theorem zP7 (z6:yD->Bool×ByteArray) (zHz:Sound Tryz.prog zb5 139 (zgO z6)):Sound Tryz.prog zb5 196 (zvh (zLO z6)):=
 sU (cx':=(zF1 z6)) (zi ⟨zHz,zAo,zB1.nodr,trivial⟩) call196 func196 (lOK (aC (zU7 z6) aN))
def zHV:Nat->(yC->Bool×ByteArray)×(At->Bool×ByteArray)×(yD->Bool×ByteArray)
 | 0=>(λ_=>(false,default),λ_=>(false,default),λ_=>(false,default))
 | n+1=>(zLO ((zHV n).2.2),zB5 ((zHV n).1),zyJ ((zHV n).2.1))
def z4j (n:Nat):yC->Bool×ByteArray:=(zHV n).1
def zQl (n:Nat):At->Bool×ByteArray:=(zHV n).2.1
def zyg (n:Nat):yD->Bool×ByteArray:=(zHV n).2.2
theorem z7V:∀ n,Sound Tryz.prog zb5 196 (zvh (z4j n))/\Sound Tryz.prog zb5 167 (zmc (zQl n))/\Sound Tryz.prog zb5 139 (zgO (zyg n))
 | 0=>⟨zba call196 (λ_=>rfl),zba call167 (λ_=>rfl),zba call139 (λ_=>rfl)⟩
 | n+1=>by
  have ih:=z7V n;exact ⟨zP7 _ (ih.2.2),zGv _ (ih.1),zDK _ (ih.2.1)⟩
def zBh:yD->Bool×ByteArray:=zyg 1000
def zu0:Ab.Spec ty:=zgO zBh
theorem zF3:Sound Tryz.prog zb5 139 zu0:=(z7V 1000).2.2
def zlv (x:yC) (a b lim:Int):Bool×yC:=zbb6 zcx x a b lim
def zBS:Ab.Spec ty:=zh (cx:=base) (zc (zlZ 28) (zc (ze (zic .i64)) (zc (ze (zic .i64)) (zc (ze (zic .i64)) (zc (ze (vFn 63 zb4)) zo))))) λx=>((zlv x.1 x.2.1 x.2.2.1 x.2.2.2.1).1,⟨[],[some ⟨28,(zlv x.1 x.2.1 x.2.2.1 x.2.2.2.1).2⟩]⟩)
theorem zCE (c:Unit) (x y:Term) (h:(zcx x y).1=true):zi1 ((AV.agg (base.enc 28 x)::AV.agg (base.enc 28 y)::(zb4:VL base Unit).enc c).map Arg.pure)=some (true,⟨[.pure (.lit (.int .i64 (zcx x y).2))],[]⟩):=by
 rw [<- h]; kernel_rfl
theorem zAi:SdP 155 zBS:=by
 letI:DecidableEq (ty 28):=inferInstanceAs (DecidableEq Term)
 exact zbiM (T:=28) zgn rfl Go.Proofs.Tryz.pdqTerm Tryz.isAgg28 (by unfold zr; exact Tryz.sizeOf28) call155 zlY zb4 (λc=>zcx) zCE
open Go.Proofs Go.RowKit
def zcf (x:yC):Bool×yC:=zxL zcx x
def zfc:Ab.Spec ty:=zh (cx:=base) (zc (zlZ 28) (zc (ze (vFn 63 zb4)) zo)) λx=>((zcf x.1).1,⟨[],[some ⟨28,(zcf x.1).2⟩]⟩)
set_option maxHeartbeats 1000000 in
theorem ztW:SdP 96 zfc where
 enters:=call96
 calls:=λavs r hsp w F vs hF ha hsep=>by
  unfold zfc zh at hsp;split at hsp
  ·rename_i x hx;simp only [qa,qb] at hsp;obtain ⟨hpre,rfl⟩:=hsp;have hk:=(zc (zlZ 28) (zc (ze (vFn 63 zb4)) zo):AL base _).kind vs avs x hx;have ha':=(zc (zlZ 28) (zc (ze (vFn 63 zb4)) zo):AL base _).ok Tryz.prog zgn F w vs avs x hx ha;rw [hk] at hsep ⊢;clear hk hx ha;obtain ⟨l0,c,u0⟩:=x;obtain ⟨l,rfl⟩:∃ l:yC,l=l0:=⟨l0,rfl⟩;obtain ⟨v,vs',rfl,hv,hv'⟩:=ha'.inv;obtain ⟨fv,vs'',rfl,hfv,h0⟩:=hv'.inv;obtain rfl:=h0.nil_left.1
   have hsl:∃ p cap,v=.slice p l.length cap:=by
    obtain ⟨⟨xs,hown,_⟩,_⟩:=(show zc5 base F w v 28 l/\∀ b,zbn v=some b->¬ F b from hv)
    rcases hown.2 with ⟨h1,h2⟩ | ⟨g0,cap,cur,h1,_⟩
    ·exact ⟨none,0,by rw [h1,show l.length=0 from h2]⟩
    ·exact ⟨_,cap,h1⟩
   have hok:SortOK (α:=Term) zcx l:=of_decide_eq_true (p:=SortOK (α:=Term) zcx l) hpre;have hlen:l.length<4611686018427387904:=hok.size;have hbl:Lib.bitLen l.length<4611686018427387904:=Nat.lt_of_le_of_lt (Lib.bitLen_le l.length 62 (by omega) (by omega)) (by omega)
   have hpp:(zlv l 0 (l.length:Int) ((Lib.bitLen l.length:Nat):Int)).1=true:=by
    show (decide (SortOK (α:=Term) zcx l)&&(decide ((0:Int)=0)&&(decide ((l.length:Int)=l.length)&&(decide ((0:Int)<=((Lib.bitLen l.length:Nat):Int))&&decide (((Lib.bitLen l.length:Nat):Int)<4611686018427387904)))))=true;simp only [qc,qe];exact ⟨hok,trivial,trivial,by omega,by omega⟩
   have hp:=(zAi).calls [.own 28 l,.pure (.lit (.int .i64 0)),.pure (.lit (.int .i64 (l.length:Int))),.pure (.lit (.int .i64 ((Lib.bitLen l.length:Nat):Int))),.pure (.fn 63 [])] ⟨[],[some ⟨28,(zcf l).2⟩]⟩
    (by rw [<- hpp]; kernel_rfl) w F [v,.int .i64 0,.int .i64 (l.length:Int),.int .i64 ((Lib.bitLen l.length:Nat):Int),fv] hF (.cons hv (.cons (Rep.lit _) (.cons (Rep.lit _) (.cons (Rep.lit _) (.cons hfv .nil))))) hsep
   replace hp:Calls Tryz.prog 155 #[v,.int .i64 0,.int .i64 (l.length:Int),.int .i64 ((Lib.bitLen l.length:Nat):Int),fv] w λe w'=>∃ u,e=.returned u/\Post base F w [v] ⟨[],[some ⟨28,(zcf l).2⟩]⟩ u w':=hp
   show Calls Tryz.prog 96 #[v,fv] w λe w'=>∃ u,e=.returned u/\Post base F w [v] ⟨[],[some ⟨28,(zcf l).2⟩]⟩ u w'
   have hb:Calls Tryz.prog 156 #[.int .u64 (l.length:Int)] w λe w'=>e=.returned (.int .i64 ((Lib.bitLen l.length:Nat):Int))/\w'=w:=by
    have h:=Any.bits_Len Go.Proofs.Tryz.lays125 (l.length:Int) w (by omega) (by omega)
    rwa [Int.toNat_natCast] at h
   have wr:IntKind.u64.wrap (l.length:Int)=l.length:=by simp [IntKind.wrap,IntKind.bits,IntKind.signed]; omega
   generalize (zcf l).2=res at hp ⊢;generalize hn:l.length=m at *;generalize Lib.bitLen m=bl at *;clear hpp hv hfv hsep hok hpre hF;obtain ⟨p,cap,rfl⟩:=hsl;clear hn
   go_enter func96,ntmps96
   go_wp2_with (first | (go_at_call 156; refine hb.mono ?_; rintro e w' ⟨rfl,rfl⟩) | (go_at_call 155; refine hp.mono ?_; rintro e w' ⟨u,rfl,hpost⟩; obtain rfl:=hpost.unit))
   go_end0
   exact ⟨_,rfl,hpost⟩
  ·cases hsp
end Go.Proofs.YtljlfiomikifjaaGreatDoor
namespace Go.Proofs.YtljlfiomikifjaaGreatDoor
open Go Go.Ab
open Go.Proofs.Tryz
abbrev zn9:=Unit×Unit×yC×Int×Int×Unit
abbrev znR:=(List (_root_.Go.Value×Int))×yC×Unit
def zTB (t11:yC) (t12:Int) (t13:Int) (at_:List (_root_.Go.Value×Int)) (out_:yC):Wy zn9 znR (yC):=.i (decide (t13<t12)) (.i (decide (0<=t13)&&decide (t13<Int.ofNat t11.length)) (.bn (zBh (t11.getD t13.toNat default).Fs) λr0=>.i (zbok (Value.string r0) at_) (.i (decide (0<=(zMC (Value.string r0) at_).getD 0)&&decide ((zMC (Value.string r0) at_).getD 0<Int.ofNat out_.length)) (.i (decide (0<=(zMC (Value.string r0) at_).getD 0)&&decide ((zMC (Value.string r0) at_).getD 0<Int.ofNat out_.length)) (.i (decide (Int.toNat ((zMC (Value.string r0) at_).getD 0)<out_.length)) (.h ((),(),t11,t12,(IntKind.i64.wrap (t13+1)),()) (at_,(out_.set (Int.toNat ((zMC (Value.string r0) at_).getD 0)) (TO.mk (if 1152921504606846976<IntKind.i64.wrap ((out_.getD (Int.toNat ((zMC (Value.string r0) at_).getD 0)) default).Cf+(t11.getD t13.toNat default).Cf) then 1152921504606846976 else IntKind.i64.wrap ((out_.getD (Int.toNat ((zMC (Value.string r0) at_).getD 0)) default).Cf+(t11.getD t13.toNat default).Cf)) (out_.getD (Int.toNat ((zMC (Value.string r0) at_).getD 0)) default).Fs)),())) .d) .d) .d) (.i (decide ((out_.length+[t11.getD t13.toNat default].length)*32<=zP)) (.h ((),(),t11,t12,(IntKind.i64.wrap (t13+1)),()) ((zboF (Value.string r0) (Int.ofNat out_.length) at_),(out_++[t11.getD t13.toNat default]),())) .d)) .d) (.k out_)
def zEq (x:zn9) (y:znR):=zTB x.2.2.1 x.2.2.2.1 x.2.2.2.2.1 y.1 y.2.1
def zUV (n:Nat) (t11:yC) (t12:Int) (t13:Int) (at_:List (_root_.Go.Value×Int)) (out_:yC):=zA (zEq) default n ((),(),t11,t12,t13,()) (at_,out_,())
def zRK (r:yC):LTree ty:=.done (.exit 0) [.own 208] [.arr 28 r false]
def zVi:LL ty zn9:=za (lMp 208) (za (zdK 209) (za (lSl 28) (za zj (za zj zk))))
def zUM:BL ty znR:=bMp 9 3 false (zdO 28 false (z8))
def zRX (x:zn9) (y:znR):Nat:=(x.2.2.1.length+Int.toNat x.2.2.2.1+Int.toNat x.2.2.2.2.1+y.1.length+y.2.1.length+1)
def zEd:=zbY zb5 52 [(63,zi1),(96,zfc),(139,zu0)] [(96,[true,false])] [(4,[(3,.keep),(4,.own 28),(11,.keep),(12,.keep),(13,.keep)])] [(4,1,(kpL [4]))] [(4,spW zVi zUM (zEq) default zRK zRX)] []
theorem zRB:zy zEd (lp (body f71) 0):=zm (id:=4) (hl:=rfl)
def zVO (terms:yC):Wy0 (yC):=.bn (zUV (terms.length+(Int.ofNat terms.length).toNat +Int.toNat 0+0+0+1) terms (Int.ofNat terms.length) 0 [] []) λr3=>.bn (zcf r3) λr2=>.k r2
def ztj (terms:yC):=(zVO terms).fin default
def zSt (r:yC):ARes ty:=⟨[.own 28 r],[]⟩
def zsT:=zh z43 λx=>((ztj x.1).1,zSt (ztj x.1).2)
theorem zBk:Sound Tryz.prog zb5 71 zsT:=
 sU (cx':=zEd) (zi ⟨zlY.nodr,ztW.nodr,zF3,trivial⟩) call71 func71 (lOK (aC zRB aN)) (sg:=⟨[.own 28],[]⟩)
def zmu (F:yC->Bool×yC):Ab.Spec ty:=zh z0t λx=>((F x.1).1,zSt (F x.1).2)
def zMd (r:At):ARes ty:=⟨[.pure (.agg (base.enc 67 r))],[]⟩
def zmd (F:At->Bool×At):Ab.Spec ty:=zh zC1 λx=>((F x.1).1,zMd (F x.1).2)
def zeH:Cx ty:={ base with nt:=8 }
def ziM (s:yD):Bool×yD:=(decide (s.length*128<=zP),s)
def zlF:Ab.Spec ty:=zh (cx:=base) (zc (ze (vSl 69)) zo) λx=>((ziM x.1).1,⟨[.own 69 (ziM x.1).2],[]⟩)
theorem zyB:zgD zeH f95 (body f95) ⟨[.own 69],[]⟩ [.pure (.lit (.slice none 0 0))]=some ⟨[.own 69 []],[]⟩:=by kernel_rfl
theorem zwA (p:Addr) (c:Nat):zgD zeH f95 (body f95) ⟨[.own 69],[]⟩ [.pure (.lit (.slice (some p) 0 c))]=some ⟨[.own 69 []],[]⟩:=by kernel_rfl
theorem zxq (l:yD):zgD zeH f95 (body f95) ⟨[.own 69],[]⟩ [.pure (.sl 69 l)]=bif !l.isEmpty then bif decide ((([]:List (ty 69)).length+l.length)*128<=zP) then some ⟨[.own 69 l],[]⟩ else none else none:=by kernel_rfl
theorem zwI:SdP 95 zlF:=
 zIo (cx':=zeH) (bytes:=128) zGk zgn ⟨⟨rfl,rfl,rfl,rfl,rfl,rfl⟩,rfl⟩ (λg s h=>by cases h) call95 func95 (c:=body f95) (by kernel_rfl) (zBz (l:=[]) (by kernel_rfl) trivial) zyB zwA zxq (by kernel_rfl)
abbrev zpk:=Unit×Unit×Unit×yC×Int×Int×Int×Int×Unit
abbrev zpU:=yC×Term×yD×Unit
abbrev zFP:=yC×Int×Int×yC×Term×yD
abbrev zpf:=Unit×yC×Int×Int×Unit
abbrev zpd:=yC×Unit
def zSx (zM:At->Bool×At) (t8:yC) (t9:Int) (t10:Int) (t18:Int) (t19:Int) (out_:yC) (t:Term) (factors:yD):Wy zpk zpU zFP:=.i (decide (t19<t18)) (.i (decide (0<=t19)&&decide (t19<Int.ofNat factors.length)) (.bn (zM (At.mk (factors.getD t19.toNat default).At.Kind (factors.getD t19.toNat default).At.Row (factors.getD t19.toNat default).At.Ag (factors.getD t19.toNat default).At.Func (factors.getD t19.toNat default).At.Items (factors.getD t19.toNat default).At.Op (factors.getD t19.toNat default).At.Bd)) λr2=>.i (decide (0<=t19)&&decide (t19<Int.ofNat factors.length)) (.i (decide (t19.toNat<factors.length)) (.h ((),(),(),t8,t9,t10,t18,(IntKind.i64.wrap (t19+1)),()) (out_,t,(factors.set t19.toNat (FO.mk (At.mk r2.Kind r2.Row r2.Ag r2.Func r2.Items r2.Op r2.Bd) (factors.getD t19.toNat default).Exp)),())) .d) .d) .d) (.k (t8,t9,t10,out_,t,factors))
def zCW (zM:At->Bool×At) (x:zpk) (y:zpU):=zSx zM x.2.2.2.1 x.2.2.2.2.1 x.2.2.2.2.2.1 x.2.2.2.2.2.2.1 x.2.2.2.2.2.2.2.1 y.1 y.2.1 y.2.2.1
def zR6 (zM:At->Bool×At) (n:Nat) (t8:yC) (t9:Int) (t10:Int) (t18:Int) (t19:Int) (out_:yC) (t:Term) (factors:yD):=zA (zCW zM) default n ((),(),(),t8,t9,t10,t18,t19,()) (out_,t,factors,())
def zPG (r:zFP):LTree ty:=.done (.exit 2) [.own 168,.ptr 169 0,.own 170,.sl 28 r.1,.lit (.int .i64 r.2.1),.lit (.int .i64 r.2.2.1)] [.arr 28 r.2.2.2.1 false,.box (base.enc 28 r.2.2.2.2.1) false,.arr 69 r.2.2.2.2.2 false]
def zSQ:LL ty zpk:=za (zdK 168) (za (zeb 169 0) (za (zdK 170) (za (lSl 28) (za zj (za zj (za zj (za zj zk)))))))
def zSK:BL ty zpU:=zdO 28 false (zf8 (zeR (λx=>(⟨x.1,x.2.1⟩:Term)) (λx=>(x.Cf,x.Fs,())) (λ_=>rfl) (za (zB .i64) (za (lSl 69) zk))) false (zdO 69 false (z8)))
def zSW (zM:At->Bool×At) (t8:yC) (t9:Int) (t10:Int) (out_:yC):Wy zpf zpd (yC):=.i (decide (t10<t9)) (.i (decide (0<=t10)&&decide (t10<Int.ofNat t8.length)) (.bn (ziM (t8.getD t10.toNat default).Fs) λr5=>.bn (zR6 zM (t8.length+t9.toNat +t10.toNat +(Int.ofNat r5.length).toNat +Int.toNat 0+out_.length+(t8.getD t10.toNat default).Fs.length+r5.length+1) t8 t9 t10 (Int.ofNat r5.length) 0 out_ (t8.getD t10.toNat default) r5) λr4=>.i (decide ((r4.2.2.2.1.length+[TO.mk r4.2.2.2.2.1.Cf r4.2.2.2.2.2].length)*32<=zP)) (.h ((),(r4.1),(r4.2.1),(IntKind.i64.wrap (r4.2.2.1+1)),()) ((r4.2.2.2.1++[TO.mk r4.2.2.2.2.1.Cf r4.2.2.2.2.2]),())) .d) .d) (.k out_)
def zC5 (zM:At->Bool×At) (x:zpf) (y:zpd):=zSW zM x.2.1 x.2.2.1 x.2.2.2.1 y.1
def zRW (zM:At->Bool×At) (n:Nat) (t8:yC) (t9:Int) (t10:Int) (out_:yC):=zA (zC5 zM) default n ((),t8,t9,t10,()) (out_,())
def zPX (r:yC):LTree ty:=.done (.exit 0) [.own 168] [.arr 28 r false]
def zR2:LL ty zpf:=za (zdK 168) (za (lSl 28) (za zj (za zj zk)))
def zSs:BL ty zpd:=zdO 28 false (z8)
def zQb (x:zpk) (y:zpU):Nat:=(x.2.2.2.1.length+Int.toNat x.2.2.2.2.1+Int.toNat x.2.2.2.2.2.1+Int.toNat x.2.2.2.2.2.2.1+Int.toNat x.2.2.2.2.2.2.2.1+y.1.length+y.2.1.Fs.length+y.2.2.1.length+1)
def zPS (x:zpf) (y:zpd):Nat:=(x.2.1.length+Int.toNat x.2.2.1+Int.toNat x.2.2.2.1+y.1.length+1)
def zuV (zM:At->Bool×At):=zbY base 42 [(95,zlF),(151,(zmd zM))] [] [(3,[(3,.own 28),(8,.keep),(9,.keep),(10,.keep)]),(7,(kpL [3,5,6,8,9,10,18,19]))] [(3,1,(kpL [3])),(7,3,(kpL [3,5,6,8,9,10]))] [(7,spW zSQ zSK (zCW zM) default zPG zQb),(3,spW zR2 zSs (zC5 zM) default zPX zPS)] []
theorem zPU (zM:At->Bool×At):zy (zuV zM) (lp (body f87) 1):=zm (id:=7) (hl:=rfl)
theorem zPF (zM:At->Bool×At):zy (zuV zM) (lp (body f87) 0):=zm (id:=3) (hl:=rfl)
def zUE (zM:At->Bool×At) (a:yC):Wy0 (yC):=.bn (zRW zM (a.length+(Int.ofNat a.length).toNat +Int.toNat 0+0+1) a (Int.ofNat a.length) 0 []) λr8=>.k r8
def zGH (zM:At->Bool×At) (a:yC):=(zUE zM a).fin default
theorem zMw (zM:At->Bool×At) (zMR:SdP 151 (zmd zM)):SdP 87 (zmu (zGH zM)):=
 sT (cx':=(zuV zM)) (zi ⟨zwI,zMR,trivial⟩) call87 func87 (lOK (aC (zPF zM) (aC (zPU zM) aN))) (sg:=⟨[.own 28],[]⟩)
def zdu:Cx ty:={ base with nt:=8 }
def zfy (s:yA):Bool×yA:=(decide (s.length*24<=zP),s)
def zh9:Ab.Spec ty:=zh (cx:=base) (zc (ze (vSl 23)) zo) λx=>((zfy x.1).1,⟨[.own 23 (zfy x.1).2],[]⟩)
theorem zr0:zgD zdu f181 (body f181) ⟨[.own 23],[]⟩ [.pure (.lit (.slice none 0 0))]=some ⟨[.own 23 []],[]⟩:=by kernel_rfl
theorem zqo (p:Addr) (c:Nat):zgD zdu f181 (body f181) ⟨[.own 23],[]⟩ [.pure (.lit (.slice (some p) 0 c))]=some ⟨[.own 23 []],[]⟩:=by kernel_rfl
theorem zqK (l:yA):zgD zdu f181 (body f181) ⟨[.own 23],[]⟩ [.pure (.sl 23 l)]=bif !l.isEmpty then bif decide ((([]:List (ty 23)).length+l.length)*24<=zP) then some ⟨[.own 23 l],[]⟩ else none else none:=by kernel_rfl
theorem zqy:SdP 181 zh9:=
 zIo (cx':=zdu) (bytes:=24) zGk zgn ⟨⟨rfl,rfl,rfl,rfl,rfl,rfl⟩,rfl⟩ (λg s h=>by cases h) call181 func181 (c:=body f181) (by kernel_rfl) (zBz (l:=[]) (by kernel_rfl) trivial) zr0 zqo zqK (by kernel_rfl)
def zd5:Cx ty:={ base with nt:=8 }
def zgN (s:yE):Bool×yE:=(decide (s.length*56<=zP),s)
def zjS:Ab.Spec ty:=zh (cx:=base) (zc (ze (vSl 100)) zo) λx=>((zgN x.1).1,⟨[.own 100 (zgN x.1).2],[]⟩)
theorem zu9:zgD zd5 f182 (body f182) ⟨[.own 100],[]⟩ [.pure (.lit (.slice none 0 0))]=some ⟨[.own 100 []],[]⟩:=by kernel_rfl
theorem ztn (p:Addr) (c:Nat):zgD zd5 f182 (body f182) ⟨[.own 100],[]⟩ [.pure (.lit (.slice (some p) 0 c))]=some ⟨[.own 100 []],[]⟩:=by kernel_rfl
theorem zur (l:yE):zgD zd5 f182 (body f182) ⟨[.own 100],[]⟩ [.pure (.sl 100 l)]=bif !l.isEmpty then bif decide ((([]:List (ty 100)).length+l.length)*56<=zP) then some ⟨[.own 100 l],[]⟩ else none else none:=by kernel_rfl
theorem ztv:SdP 182 zjS:=
 zIo (cx':=zd5) (bytes:=56) zGk zgn ⟨⟨rfl,rfl,rfl,rfl,rfl,rfl⟩,rfl⟩ (λg s h=>by cases h) call182 func182 (c:=body f182) (by kernel_rfl) (zBz (l:=[]) (by kernel_rfl) trivial) zu9 ztn zur (by kernel_rfl)
abbrev zdV:=Unit×Unit×Int×Int×Unit
abbrev zlj:=(Int×Int×Int×Unit×Int×yE×Int×Int×Int×ByteArray×Unit)×(Int×Int×Int×Unit×Int×Unit×Int×Int×Int×ByteArray×Unit)×yA×Unit
abbrev zAv:=Int×Int×Int×Int×yE×Int×Int×Int×ByteArray×Int×Int×Int×Int×Int×Int×Int×ByteArray×yA
abbrev zls:=(Int×Int×Int×Unit×Int×Unit×Int×Int×Int×ByteArray×Unit)×(Int×Int×Int×Unit×Int×Unit×Int×Int×Int×ByteArray×Unit)×yA×yE×Unit
abbrev zAr:=Int×Int×Int×Int×Int×Int×Int×ByteArray×Int×Int×Int×Int×Int×Int×Int×ByteArray×yA×yE
def zKF (zW:yC->Bool×yC) (t11:Int) (t12:Int) (x_0:Int) (x_1:Int) (x_2:Int) (x_3:Int) (x_4:yE) (x_5:Int) (x_6:Int) (x_7:Int) (x_8:ByteArray) (t2_0:Int) (t2_1:Int) (t2_2:Int) (t2_3:Int) (t2_4:Int) (t2_5:Int) (t2_6:Int) (t2_7:ByteArray) (b2:yA):Wy zdV zlj zAv:=.i (decide (t12<t11)) (.i (decide (0<=t12)&&decide (t12<Int.ofNat b2.length)) (.bn (zW (b2.getD t12.toNat default)) λr0=>.i (decide (0<=t12)&&decide (t12<Int.ofNat b2.length)) (.i (decide (t12.toNat<b2.length)) (.h ((),(),t11,(IntKind.i64.wrap (t12+1)),()) ((x_0,x_1,x_2,(),x_3,x_4,x_5,x_6,x_7,x_8,()),(t2_0,t2_1,t2_2,(),t2_3,(),t2_4,t2_5,t2_6,t2_7,()),(b2.set t12.toNat r0),())) .d) .d) .d) (.k (x_0,x_1,x_2,x_3,x_4,x_5,x_6,x_7,x_8,t2_0,t2_1,t2_2,t2_3,t2_4,t2_5,t2_6,t2_7,b2))
def zx8 (zW:yC->Bool×yC) (x:zdV) (y:zlj):=zKF zW x.2.2.1 x.2.2.2.1 y.1.1 y.1.2.1 y.1.2.2.1 y.1.2.2.2.2.1 y.1.2.2.2.2.2.1 y.1.2.2.2.2.2.2.1 y.1.2.2.2.2.2.2.2.1 y.1.2.2.2.2.2.2.2.2.1 y.1.2.2.2.2.2.2.2.2.2.1 y.2.1.1 y.2.1.2.1 y.2.1.2.2.1 y.2.1.2.2.2.2.1 y.2.1.2.2.2.2.2.2.1 y.2.1.2.2.2.2.2.2.2.1 y.2.1.2.2.2.2.2.2.2.2.1 y.2.1.2.2.2.2.2.2.2.2.2.1 y.2.2.1
def zLn (zW:yC->Bool×yC) (n:Nat) (t11:Int) (t12:Int) (x_0:Int) (x_1:Int) (x_2:Int) (x_3:Int) (x_4:yE) (x_5:Int) (x_6:Int) (x_7:Int) (x_8:ByteArray) (t2_0:Int) (t2_1:Int) (t2_2:Int) (t2_3:Int) (t2_4:Int) (t2_5:Int) (t2_6:Int) (t2_7:ByteArray) (b2:yA):=zA (zx8 zW) default n ((),(),t11,t12,()) ((x_0,x_1,x_2,(),x_3,x_4,x_5,x_6,x_7,x_8,()),(t2_0,t2_1,t2_2,(),t2_3,(),t2_4,t2_5,t2_6,t2_7,()),b2,())
def zJ6 (r:zAv):LTree ty:=.done (.exit 0) [.ptr 200 0,.ptr 201 0] [.box ([.lit (.int .i64 r.1),.lit (.int .i64 r.2.1),.lit (.int .i64 r.2.2.1),.own 202,.lit (.int .i64 r.2.2.2.1),.sl 100 r.2.2.2.2.1,.lit (.int .i64 r.2.2.2.2.2.1),.lit (.int .i64 r.2.2.2.2.2.2.1),.lit (.int .i64 r.2.2.2.2.2.2.2.1),.lit (.string r.2.2.2.2.2.2.2.2.1)]) false,.box ([.lit (.int .i64 r.2.2.2.2.2.2.2.2.2.1),.lit (.int .i64 r.2.2.2.2.2.2.2.2.2.2.1),.lit (.int .i64 r.2.2.2.2.2.2.2.2.2.2.2.1),.lit (.slice none 0 0),.lit (.int .i64 r.2.2.2.2.2.2.2.2.2.2.2.2.1),.lit (.slice none 0 0),.lit (.int .i64 r.2.2.2.2.2.2.2.2.2.2.2.2.2.1),.lit (.int .i64 r.2.2.2.2.2.2.2.2.2.2.2.2.2.2.1),.lit (.int .i64 r.2.2.2.2.2.2.2.2.2.2.2.2.2.2.2.1),.lit (.string r.2.2.2.2.2.2.2.2.2.2.2.2.2.2.2.2.1)]) false,.arr 23 r.2.2.2.2.2.2.2.2.2.2.2.2.2.2.2.2.2 false]
def zKV:LL ty zdV:=za (zeb 200 0) (za (zeb 201 0) (za zj (za zj zk)))
def zKC:BL ty zlj:=zf8 (za (zB .i64) (za (zB .i64) (za (zB .i64) (za (zdK 202) (za (zB .i64) (za (lSl 100) (za (zB .i64) (za (zB .i64) (za (zB .i64) (za zl4 zk)))))))))) false (zf8 (za (zB .i64) (za (zB .i64) (za (zB .i64) (za zbh0 (za (zB .i64) (za zbh0 (za (zB .i64) (za (zB .i64) (za (zB .i64) (za zl4 zk)))))))))) false (zdO 23 false (z8)))
def zKK (zW:yC->Bool×yC) (t32:Int) (t33:Int) (x_0:Int) (x_1:Int) (x_2:Int) (x_3:Int) (x_4:Int) (x_5:Int) (x_6:Int) (x_7:ByteArray) (t2_0:Int) (t2_1:Int) (t2_2:Int) (t2_3:Int) (t2_4:Int) (t2_5:Int) (t2_6:Int) (t2_7:ByteArray) (b2:yA) (b3:yE):Wy zdV zls zAr:=.i (decide (t33<t32)) (.i (decide (0<=t33)&&decide (t33<Int.ofNat b3.length)) (.bn (zW (b3.getD t33.toNat default).Ann) λr2=>.i (decide (0<=t33)&&decide (t33<Int.ofNat b3.length)) (.i (decide (t33.toNat<b3.length)) (.h ((),(),t32,(IntKind.i64.wrap (t33+1)),()) ((x_0,x_1,x_2,(),x_3,(),x_4,x_5,x_6,x_7,()),(t2_0,t2_1,t2_2,(),t2_3,(),t2_4,t2_5,t2_6,t2_7,()),b2,(b3.set t33.toNat (WO.mk (b3.getD t33.toNat default).Value r2)),())) .d) .d) .d) (.k (x_0,x_1,x_2,x_3,x_4,x_5,x_6,x_7,t2_0,t2_1,t2_2,t2_3,t2_4,t2_5,t2_6,t2_7,b2,b3))
def zx7 (zW:yC->Bool×yC) (x:zdV) (y:zls):=zKK zW x.2.2.1 x.2.2.2.1 y.1.1 y.1.2.1 y.1.2.2.1 y.1.2.2.2.2.1 y.1.2.2.2.2.2.2.1 y.1.2.2.2.2.2.2.2.1 y.1.2.2.2.2.2.2.2.2.1 y.1.2.2.2.2.2.2.2.2.2.1 y.2.1.1 y.2.1.2.1 y.2.1.2.2.1 y.2.1.2.2.2.2.1 y.2.1.2.2.2.2.2.2.1 y.2.1.2.2.2.2.2.2.2.1 y.2.1.2.2.2.2.2.2.2.2.1 y.2.1.2.2.2.2.2.2.2.2.2.1 y.2.2.1 y.2.2.2.1
def zK0 (zW:yC->Bool×yC) (n:Nat) (t32:Int) (t33:Int) (x_0:Int) (x_1:Int) (x_2:Int) (x_3:Int) (x_4:Int) (x_5:Int) (x_6:Int) (x_7:ByteArray) (t2_0:Int) (t2_1:Int) (t2_2:Int) (t2_3:Int) (t2_4:Int) (t2_5:Int) (t2_6:Int) (t2_7:ByteArray) (b2:yA) (b3:yE):=zA (zx7 zW) default n ((),(),t32,t33,()) ((x_0,x_1,x_2,(),x_3,(),x_4,x_5,x_6,x_7,()),(t2_0,t2_1,t2_2,(),t2_3,(),t2_4,t2_5,t2_6,t2_7,()),b2,b3,())
def zIK (r:zAr):LTree ty:=.done (.exit 2) [.ptr 200 0,.ptr 201 0] [.box ([.lit (.int .i64 r.1),.lit (.int .i64 r.2.1),.lit (.int .i64 r.2.2.1),.own 202,.lit (.int .i64 r.2.2.2.1),.own 203,.lit (.int .i64 r.2.2.2.2.1),.lit (.int .i64 r.2.2.2.2.2.1),.lit (.int .i64 r.2.2.2.2.2.2.1),.lit (.string r.2.2.2.2.2.2.2.1)]) false,.box ([.lit (.int .i64 r.2.2.2.2.2.2.2.2.1),.lit (.int .i64 r.2.2.2.2.2.2.2.2.2.1),.lit (.int .i64 r.2.2.2.2.2.2.2.2.2.2.1),.lit (.slice none 0 0),.lit (.int .i64 r.2.2.2.2.2.2.2.2.2.2.2.1),.lit (.slice none 0 0),.lit (.int .i64 r.2.2.2.2.2.2.2.2.2.2.2.2.1),.lit (.int .i64 r.2.2.2.2.2.2.2.2.2.2.2.2.2.1),.lit (.int .i64 r.2.2.2.2.2.2.2.2.2.2.2.2.2.2.1),.lit (.string r.2.2.2.2.2.2.2.2.2.2.2.2.2.2.2.1)]) false,.arr 23 r.2.2.2.2.2.2.2.2.2.2.2.2.2.2.2.2.1 false,.arr 100 r.2.2.2.2.2.2.2.2.2.2.2.2.2.2.2.2.2 false]
def zK5:BL ty zls:=zf8 (za (zB .i64) (za (zB .i64) (za (zB .i64) (za (zdK 202) (za (zB .i64) (za (zdK 203) (za (zB .i64) (za (zB .i64) (za (zB .i64) (za zl4 zk)))))))))) false (zf8 (za (zB .i64) (za (zB .i64) (za (zB .i64) (za zbh0 (za (zB .i64) (za zbh0 (za (zB .i64) (za (zB .i64) (za (zB .i64) (za zl4 zk)))))))))) false (zdO 23 false (zdO 100 false (z8))))
def zJA (x:zdV) (y:zlj):Nat:=(Int.toNat x.2.2.1+Int.toNat x.2.2.2.1+Int.toNat y.1.1+Int.toNat y.1.2.1+Int.toNat y.1.2.2.1+Int.toNat y.1.2.2.2.2.1+y.1.2.2.2.2.2.1.length+Int.toNat y.1.2.2.2.2.2.2.1+Int.toNat y.1.2.2.2.2.2.2.2.1+Int.toNat y.1.2.2.2.2.2.2.2.2.1+y.1.2.2.2.2.2.2.2.2.2.1.size+Int.toNat y.2.1.1+Int.toNat y.2.1.2.1+Int.toNat y.2.1.2.2.1+Int.toNat y.2.1.2.2.2.2.1+Int.toNat y.2.1.2.2.2.2.2.2.1+Int.toNat y.2.1.2.2.2.2.2.2.2.1+Int.toNat y.2.1.2.2.2.2.2.2.2.2.1+y.2.1.2.2.2.2.2.2.2.2.2.1.size+y.2.2.1.length+1)
def zJq (x:zdV) (y:zls):Nat:=(Int.toNat x.2.2.1+Int.toNat x.2.2.2.1+Int.toNat y.1.1+Int.toNat y.1.2.1+Int.toNat y.1.2.2.1+Int.toNat y.1.2.2.2.2.1+Int.toNat y.1.2.2.2.2.2.2.1+Int.toNat y.1.2.2.2.2.2.2.2.1+Int.toNat y.1.2.2.2.2.2.2.2.2.1+y.1.2.2.2.2.2.2.2.2.2.1.size+Int.toNat y.2.1.1+Int.toNat y.2.1.2.1+Int.toNat y.2.1.2.2.1+Int.toNat y.2.1.2.2.2.2.1+Int.toNat y.2.1.2.2.2.2.2.2.1+Int.toNat y.2.1.2.2.2.2.2.2.2.1+Int.toNat y.2.1.2.2.2.2.2.2.2.2.1+y.2.1.2.2.2.2.2.2.2.2.2.1.size+y.2.2.1.length+y.2.2.2.1.length+1)
def zoD (zW:yC->Bool×yC):=zbY base 50 [(87,(zmu zW)),(181,zh9),(182,zjS)] [] [(3,(kpL [1,2,11,12])),(9,(kpL [1,2,32,33]))] [(3,1,(kpL [1,2])),(9,3,(kpL [1,2]))] [(3,spW zKV zKC (zx8 zW) default zJ6 zJA),(9,spW zKV zK5 (zx7 zW) default zIK zJq)] []
theorem zI5 (zW:yC->Bool×yC):zy (zoD zW) (lp (body f151) 0):=zm (id:=3) (hl:=rfl)
theorem zJP (zW:yC->Bool×yC):zy (zoD zW) (lp (body f151) 1):=zm (id:=9) (hl:=rfl)
def zMM (zW:yC->Bool×yC) (x_:At):Wy0 (At):=.bn (zfy x_.Ag) λr7=>.bn (zLn zW ((Int.ofNat r7.length).toNat +Int.toNat 0+x_.Kind.toNat +x_.Row.Table.toNat +x_.Row.Seq.toNat +x_.Func.toNat +x_.Items.length+x_.Op.toNat +x_.Bd.Kind.toNat +x_.Bd.Int.toNat +x_.Bd.Text.size+Int.toNat 0+Int.toNat 0+Int.toNat 0+Int.toNat 0+Int.toNat 0+Int.toNat 0+Int.toNat 0+(ByteArray.mk #[]).size+r7.length+1) (Int.ofNat r7.length) 0 x_.Kind x_.Row.Table x_.Row.Seq x_.Func x_.Items x_.Op x_.Bd.Kind x_.Bd.Int x_.Bd.Text 0 0 0 0 0 0 0 (ByteArray.mk #[]) r7) λr6=>.bn (zgN r6.2.2.2.2.1) λr5=>.bn (zK0 zW ((Int.ofNat r5.length).toNat +Int.toNat 0+r6.1.toNat +r6.2.1.toNat +r6.2.2.1.toNat +r6.2.2.2.1.toNat +r6.2.2.2.2.2.1.toNat +r6.2.2.2.2.2.2.1.toNat +r6.2.2.2.2.2.2.2.1.toNat +r6.2.2.2.2.2.2.2.2.1.size+r6.2.2.2.2.2.2.2.2.2.1.toNat +r6.2.2.2.2.2.2.2.2.2.2.1.toNat +r6.2.2.2.2.2.2.2.2.2.2.2.1.toNat +r6.2.2.2.2.2.2.2.2.2.2.2.2.1.toNat +r6.2.2.2.2.2.2.2.2.2.2.2.2.2.1.toNat +r6.2.2.2.2.2.2.2.2.2.2.2.2.2.2.1.toNat +r6.2.2.2.2.2.2.2.2.2.2.2.2.2.2.2.1.toNat +r6.2.2.2.2.2.2.2.2.2.2.2.2.2.2.2.2.1.size+r6.2.2.2.2.2.2.2.2.2.2.2.2.2.2.2.2.2.length+r5.length+1) (Int.ofNat r5.length) 0 r6.1 r6.2.1 r6.2.2.1 r6.2.2.2.1 r6.2.2.2.2.2.1 r6.2.2.2.2.2.2.1 r6.2.2.2.2.2.2.2.1 r6.2.2.2.2.2.2.2.2.1 r6.2.2.2.2.2.2.2.2.2.1 r6.2.2.2.2.2.2.2.2.2.2.1 r6.2.2.2.2.2.2.2.2.2.2.2.1 r6.2.2.2.2.2.2.2.2.2.2.2.2.1 r6.2.2.2.2.2.2.2.2.2.2.2.2.2.1 r6.2.2.2.2.2.2.2.2.2.2.2.2.2.2.1 r6.2.2.2.2.2.2.2.2.2.2.2.2.2.2.2.1 r6.2.2.2.2.2.2.2.2.2.2.2.2.2.2.2.2.1 r6.2.2.2.2.2.2.2.2.2.2.2.2.2.2.2.2.2 r5) λr4=>.k (⟨r4.1,(⟨r4.2.1,r4.2.2.1⟩:RowID),r4.2.2.2.2.2.2.2.2.2.2.2.2.2.2.2.2.1,r4.2.2.2.1,r4.2.2.2.2.2.2.2.2.2.2.2.2.2.2.2.2.2,r4.2.2.2.2.1,(⟨r4.2.2.2.2.2.1,r4.2.2.2.2.2.2.1,r4.2.2.2.2.2.2.2.1⟩:Value)⟩:At)
def zCk (zW:yC->Bool×yC) (x_:At):=(zMM zW x_).fin default
theorem zGr (zW:yC->Bool×yC) (zT5:SdP 87 (zmu zW)):SdP 151 (zmd (zCk zW)):=
 sT (cx':=(zoD zW)) (zi ⟨zT5,zqy,ztv,trivial⟩) call151 func151 (lOK (aC (zI5 zW) (aC (zJP zW) aN)))
def zMT:Nat->(yC->Bool×yC)×(At->Bool×At)
 | 0=>(λ_=>(false,default),λ_=>(false,default))
 | n+1=>(zGH ((zMT n).2),zCk ((zMT n).1))
def zGZ (n:Nat):yC->Bool×yC:=(zMT n).1
def zQj (n:Nat):At->Bool×At:=(zMT n).2
theorem z1k:∀ n,SdP 87 (zmu (zGZ n))/\SdP 151 (zmd (zQj n))
 | 0=>⟨zba call87 (λ_=>rfl),zba call151 (λ_=>rfl)⟩
 | n+1=>by
  have ih:=z1k n;exact ⟨zMw _ (ih.2),zGr _ (ih.1)⟩
def zjs:yC->Bool×yC:=zGZ 1000
def zgV:Ab.Spec ty:=zmu zjs
theorem zjj:SdP 87 zgV:=(z1k 1000).1
def zUS:=zbt base 9 [(62,zuy),(87,zgV)]
def zWC (a:yC):Wy0 (yC×Int):=.bn (zlP a) λr1=>.i (!r1) (.k ([],6)) (.bn (zjs a) λr0=>.k (r0,0))
def zgc (a:yC):=(zWC a).fin default
def zeU:=zh z0t λx=>((zgc x.1).1,zRC (zgc x.1).2)
theorem zfM:SdP 70 zeU:=
 sT (cx':=zUS) (zi ⟨zCb,zjj,trivial⟩) call70 func70 (lOK aN) (sg:=⟨[.own 28,.pure],[]⟩)
def zy4:=zbt base 27 []
def zz6 (n_:Int):Wy0 (yC):=.i (decide (n_<0)) .d (.i (decide (IntKind.i64.wrap (n_ - IntKind.i64.wrap (0 - 0))>0)) (.i (decide (0<IntKind.i64.wrap (n_ - IntKind.i64.wrap (0 - 0)))&&(decide (IntKind.i64.wrap (n_ - IntKind.i64.wrap (0 - 0))*Int.ofNat 32<=Int.ofNat zP)&&(decide (IntKind.i64.wrap (n_ - IntKind.i64.wrap (0 - 0))<=Int.ofNat zP)&& !Nat.beq 2 0))) (.k (List.take (Int.toNat 0 - Int.toNat 0) (List.replicate (IntKind.i64.wrap (n_ - IntKind.i64.wrap (0 - 0))).toNat (TO.mk 0 [])))) .d) (.k []))
def ziL (n_:Int):=(zz6 n_).fin default
def zz9:AL base (Unit×Int×Unit):=zc (ze zblY) (zc (ze zf9) zo)
def zla:=zh zz9 λx=>((ziL x.2.1).1,zSt (ziL x.2.1).2)
theorem zwJ:SdP 140 zla:=
 sT (cx':=zy4) (zi trivial) call140 func140 (lOK aN) (sg:=⟨[.own 28],[]⟩)
abbrev ze8:=yA×Int×yA×Int×Int×Unit
abbrev znb:=yA×Int
abbrev ze7:=Unit×yA×Int×Int×Unit
abbrev ze1:=yC×Unit
def zxx (slices:yA) (size:Int) (t9:yA) (t10:Int) (t11:Int):Wy ze8 Unit znb:=.i (decide (t11<t10)) (.i (decide (0<=t11)&&decide (t11<Int.ofNat t9.length)) (.i (decide (IntKind.i64.wrap (size+Int.ofNat (List.length (t9.getD t11.toNat default)))<0)) .d (.h (slices,(IntKind.i64.wrap (size+Int.ofNat (List.length (t9.getD t11.toNat default)))),t9,t10,(IntKind.i64.wrap (t11+1)),()) ())) .d) (.k (slices,size))
def zlC (x:ze8) (y:Unit):=zxx x.1 x.2.1 x.2.2.1 x.2.2.2.1 x.2.2.2.2.1
def zx0 (n:Nat) (slices:yA) (size:Int) (t9:yA) (t10:Int) (t11:Int):=zA (zlC) default n (slices,size,t9,t10,t11,()) ()
def zwO (r:znb):LTree ty:=.done (.exit 0) [.sl 23 r.1,.lit (.int .i64 r.2)] []
def zx1:LL ty ze8:=za (lSl 23) (za zj (za (lSl 23) (za zj (za zj zk))))
def zwU (t25:yA) (t26:Int) (t27:Int) (newslice:yC):Wy ze7 ze1 (yC):=.i (decide (t27<t26)) (.i (decide (0<=t27)&&decide (t27<Int.ofNat t25.length)) (.i (decide ((newslice.length+List.length (t25.getD t27.toNat default))*32<=zP)) (.h ((),t25,t26,(IntKind.i64.wrap (t27+1)),()) ((newslice++t25.getD t27.toNat default),())) .d) .d) (.k newslice)
def zkY (x:ze7) (y:ze1):=zwU x.2.1 x.2.2.1 x.2.2.2.1 y.1
def zwz (n:Nat) (t25:yA) (t26:Int) (t27:Int) (newslice:yC):=zA (zkY) default n ((),t25,t26,t27,()) (newslice,())
def zvY (r:yC):LTree ty:=.done (.exit 2) [.own 144] [.arr 28 r false]
def zwK:LL ty ze7:=za (zdK 144) (za (lSl 23) (za zj (za zj zk)))
def zwM:BL ty ze1:=zdO 28 false (z8)
def zwW (x:ze8) (y:Unit):Nat:=(x.1.length+Int.toNat x.2.1+x.2.2.1.length+Int.toNat x.2.2.2.1+Int.toNat x.2.2.2.2.1+1)
def zwq (x:ze7) (y:ze1):Nat:=(x.2.1.length+Int.toNat x.2.2.1+Int.toNat x.2.2.2.1+y.1.length+1)
def zgx:=zbY base 36 [(140,zla)] [] [(3,(kpL [0,3,9,10,11])),(11,(kpL [6,25,26,27]))] [(3,1,(kpL [0,3])),(11,3,(kpL [6]))] [(3,spW zx1 zbc9 (zlC) default zwO zwW),(11,spW zwK zwM (zkY) default zvY zwq)] [140]
theorem zwB:zy zgx (lp (body f72) 0):=zm (id:=3) (hl:=rfl)
theorem zws:zy zgx (lp (body f72) 1):=zm (id:=11) (hl:=rfl)
def zyw (slices:yA):Wy0 (yC):=.bn (zx0 (slices.length+Int.toNat 0+slices.length+(Int.ofNat slices.length).toNat +Int.toNat 0+1) slices 0 slices (Int.ofNat slices.length) 0) λr2=>.bn (ziL r2.2) λr1=>.bn (zwz (r2.1.length+(Int.ofNat r2.1.length).toNat +Int.toNat 0+r1.length+1) r2.1 (Int.ofNat r2.1.length) 0 r1) λr0=>.k r0
def zhA (slices:yA):=(zyw slices).fin default
def zyD:AL base (yA×Unit):=zc (ze (vSl 23)) zo
def zkx:=zh zyD λx=>((zhA x.1).1,zSt (zhA x.1).2)
theorem zvc:SdP 72 zkx:=
 sT (cx':=zgx) (zi ⟨zwJ,trivial⟩) call72 func72 (lOK (aC zwB (aC zws aN))) (sg:=⟨[.own 28],[]⟩)
def z4Z:=zbt zb5 22 [(20,zcE),(70,zeU),(71,zsT),(72,zkx)]
def z7w (a:yC) (b:yC):Wy0 (yC×Int):=.bn (zci a) λr4=>.i (!r4) (.k ([],1)) (.bn (zci b) λr3=>.i (!r3) (.k ([],1)) (.bn (zhA [a,b]) λr2=>.bn (ztj r2) λr1=>.bn (zgc r1) λr0=>.k (r0.1,r0.2)))
def zH0 (a:yC) (b:yC):=(z7w a b).fin default
def z7m:AL zb5 (yC×yC×Unit):=zc (ze (vSl 28)) (zc (ze (vSl 28)) zo)
def zG6:=zh z7m λx=>((zH0 x.1 x.2.1).1,zRC (zH0 x.1 x.2.1).2)
theorem zWO:Sound Tryz.prog zb5 23 zG6:=
 sU (cx':=z4Z) (zi ⟨zcI.nodr,zfM.nodr,zBk,zvc.nodr,trivial⟩) call23 func23 (lOK aN) (sg:=⟨[.own 28,.pure],[]⟩)
def zZR:=zbt base 9 []
def z2s (n_:Int):Wy0 (yC):=.i (decide (n_<1)) (.k []) (.k [TO.mk (if 1152921504606846976<n_ then 1152921504606846976 else n_) []])
def zDL (n_:Int):=(z2s n_).fin default
def zEn:=zh z4Y λx=>((zDL x.1).1,zSt (zDL x.1).2)
theorem zSu:SdP 149 zEn:=
 sT (cx':=zZR) (zi trivial) call149 func149 (lOK aN) (sg:=⟨[.own 28],[]⟩)
def zz1:=zbt base 27 []
def zAW (n_:Int):Wy0 (yD):=.i (decide (n_<0)) .d (.i (decide (IntKind.i64.wrap (n_ - IntKind.i64.wrap (0 - 0))>0)) (.i (decide (0<IntKind.i64.wrap (n_ - IntKind.i64.wrap (0 - 0)))&&(decide (IntKind.i64.wrap (n_ - IntKind.i64.wrap (0 - 0))*Int.ofNat 128<=Int.ofNat zP)&&(decide (IntKind.i64.wrap (n_ - IntKind.i64.wrap (0 - 0))<=Int.ofNat zP)&& !Nat.beq 11 0))) (.k (List.take (Int.toNat 0 - Int.toNat 0) (List.replicate (IntKind.i64.wrap (n_ - IntKind.i64.wrap (0 - 0))).toNat (FO.mk (At.mk 0 (RowID.mk 0 0) [] 0 [] 0 (Value.mk 0 0 (ByteArray.mk #[]))) 0)))) .d) (.k []))
def zju (n_:Int):=(zAW n_).fin default
def zy9 (r:yD):ARes ty:=⟨[.own 69 r],[]⟩
def zlX:=zh zz9 λx=>((zju x.2.1).1,zy9 (zju x.2.1).2)
theorem zxA:SdP 220 zlX:=
 sT (cx':=zz1) (zi trivial) call220 func220 (lOK aN) (sg:=⟨[.own 69],[]⟩)
abbrev zfv:=List (yD)×Int×List (yD)×Int×Int×Unit
abbrev znN:=List (yD)×Int
abbrev zfn:=Unit×List (yD)×Int×Int×Unit
abbrev zfu:=yD×Unit
def zys (slices:List (yD)) (size:Int) (t9:List (yD)) (t10:Int) (t11:Int):Wy zfv Unit znN:=.i (decide (t11<t10)) (.i (decide (0<=t11)&&decide (t11<Int.ofNat t9.length)) (.i (decide (IntKind.i64.wrap (size+Int.ofNat (List.length (t9.getD t11.toNat default)))<0)) .d (.h (slices,(IntKind.i64.wrap (size+Int.ofNat (List.length (t9.getD t11.toNat default)))),t9,t10,(IntKind.i64.wrap (t11+1)),()) ())) .d) (.k (slices,size))
def zlU (x:zfv) (y:Unit):=zys x.1 x.2.1 x.2.2.1 x.2.2.2.1 x.2.2.2.2.1
def zyi (n:Nat) (slices:List (yD)) (size:Int) (t9:List (yD)) (t10:Int) (t11:Int):=zA (zlU) default n (slices,size,t9,t10,t11,()) ()
def zxi (r:znN):LTree ty:=.done (.exit 0) [.sl 26 r.1,.lit (.int .i64 r.2)] []
def zyS:LL ty zfv:=za (lSl 26) (za zj (za (lSl 26) (za zj (za zj zk))))
def zxT (t25:List (yD)) (t26:Int) (t27:Int) (newslice:yD):Wy zfn zfu (yD):=.i (decide (t27<t26)) (.i (decide (0<=t27)&&decide (t27<Int.ofNat t25.length)) (.i (decide ((newslice.length+List.length (t25.getD t27.toNat default))*128<=zP)) (.h ((),t25,t26,(IntKind.i64.wrap (t27+1)),()) ((newslice++t25.getD t27.toNat default),())) .d) .d) (.k newslice)
def zk6 (x:zfn) (y:zfu):=zxT x.2.1 x.2.2.1 x.2.2.2.1 y.1
def zxX (n:Nat) (t25:List (yD)) (t26:Int) (t27:Int) (newslice:yD):=zA (zk6) default n ((),t25,t26,t27,()) (newslice,())
def zwN (r:yD):LTree ty:=.done (.exit 2) [.own 144] [.arr 69 r false]
def zxV:LL ty zfn:=za (zdK 144) (za (lSl 26) (za zj (za zj zk)))
def zxQ:BL ty zfu:=zdO 69 false (z8)
def zxp (x:zfv) (y:Unit):Nat:=(x.1.length+Int.toNat x.2.1+x.2.2.1.length+Int.toNat x.2.2.2.1+Int.toNat x.2.2.2.2.1+1)
def zwS (x:zfn) (y:zfu):Nat:=(x.2.1.length+Int.toNat x.2.2.1+Int.toNat x.2.2.2.1+y.1.length+1)
def zgQ:=zbY base 36 [(220,zlX)] [] [(3,(kpL [0,3,9,10,11])),(11,(kpL [6,25,26,27]))] [(3,1,(kpL [0,3])),(11,3,(kpL [6]))] [(3,spW zyS zbc9 (zlU) default zxi zxp),(11,spW zxV zxQ (zk6) default zwN zwS)] [220]
theorem zxP:zy zgQ (lp (body f183) 0):=zm (id:=3) (hl:=rfl)
theorem zwE:zy zgQ (lp (body f183) 1):=zm (id:=11) (hl:=rfl)
def zy3 (slices:List (yD)):Wy0 (yD):=.bn (zyi (slices.length+Int.toNat 0+slices.length+(Int.ofNat slices.length).toNat +Int.toNat 0+1) slices 0 slices (Int.ofNat slices.length) 0) λr2=>.bn (zju r2.2) λr1=>.bn (zxX (r2.1.length+(Int.ofNat r2.1.length).toNat +Int.toNat 0+r1.length+1) r2.1 (Int.ofNat r2.1.length) 0 r1) λr0=>.k r0
def zie (slices:List (yD)):=(zy3 slices).fin default
def zzl:AL base (List (yD)×Unit):=zc (ze (vSl 26)) zo
def zk0:=zh zzl λx=>((zie x.1).1,zy9 (zie x.1).2)
theorem zvO:SdP 183 zk0:=
 sT (cx':=zgQ) (zi ⟨zxA,trivial⟩) call183 func183 (lOK (aC zxP (aC zwE aN))) (sg:=⟨[.own 69],[]⟩)
abbrev zt9:=yD×yD×Unit×Unit
abbrev ztq:=yD×Unit
abbrev zIG:=yD×yD×yD
def z26 (a:yD) (b:yD) (out_:yD):Wy zt9 ztq zIG:=.i (decide (Int.ofNat a.length>0)) (.i (decide (Int.ofNat b.length>0)) (.i (decide ((0:Int)<=(0:Int))&&decide (0<Int.ofNat a.length)) (.i (decide ((0:Int)<=(0:Int))&&decide (0<Int.ofNat b.length)) (.bn (zi8 (At.mk (a.getD (Int.toNat 0) default).At.Kind (a.getD (Int.toNat 0) default).At.Row (a.getD (Int.toNat 0) default).At.Ag (a.getD (Int.toNat 0) default).At.Func (a.getD (Int.toNat 0) default).At.Items (a.getD (Int.toNat 0) default).At.Op (a.getD (Int.toNat 0) default).At.Bd) (At.mk (b.getD (Int.toNat 0) default).At.Kind (b.getD (Int.toNat 0) default).At.Row (b.getD (Int.toNat 0) default).At.Ag (b.getD (Int.toNat 0) default).At.Func (b.getD (Int.toNat 0) default).At.Items (b.getD (Int.toNat 0) default).At.Op (b.getD (Int.toNat 0) default).At.Bd)) λr1=>.i (decide (r1<0)) (.i (decide ((0:Int)<=(0:Int))&&decide (0<Int.ofNat a.length)) (.i (decide ((out_.length+[FO.mk (At.mk (a.getD (Int.toNat 0) default).At.Kind (a.getD (Int.toNat 0) default).At.Row (a.getD (Int.toNat 0) default).At.Ag (a.getD (Int.toNat 0) default).At.Func (a.getD (Int.toNat 0) default).At.Items (a.getD (Int.toNat 0) default).At.Op (a.getD (Int.toNat 0) default).At.Bd) (a.getD (Int.toNat 0) default).Exp].length)*128<=zP)) (.i (decide ((0:Int)<=(1:Int))&&decide (1<=Int.ofNat a.length)&&decide (Int.ofNat a.length<=Int.ofNat a.length)) (.h ((List.take ((Int.ofNat a.length).toNat - Int.toNat 1) (List.drop (Int.toNat 1) a)),b,(),()) ((out_++[FO.mk (At.mk (a.getD (Int.toNat 0) default).At.Kind (a.getD (Int.toNat 0) default).At.Row (a.getD (Int.toNat 0) default).At.Ag (a.getD (Int.toNat 0) default).At.Func (a.getD (Int.toNat 0) default).At.Items (a.getD (Int.toNat 0) default).At.Op (a.getD (Int.toNat 0) default).At.Bd) (a.getD (Int.toNat 0) default).Exp]),())) .d) .d) .d) (.i (decide (r1>0)) (.i (decide ((0:Int)<=(0:Int))&&decide (0<Int.ofNat b.length)) (.i (decide ((out_.length+[FO.mk (At.mk (b.getD (Int.toNat 0) default).At.Kind (b.getD (Int.toNat 0) default).At.Row (b.getD (Int.toNat 0) default).At.Ag (b.getD (Int.toNat 0) default).At.Func (b.getD (Int.toNat 0) default).At.Items (b.getD (Int.toNat 0) default).At.Op (b.getD (Int.toNat 0) default).At.Bd) (b.getD (Int.toNat 0) default).Exp].length)*128<=zP)) (.i (decide ((0:Int)<=(1:Int))&&decide (1<=Int.ofNat b.length)&&decide (Int.ofNat b.length<=Int.ofNat b.length)) (.h (a,(List.take ((Int.ofNat b.length).toNat - Int.toNat 1) (List.drop (Int.toNat 1) b)),(),()) ((out_++[FO.mk (At.mk (b.getD (Int.toNat 0) default).At.Kind (b.getD (Int.toNat 0) default).At.Row (b.getD (Int.toNat 0) default).At.Ag (b.getD (Int.toNat 0) default).At.Func (b.getD (Int.toNat 0) default).At.Items (b.getD (Int.toNat 0) default).At.Op (b.getD (Int.toNat 0) default).At.Bd) (b.getD (Int.toNat 0) default).Exp]),())) .d) .d) .d) (.i (decide ((0:Int)<=(0:Int))&&decide (0<Int.ofNat a.length)) (.bn (zfX (At.mk (a.getD (Int.toNat 0) default).At.Kind (a.getD (Int.toNat 0) default).At.Row (a.getD (Int.toNat 0) default).At.Ag (a.getD (Int.toNat 0) default).At.Func (a.getD (Int.toNat 0) default).At.Items (a.getD (Int.toNat 0) default).At.Op (a.getD (Int.toNat 0) default).At.Bd)) λr0=>.i (!r0) (.i (decide ((0:Int)<=(0:Int))&&decide (0<Int.ofNat b.length)) (.i (decide ((out_.length+[FO.mk (At.mk (a.getD (Int.toNat 0) default).At.Kind (a.getD (Int.toNat 0) default).At.Row (a.getD (Int.toNat 0) default).At.Ag (a.getD (Int.toNat 0) default).At.Func (a.getD (Int.toNat 0) default).At.Items (a.getD (Int.toNat 0) default).At.Op (a.getD (Int.toNat 0) default).At.Bd) (IntKind.i64.wrap ((a.getD (Int.toNat 0) default).Exp+(b.getD (Int.toNat 0) default).Exp))].length)*128<=zP)) (.i (decide ((0:Int)<=(1:Int))&&decide (1<=Int.ofNat a.length)&&decide (Int.ofNat a.length<=Int.ofNat a.length)) (.i (decide ((0:Int)<=(1:Int))&&decide (1<=Int.ofNat b.length)&&decide (Int.ofNat b.length<=Int.ofNat b.length)) (.h ((List.take ((Int.ofNat a.length).toNat - Int.toNat 1) (List.drop (Int.toNat 1) a)),(List.take ((Int.ofNat b.length).toNat - Int.toNat 1) (List.drop (Int.toNat 1) b)),(),()) ((out_++[FO.mk (At.mk (a.getD (Int.toNat 0) default).At.Kind (a.getD (Int.toNat 0) default).At.Row (a.getD (Int.toNat 0) default).At.Ag (a.getD (Int.toNat 0) default).At.Func (a.getD (Int.toNat 0) default).At.Items (a.getD (Int.toNat 0) default).At.Op (a.getD (Int.toNat 0) default).At.Bd) (IntKind.i64.wrap ((a.getD (Int.toNat 0) default).Exp+(b.getD (Int.toNat 0) default).Exp))]),())) .d) .d) .d) .d) (.i (decide ((out_.length+[FO.mk (At.mk (a.getD (Int.toNat 0) default).At.Kind (a.getD (Int.toNat 0) default).At.Row (a.getD (Int.toNat 0) default).At.Ag (a.getD (Int.toNat 0) default).At.Func (a.getD (Int.toNat 0) default).At.Items (a.getD (Int.toNat 0) default).At.Op (a.getD (Int.toNat 0) default).At.Bd) (a.getD (Int.toNat 0) default).Exp].length)*128<=zP)) (.i (decide ((0:Int)<=(1:Int))&&decide (1<=Int.ofNat a.length)&&decide (Int.ofNat a.length<=Int.ofNat a.length)) (.i (decide ((0:Int)<=(1:Int))&&decide (1<=Int.ofNat b.length)&&decide (Int.ofNat b.length<=Int.ofNat b.length)) (.h ((List.take ((Int.ofNat a.length).toNat - Int.toNat 1) (List.drop (Int.toNat 1) a)),(List.take ((Int.ofNat b.length).toNat - Int.toNat 1) (List.drop (Int.toNat 1) b)),(),()) ((out_++[FO.mk (At.mk (a.getD (Int.toNat 0) default).At.Kind (a.getD (Int.toNat 0) default).At.Row (a.getD (Int.toNat 0) default).At.Ag (a.getD (Int.toNat 0) default).At.Func (a.getD (Int.toNat 0) default).At.Items (a.getD (Int.toNat 0) default).At.Op (a.getD (Int.toNat 0) default).At.Bd) (a.getD (Int.toNat 0) default).Exp]),())) .d) .d) .d)) .d))) .d) .d) (.k (a,b,out_))) (.k (a,b,out_))
def zJj (x:zt9) (y:ztq):=z26 x.1 x.2.1 y.1
def z2Z (n:Nat) (a:yD) (b:yD) (out_:yD):=zA (zJj) default n (a,b,(),()) (out_,())
def zZQ (r:zIG):LTree ty:=.done (.exit 0) [.sl 69 r.1,.sl 69 r.2.1,.own 300] [.arr 69 r.2.2 false]
def z1Q:LL ty zt9:=za (lSl 69) (za (lSl 69) (za (zdK 300) zk))
def z2I:BL ty ztq:=zdO 69 false (z8)
def zYD (x:zt9) (y:ztq):Nat:=(x.1.length+x.2.1.length+y.1.length+1)
def zIQ:=zbY base 75 [(64,zj3),(65,zmG),(183,zk0)] [] [(2,[(0,.keep),(1,.keep),(5,.own 69)])] [(2,1,(kpL [0,1,5]))] [(2,spW z1Q z2I (zJj) default zZQ zYD)] []
theorem zYB:zy zIQ (lp (body f154) 0):=zm (id:=2) (hl:=rfl)
def z34 (a:yD) (b:yD):Wy0 (yD):=.bn (z2Z (a.length+b.length+0+1) a b []) λr5=>.bn (zie [r5.2.2,r5.1,r5.2.1]) λr4=>.k r4
def zFF (a:yD) (b:yD):=(z34 a b).fin default
def z4d:AL base (yD×yD×Unit):=zc (ze (vSl 69)) (zc (ze (vSl 69)) zo)
def zF6:=zh z4d λx=>((zFF x.1 x.2.1).1,zy9 (zFF x.1 x.2.1).2)
theorem zUK:SdP 154 zF6:=
 sT (cx':=zIQ) (zi ⟨znl,zu4,zvO,trivial⟩) call154 func154 (lOK (aC zYB aN)) (sg:=⟨[.own 69],[]⟩)
def zZh:=zbt base 12 []
def zJ2 (a:Int) (b:Int):Wy0 (Int):=.i (!decide (b=0)) (.i (decide (a>IntKind.i64.wrap (Int.tdiv 1152921504606846976 b))) (.k 1152921504606846976) (.k (IntKind.i64.wrap (a*b)))) .d
def zrb (a:Int) (b:Int):=(zJ2 a b).fin default
def zEB:=zh zYS λx=>((zrb x.1 x.2.1).1,zRZ (zrb x.1 x.2.1).2)
theorem zRw:SdP 153 zEB:=
 sT (cx':=zZh) (zi trivial) call153 func153 (lOK aN)
abbrev zvg:=yC×Unit×Unit×yC×Int×Int×yC×Int×Int×Unit
abbrev zvx:=yC×Term×Unit
abbrev zLQ:=yC×yC×Int×Int×yC
abbrev zvk:=yC×Unit×yC×Int×Int×Unit
abbrev zvw:=yC×Unit
def z3H (b:yC) (t19:yC) (t20:Int) (t21:Int) (t25:yC) (t26:Int) (t27:Int) (terms:yC) (x_:Term):Wy zvg zvx zLQ:=.i (decide (t27<t26)) (.i (decide (0<=t27)&&decide (t27<Int.ofNat t25.length)) (.bn (zrb x_.Cf (t25.getD t27.toNat default).Cf) λr5=>.bn (zFF x_.Fs (t25.getD t27.toNat default).Fs) λr4=>.i (decide ((terms.length+[TO.mk r5 r4].length)*32<=zP)) (.h (b,(),(),t19,t20,t21,t25,t26,(IntKind.i64.wrap (t27+1)),()) ((terms++[TO.mk r5 r4]),x_,())) .d) .d) (.k (b,t19,t20,t21,terms))
def zL0 (x:zvg) (y:zvx):=z3H x.1 x.2.2.2.1 x.2.2.2.2.1 x.2.2.2.2.2.1 x.2.2.2.2.2.2.1 x.2.2.2.2.2.2.2.1 x.2.2.2.2.2.2.2.2.1 y.1 y.2.1
def z4U (n:Nat) (b:yC) (t19:yC) (t20:Int) (t21:Int) (t25:yC) (t26:Int) (t27:Int) (terms:yC) (x_:Term):=zA (zL0) default n (b,(),(),t19,t20,t21,t25,t26,t27,()) (terms,x_,())
def z19 (r:zLQ):LTree ty:=.done (.exit 2) [.sl 28 r.1,.own 208,.sl 28 r.2.1,.lit (.int .i64 r.2.2.1),.lit (.int .i64 r.2.2.2.1)] [.arr 28 r.2.2.2.2 false]
def z4G:LL ty zvg:=za (lSl 28) (za (zdK 208) (za (zeb 209 0) (za (lSl 28) (za zj (za zj (za (lSl 28) (za zj (za zj zk))))))))
def z4D:BL ty zvx:=zdO 28 false (zf8 (zeR (λx=>(⟨x.1,x.2.1⟩:Term)) (λx=>(x.Cf,x.Fs,())) (λ_=>rfl) (za (zB .i64) (za (lSl 69) zk))) false (z8))
def z3W (b:yC) (t19:yC) (t20:Int) (t21:Int) (terms:yC):Wy zvk zvw (yC):=.i (decide (t21<t20)) (.i (decide (0<=t21)&&decide (t21<Int.ofNat t19.length)) (.bn (z4U (b.length+t19.length+t20.toNat +t21.toNat +b.length+(Int.ofNat b.length).toNat +Int.toNat 0+terms.length+(t19.getD t21.toNat default).Fs.length+1) b t19 t20 t21 b (Int.ofNat b.length) 0 terms (t19.getD t21.toNat default)) λr8=>.h ((r8.1),(),(r8.2.1),(r8.2.2.1),(IntKind.i64.wrap (r8.2.2.2.1+1)),()) ((r8.2.2.2.2),())) .d) (.k terms)
def zLR (x:zvk) (y:zvw):=z3W x.1 x.2.2.1 x.2.2.2.1 x.2.2.2.2.1 y.1
def z5a (n:Nat) (b:yC) (t19:yC) (t20:Int) (t21:Int) (terms:yC):=zA (zLR) default n (b,(),t19,t20,t21,()) (terms,())
def z4z:LL ty zvk:=za (lSl 28) (za (zdK 208) (za (lSl 28) (za zj (za zj zk))))
def z44:BL ty zvw:=zdO 28 false (z8)
def z2O (x:zvg) (y:zvx):Nat:=(x.1.length+x.2.2.2.1.length+Int.toNat x.2.2.2.2.1+Int.toNat x.2.2.2.2.2.1+x.2.2.2.2.2.2.1.length+Int.toNat x.2.2.2.2.2.2.2.1+Int.toNat x.2.2.2.2.2.2.2.2.1+y.1.length+y.2.1.Fs.length+1)
def z1Y (x:zvk) (y:zvw):Nat:=(x.1.length+x.2.2.1.length+Int.toNat x.2.2.2.1+Int.toNat x.2.2.2.2.1+y.1.length+1)
def zCq:=zbY zb5 52 [(20,zcE),(70,zeU),(71,zsT),(153,zEB),(154,zF6)] [] [(5,[(1,.keep),(6,.own 28),(19,.keep),(20,.keep),(21,.keep)]),(8,[(1,.keep),(6,.own 28),(8,.keep),(19,.keep),(20,.keep),(21,.keep),(25,.keep),(26,.keep),(27,.keep)])] [(5,1,(kpL [6])),(8,3,(kpL [1,6,19,20,21]))] [(8,spW z4G z4D (zL0) default z19 z2O),(5,spW z4z z44 (zLR) default zRK z1Y)] []
theorem z2E:zy zCq (lp (body f92) 1):=zm (id:=8) (hl:=rfl)
theorem z1u:zy zCq (lp (body f92) 0):=zm (id:=5) (hl:=rfl)
def z6I (a:yC) (b:yC):Wy0 (yC×Int):=.bn (zci a) λr14=>.i (!r14) (.k ([],1)) (.bn (zci b) λr13=>.i (!r13) (.k ([],1)) (.bn (z5a (b.length+a.length+(Int.ofNat a.length).toNat +Int.toNat 0+0+1) b a (Int.ofNat a.length) 0 []) λr12=>.bn (ztj r12) λr11=>.bn (zgc r11) λr10=>.k (r10.1,r10.2)))
def zId (a:yC) (b:yC):=(z6I a b).fin default
def zG1:=zh z7m λx=>((zId x.1 x.2.1).1,zRC (zId x.1 x.2.1).2)
theorem zWW:Sound Tryz.prog zb5 92 zG1:=
 sU (cx':=zCq) (zi ⟨zcI.nodr,zfM.nodr,zBk,zRw.nodr,zUK.nodr,trivial⟩) call92 func92 (lOK (aC z1u (aC z2E aN))) (sg:=⟨[.own 28,.pure],[]⟩)
def zFb:=zbt base 8 []
def zGu (b:Bg) (p1:RowID):Wy0 (Bool):=.k (b.Row.Table==p1.Table&&(b.Row.Seq==p1.Seq&&true))
def znc (b:Bg) (p1:RowID):=(zGu b p1).fin default
def zGq:AL base (Bg×RowID×Unit):=zc (ze (zcy 51)) (zc (ze (zzR 49)) zo)
def zke:=zh zGq λx=>((znc x.1 x.2.1).1,zZL (znc x.1 x.2.1).2)
theorem zp7:SdP 86 zke:=
 sT (cx':=zFb) (zi trivial) call86 func86 (lOK aN)
def zXB:=zbt base 8 []
def zGK (x_:At):Wy0 (yC):=.k [TO.mk 1 [FO.mk (At.mk x_.Kind x_.Row x_.Ag x_.Func x_.Items x_.Op x_.Bd) 1]]
def zfJ (x_:At):=(zGK x_).fin default
def zgZ:=zh zC1 λx=>((zfJ x.1).1,zSt (zfJ x.1).2)
theorem zji:SdP 152 zgZ:=
 sT (cx':=zXB) (zi trivial) call152 func152 (lOK aN) (sg:=⟨[.own 28],[]⟩)
def z35:=zbt base 9 [(128,zvn),(152,zgZ)]
def zNz (id:RowID):Wy0 (yC):=.bn (zqS id) λr0=>.i (!r0) (.k []) (.k ((zfJ (At.mk 0 id [] 0 [] 0 (Value.mk 0 0 (ByteArray.mk #[])))).2))
def zwi (id:RowID):=(zNz id).fin default
def zGG:=zh zbaA λx=>((zwi x.1).1,zSt (zwi x.1).2)
theorem zWu:SdP 88 zGG:=
 sT (cx':=z35) (zi ⟨zBf,zji,trivial⟩) call88 func88 (lOK aN) (sg:=⟨[.own 28],[]⟩)
abbrev zd6:=yG×(RowID×Unit)×Int×Int×Unit
def zso (s:yG) (f:RowID) (t7:Int) (t8:Int):Wy zd6 Unit (Int⊕Unit):=.i (decide (t8<t7)) (.i (decide (0<=t8)&&decide (t8<Int.ofNat s.length)) (.i ((znc (s.getD t8.toNat default) f).2) (.k (.inl t8)) (.h (s,(f,()),t7,(IntKind.i64.wrap (t8+1)),()) ())) .d) (.k (.inr ()))
def ziG (x:zd6) (y:Unit):=zso x.1 x.2.1.1 x.2.2.1 x.2.2.2.1
def zr4 (n:Nat) (s:yG) (f:RowID) (t7:Int) (t8:Int):=zA (ziG) (.inl default) n (s,(f,()),t7,t8,()) ()
def zr1:LL ty zd6:=za (lSl 51) (za (lFn 86 (za (znk (zeR (λx=>(⟨x.1,x.2.1⟩:RowID)) (λx=>(x.Table,x.Seq,())) (λ_=>rfl) (za zj (za zj zk))) 0) zk)) (za zj (za zj zk)))
def zru (x:zd6) (y:Unit):Nat:=(x.1.length+Int.toNat x.2.2.1+Int.toNat x.2.2.2.1+1)
def ziJ:=zbY base 19 [(86,zke)] [] [(2,(kpL [0,1,7,8]))] [(2,1,[]),(2,0,(kpL [4]))] [(2,spW zr1 zbc9 (ziG) (.inl default) zsU zru)] []
theorem zqY:zy ziJ (lp (body f85) 0):=zm (id:=2) (hl:=rfl)
def zs0 (s:yG) (f:RowID):Wy0 (Int):=.bn (zr4 (s.length+(Int.ofNat s.length).toNat +Int.toNat 0+1) s f (Int.ofNat s.length) 0) λr0=>.i (isL r0) (.k (getL r0)) (.k (-1:Int))
def zfm (s:yG) (f:RowID):=(zs0 s f).fin default
def zs6:AL base (yG×(RowID×Unit)×Unit):=zc (ze (vSl 51)) (zc (ze (vFn 86 (zdz (zzR 49) zb4))) zo)
def zhQ:=zh zs6 λx=>((zfm x.1 x.2.1.1).1,zRZ (zfm x.1 x.2.1.1).2)
theorem zpj:SdP 85 zhQ:=
 sT (cx':=ziJ) (zi ⟨zp7,trivial⟩) call85 func85 (lOK (aC zqY aN))
def zJ7:=zbt base 18 [(85,zhQ),(86,zke),(87,zgV),(88,zGG)]
def zJ9 (id:RowID) (p1:yG):Wy0 (yC):=.bn (zfm p1 id) λr2=>.i (decide (r2≥0)) (.i (decide (0<=r2)&&decide (r2<Int.ofNat p1.length)) (.bn (zjs (p1.getD r2.toNat default).To) λr0=>.k r0) .d) (.bn (zwi id) λr1=>.k r1)
def zqW (id:RowID) (p1:yG):=(zJ9 id p1).fin default
def zKO:AL base (RowID×(yG×Unit)×Unit):=zc (ze (zcy 49)) (zc (ze (zuA (zdz (vSl 51) zb4))) zo)
def zhR:=zh zKO λx=>((zqW x.1 x.2.1.1).1,zSt (zqW x.1 x.2.1.1).2)
theorem zlw:SdP 84 zhR:=
 sT (cx':=zJ7) (zi ⟨zpj,zp7,zjj,zWu,trivial⟩) call84 func84 (lOK aN) (sg:=⟨[.own 28],[]⟩)
abbrev zn3:=((yG×Unit)×Unit)×Unit×Unit×yC×Int×yC×Int×Int×yD×Int×Int×Int×Int×Unit
abbrev zeM:=yC×yC×Unit
abbrev zEe:=yG×Int×yC×Int×Int×yD×Int×Int×yC×yC
abbrev zoc:=((yG×Unit)×Unit)×Unit×Unit×yC×Int×Int×yD×Int×Int×Unit
abbrev zEy:=Int⊕(yG×yC×Int×Int×yC×yC)
abbrev znP:=((yG×Unit)×Unit)×Unit×yC×Int×Int×Unit
abbrev znX:=yC×Unit
abbrev zD9:=Int⊕yC
def zOr (zp:At->yG->Bool×(yC×Int)) (to:yG) (b:yC) (e:Int) (t16:yC) (t17:Int) (t18:Int) (t26:yD) (t27:Int) (t28:Int) (t40:Int) (t41:Int) (sum:yC) (product:yC):Wy zn3 zeM zEe:=.i (decide (t41<t40)) (.i (e==0) (.bn (zId product b) λr6=>.h (((to,()),()),(),(),b,(r6.2),t16,t17,t18,t26,t27,t28,t40,(IntKind.i64.wrap (t41+1)),()) (sum,(r6.1),())) (.h (((to,()),()),(),(),b,e,t16,t17,t18,t26,t27,t28,t40,(IntKind.i64.wrap (t41+1)),()) (sum,product,()))) (.k (to,e,t16,t17,t18,t26,t27,t28,sum,product))
def zAZ (zp:At->yG->Bool×(yC×Int)) (x:zn3) (y:zeM):=zOr zp x.1.1.1 x.2.2.2.1 x.2.2.2.2.1 x.2.2.2.2.2.1 x.2.2.2.2.2.2.1 x.2.2.2.2.2.2.2.1 x.2.2.2.2.2.2.2.2.1 x.2.2.2.2.2.2.2.2.2.1 x.2.2.2.2.2.2.2.2.2.2.1 x.2.2.2.2.2.2.2.2.2.2.2.1 x.2.2.2.2.2.2.2.2.2.2.2.2.1 y.1 y.2.1
def zPc (zp:At->yG->Bool×(yC×Int)) (n:Nat) (to:yG) (b:yC) (e:Int) (t16:yC) (t17:Int) (t18:Int) (t26:yD) (t27:Int) (t28:Int) (t40:Int) (t41:Int) (sum:yC) (product:yC):=zA (zAZ zp) default n (((to,()),()),(),(),b,e,t16,t17,t18,t26,t27,t28,t40,t41,()) (sum,product,())
def zNc (r:zEe):LTree ty:=.done (.exit 4) [.fn 84 ([.bptr ([.sl 51 r.1]) 0]),.own 272,.own 273,.lit (.int .i64 r.2.1),.sl 28 r.2.2.1,.lit (.int .i64 r.2.2.2.1),.lit (.int .i64 r.2.2.2.2.1),.sl 69 r.2.2.2.2.2.1,.lit (.int .i64 r.2.2.2.2.2.2.1),.lit (.int .i64 r.2.2.2.2.2.2.2.1)] [.arr 28 r.2.2.2.2.2.2.2.2.1 false,.arr 28 r.2.2.2.2.2.2.2.2.2 false]
def zNP:LL ty zn3:=za (lFn 84 (za (znk (za (lSl 51) zk) 0) zk)) (za (zdK 272) (za (zdK 273) (za (lSl 28) (za zj (za (lSl 28) (za zj (za zj (za (lSl 69) (za zj (za zj (za zj (za zj zk))))))))))))
def zNL:BL ty zeM:=zdO 28 false (zdO 28 false (z8))
def zQp (zp:At->yG->Bool×(yC×Int)) (to:yG) (t16:yC) (t17:Int) (t18:Int) (t26:yD) (t27:Int) (t28:Int) (sum:yC) (product:yC):Wy zoc zeM zEy:=.i (decide (t28<t27)) (.i (decide (0<=t28)&&decide (t28<Int.ofNat t26.length)) (.bn (zp (At.mk (t26.getD t28.toNat default).At.Kind (t26.getD t28.toNat default).At.Row (t26.getD t28.toNat default).At.Ag (t26.getD t28.toNat default).At.Func (t26.getD t28.toNat default).At.Items (t26.getD t28.toNat default).At.Op (t26.getD t28.toNat default).At.Bd) to) λr9=>.bn (zPc zp (to.length+r9.1.length+r9.2.toNat +t16.length+t17.toNat +t18.toNat +t26.length+t27.toNat +t28.toNat +(t26.getD t28.toNat default).Exp.toNat +Int.toNat 0+sum.length+product.length+1) to r9.1 r9.2 t16 t17 t18 t26 t27 t28 (t26.getD t28.toNat default).Exp 0 sum product) λr8=>.i (r8.2.1 != 0) (.k (.inl (r8.2.1))) (.h ((((r8.1),()),()),(),(),(r8.2.2.1),(r8.2.2.2.1),(r8.2.2.2.2.1),(r8.2.2.2.2.2.1),(r8.2.2.2.2.2.2.1),(IntKind.i64.wrap (r8.2.2.2.2.2.2.2.1+1)),()) ((r8.2.2.2.2.2.2.2.2.1),(r8.2.2.2.2.2.2.2.2.2),()))) .d) (.k (.inr (to,t16,t17,t18,sum,product)))
def zCg (zp:At->yG->Bool×(yC×Int)) (x:zoc) (y:zeM):=zQp zp x.1.1.1 x.2.2.2.1 x.2.2.2.2.1 x.2.2.2.2.2.1 x.2.2.2.2.2.2.1 x.2.2.2.2.2.2.2.1 x.2.2.2.2.2.2.2.2.1 y.1 y.2.1
def zQk (zp:At->yG->Bool×(yC×Int)) (n:Nat) (to:yG) (t16:yC) (t17:Int) (t18:Int) (t26:yD) (t27:Int) (t28:Int) (sum:yC) (product:yC):=zA (zCg zp) (.inl default) n (((to,()),()),(),(),t16,t17,t18,t26,t27,t28,()) (sum,product,())
def zN4 (r:zEy):LTree ty:=.ite (isL r) (.done .ret [.lit (.slice none 0 0),.lit (.int .i64 (getL r))] []) (.done (.exit 2) [.fn 84 ([.bptr ([.sl 51 (getR r).1]) 0]),.own 272,.own 273,.sl 28 (getR r).2.1,.lit (.int .i64 (getR r).2.2.1),.lit (.int .i64 (getR r).2.2.2.1)] [.arr 28 (getR r).2.2.2.2.1 false,.arr 28 (getR r).2.2.2.2.2 false])
def zQd:LL ty zoc:=za (lFn 84 (za (znk (za (lSl 51) zk) 0) zk)) (za (zdK 272) (za (zdK 273) (za (lSl 28) (za zj (za zj (za (lSl 69) (za zj (za zj zk))))))))
def zP9 (zp:At->yG->Bool×(yC×Int)) (to:yG) (t16:yC) (t17:Int) (t18:Int) (sum:yC):Wy znP znX zD9:=.i (decide (t18<t17)) (.i (decide (0<=t18)&&decide (t18<Int.ofNat t16.length)) (.bn (zDL (t16.getD t18.toNat default).Cf) λr14=>.bn (zQk zp (to.length+t16.length+t17.toNat +t18.toNat +(t16.getD t18.toNat default).Fs.length+(Int.ofNat (t16.getD t18.toNat default).Fs.length).toNat +Int.toNat 0+sum.length+r14.length+1) to t16 t17 t18 (t16.getD t18.toNat default).Fs (Int.ofNat (t16.getD t18.toNat default).Fs.length) 0 sum r14) λr13=>.i (isL r13) (.k (.inl (getL r13))) (.bn (zH0 (getR r13).2.2.2.2.1 (getR r13).2.2.2.2.2) λr12=>.i (r12.2 != 0) (.k (.inl (r12.2))) (.h ((((getR r13).1,()),()),(),(getR r13).2.1,(getR r13).2.2.1,(IntKind.i64.wrap ((getR r13).2.2.2.1+1)),()) ((r12.1),())))) .d) (.k (.inr sum))
def zCi (zp:At->yG->Bool×(yC×Int)) (x:znP) (y:znX):=zP9 zp x.1.1.1 x.2.2.1 x.2.2.2.1 x.2.2.2.2.1 y.1
def zQs (zp:At->yG->Bool×(yC×Int)) (n:Nat) (to:yG) (t16:yC) (t17:Int) (t18:Int) (sum:yC):=zA (zCi zp) (.inl default) n (((to,()),()),(),t16,t17,t18,()) (sum,())
def zOJ (r:zD9):LTree ty:=.ite (isL r) (.done .ret [.lit (.slice none 0 0),.lit (.int .i64 (getL r))] []) (.done (.exit 0) [.own 272] [.arr 28 (getR r) false])
def zQh:LL ty znP:=za (lFn 84 (za (znk (za (lSl 51) zk) 0) zk)) (za (zdK 272) (za (lSl 28) (za zj (za zj zk))))
def zPB:BL ty znX:=zdO 28 false (z8)
def zMu (x:zn3) (y:zeM):Nat:=(x.1.1.1.length+x.2.2.2.1.length+Int.toNat x.2.2.2.2.1+x.2.2.2.2.2.1.length+Int.toNat x.2.2.2.2.2.2.1+Int.toNat x.2.2.2.2.2.2.2.1+x.2.2.2.2.2.2.2.2.1.length+Int.toNat x.2.2.2.2.2.2.2.2.2.1+Int.toNat x.2.2.2.2.2.2.2.2.2.2.1+Int.toNat x.2.2.2.2.2.2.2.2.2.2.2.1+Int.toNat x.2.2.2.2.2.2.2.2.2.2.2.2.1+y.1.length+y.2.1.length+1)
def zPk (x:zoc) (y:zeM):Nat:=(x.1.1.1.length+x.2.2.2.1.length+Int.toNat x.2.2.2.2.1+Int.toNat x.2.2.2.2.2.1+x.2.2.2.2.2.2.1.length+Int.toNat x.2.2.2.2.2.2.2.1+Int.toNat x.2.2.2.2.2.2.2.2.1+y.1.length+y.2.1.length+1)
def zOn (x:znP) (y:znX):Nat:=(x.1.1.1.length+x.2.2.1.length+Int.toNat x.2.2.2.1+Int.toNat x.2.2.2.2.1+y.1.length+1)
def zl8 (zp:At->yG->Bool×(yC×Int)):=zbY zb5 68 [(23,zG6),(84,zhR),(92,zG1),(149,zEn),(150,(zly zp))] [] [(3,[(1,.keep),(6,.own 28),(16,.keep),(17,.keep),(18,.keep)]),(7,(kpL [1,6,9,16,17,18,26,27,28])),(11,[(1,.keep),(6,.keep),(9,.keep),(12,.sl 28),(13,.keep),(16,.keep),(17,.keep),(18,.keep),(26,.keep),(27,.keep),(28,.keep),(40,.keep),(41,.keep)])] [(3,1,(kpL [6])),(3,0,(kpL [4,5])),(7,3,(kpL [1,6,9,16,17,18])),(7,0,(kpL [4,5])),(11,5,(kpL [1,6,9,13,16,17,18,26,27,28]))] [(11,spW zNP zNL (zAZ zp) default zNc zMu),(7,spW zQd zNL (zCg zp) (.inl default) zN4 zPk),(3,spW zQh zPB (zCi zp) (.inl default) zOJ zOn)] []
theorem zMj (zp:At->yG->Bool×(yC×Int)):zy (zl8 zp) (lp (body f83) 2):=zm (id:=11) (hl:=rfl)
theorem zPm (zp:At->yG->Bool×(yC×Int)):zy (zl8 zp) (lp (body f83) 1):=zm (id:=7) (hl:=rfl)
theorem zOh (zp:At->yG->Bool×(yC×Int)):zy (zl8 zp) (lp (body f83) 0):=zm (id:=3) (hl:=rfl)
def zSC (zp:At->yG->Bool×(yC×Int)) (a:yC) (to:yG):Wy0 (yC×Int):=.bn (zQs zp (to.length+a.length+(Int.ofNat a.length).toNat +Int.toNat 0+0+1) to a (Int.ofNat a.length) 0 []) λr18=>.i (isL r18) (.k ([],getL r18)) (.k (getR r18,0))
def zF4 (zp:At->yG->Bool×(yC×Int)) (a:yC) (to:yG):=(zSC zp a to).fin default
theorem zLa (zp:At->yG->Bool×(yC×Int)) (zKB:Sound Tryz.prog zb5 150 (zly zp)):Sound Tryz.prog zb5 83 (zlH (zF4 zp)):=
 sU (cx':=(zl8 zp)) (zi ⟨zWO,zlw.nodr,zWW,zSu.nodr,zKB,trivial⟩) call83 func83 (lOK (aC (zOh zp) (aC (zPm zp) (aC (zMj zp) aN)))) (sg:=⟨[.own 28,.pure],[]⟩)
def z41:=zbt base 3 []
def z7O:Wy0 (yC):=.k [TO.mk 1 []]
def zv4:Bool×yC:=(z7O).fin default
def zrI:=zh zRx λx=>((zv4 ).1,zSt (zv4 ).2)
theorem zxn:SdP 36 zrI:=
 sT (cx':=z41) (zi trivial) call36 func36 (lOK aN) (sg:=⟨[.own 28],[]⟩)
def zWv:=zbt base 23 [(20,zcE),(36,zrI),(70,zeU),(131,znD),(152,zgZ)]
def zZM (a:yC):Wy0 (yC×Int):=.bn (zci a) λr2=>.i (!r2) (.k ([],1)) (.i (Int.ofNat a.length==0) (.k (zv4.2,0)) (.bn (zfd a) λr1=>.i (r1) (.k ([],0)) (.bn (zgc (zfJ (At.mk 3 (RowID.mk 0 0) [a] 0 [] 0 (Value.mk 0 0 (ByteArray.mk #[])))).2) λr0=>.k (r0.1,r0.2))))
def zCN (a:yC):=(zZM a).fin default
def zDl:=zh z0t λx=>((zCN x.1).1,zRC (zCN x.1).2)
theorem zQq:SdP 179 zDl:=
 sT (cx':=zWv) (zi ⟨zcI,zxn,zfM,zwy,zji,trivial⟩) call179 func179 (lOK aN) (sg:=⟨[.own 28,.pure],[]⟩)
def zYL:=zbt base 29 [(20,zcE),(36,zrI),(70,zeU),(87,zgV),(129,zoA),(130,zuU),(152,zgZ)]
def z1g (a:yC):Wy0 (yC×Int):=.bn (zci a) λr5=>.i (!r5) (.k ([],1)) (.i (Int.ofNat a.length==0) (.bn (zjs a) λr0=>.k (r0,0)) (.bn (zlQ a) λr4=>.i (r4) (.bn (zjs a) λr1=>.k (r1,0)) (.bn (zhP a) λr3=>.i (r3) (.k (zv4.2,0)) (.bn (zgc (zfJ (At.mk 2 (RowID.mk 0 0) [a] 0 [] 0 (Value.mk 0 0 (ByteArray.mk #[])))).2) λr2=>.k (r2.1,r2.2)))))
def zDJ (a:yC):=(z1g a).fin default
def zEk:=zh z0t λx=>((zDJ x.1).1,zRC (zDJ x.1).2)
theorem zRS:SdP 178 zEk:=
 sT (cx':=zYL) (zi ⟨zcI,zxn,zfM,zjj,zw6,zB0,zji,trivial⟩) call178 func178 (lOK aN) (sg:=⟨[.own 28,.pure],[]⟩)
def zZE:=zbt base 38 [(20,zcE),(21,zn0),(70,zeU),(87,zgV),(152,zgZ)]
def z2Q (a:yC) (b:yC):Wy0 (yC×Int):=.bn (zci a) λr4=>.i (!r4) (.k ([],1)) (.bn (zci b) λr3=>.i (!r3) (.k ([],1)) (.i (Int.ofNat b.length==0) (.bn (zjs a) λr0=>.k (r0,0)) (.i (Int.ofNat a.length==0) (.k ([],0)) (.bn (zih a b) λr2=>.i (r2) (.k ([],0)) (.bn (zgc (zfJ (At.mk 1 (RowID.mk 0 0) [a,b] 0 [] 0 (Value.mk 0 0 (ByteArray.mk #[])))).2) λr1=>.k (r1.1,r1.2))))))
def zDO (a:yC) (b:yC):=(z2Q a b).fin default
def zD8:=zh zWi λx=>((zDO x.1 x.2.1).1,zRC (zDO x.1 x.2.1).2)
theorem zRU:SdP 177 zD8:=
 sT (cx':=zZE) (zi ⟨zcI,zut,zfM,zjj,zji,trivial⟩) call177 func177 (lOK aN) (sg:=⟨[.own 28,.pure],[]⟩)
def zgu (x:yE) (a b:Int):Bool×yE:=zba3 zbv x a b
def ztB:Ab.Spec ty:=zh (cx:=base) (zc (zlZ 100) (zc (ze (zic .i64)) (zc (ze (zic .i64)) (zc (ze (vFn 124 zb4)) zo)))) λx=>((zgu x.1 x.2.1 x.2.2.1).1,⟨[],[some ⟨100,(zgu x.1 x.2.1 x.2.2.1).2⟩]⟩)
theorem zuK (c:Unit) (x y:Wd) (h:(zbv x y).1=true):zfS ((AV.agg (base.enc 100 x)::AV.agg (base.enc 100 y)::(zb4:VL base Unit).enc c).map Arg.pure)=some (true,⟨[.pure (.lit (.int .i64 (zbv x y).2))],[]⟩):=by
 rw [<- h]; kernel_rfl
theorem zsJ:SdP 281 ztB:=by
 letI:DecidableEq (ty 100):=inferInstanceAs (DecidableEq Wd)
 exact zbi6 (T:=100) zgn rfl Go.Proofs.Tryz.insW Tryz.isAgg100 (by unfold zr; exact Tryz.sizeOf100) call281 zhT zb4 (λc=>zbv) zuK
open Go.Proofs Go.RowKit
def zcK (x:yE) (m:Int):Bool×yE:=(decide (SortOK zbv x)&&(decide (m=x.length)&&decide (m<20)),zfK zbv x)
def zmr:Ab.Spec ty:=zh (cx:=base) (zc (zlZ 100) (zc (ze (zic .i64)) (zc (ze (vFn 124 zb4)) zo))) λx=>((zcK x.1 x.2.1).1,⟨[],[some ⟨100,(zcK x.1 x.2.1).2⟩]⟩)
set_option maxHeartbeats 1000000 in
theorem zyx:SdP 262 zmr where
 enters:=call262
 calls:=λavs r hsp w F vs hF ha hsep=>by
  unfold zmr zh at hsp;split at hsp
  ·rename_i x hx;simp only [qa,qb] at hsp;obtain ⟨hpre,rfl⟩:=hsp;have hk:=(zc (zlZ 100) (zc (ze (zic .i64)) (zc (ze (vFn 124 zb4)) zo)):AL base _).kind vs avs x hx;have ha':=(zc (zlZ 100) (zc (ze (zic .i64)) (zc (ze (vFn 124 zb4)) zo)):AL base _).ok Tryz.prog zgn F w vs avs x hx ha;rw [hk] at hsep ⊢;clear hk hx ha;obtain ⟨l0,m,c,u0⟩:=x;obtain ⟨l,rfl⟩:∃ l:yE,l=l0:=⟨l0,rfl⟩;obtain ⟨v,vs',rfl,hv,hv'⟩:=ha'.inv;obtain ⟨mv,vs1,rfl,hm,hv1⟩:=hv'.inv;obtain ⟨fv,vs'',rfl,hfv,h0⟩:=hv1.inv;obtain rfl:=h0.nil_left.1;have hm:Rep base F w mv (.lit (.int .i64 m)):=hm;obtain rfl:mv=.int .i64 m:=by cases hm; rfl
   have hsl:∃ p cap,v=.slice p l.length cap:=by
    obtain ⟨⟨xs,hown,_⟩,_⟩:=(show zc5 base F w v 100 l/\∀ b,zbn v=some b->¬ F b from hv)
    rcases hown.2 with ⟨h1,h2⟩ | ⟨g0,cap,cur,h1,_⟩
    ·exact ⟨none,0,by rw [h1,show l.length=0 from h2]⟩
    ·exact ⟨_,cap,h1⟩
   have hpre:(decide (SortOK (α:=Wd) zbv l)&&(decide (m=l.length)&&decide (m<20)))=true:=hpre;simp only [qc,qe] at hpre;obtain ⟨hok,rfl,h20⟩:=hpre
   have hpp:(zgu l 0 (l.length:Int)).1=true:=by
    show (decide (SortOK (α:=Wd) zbv l)&&(decide ((0:Int)=0)&&decide ((l.length:Int)=l.length)))=true;simp only [qc,qe];exact ⟨hok,trivial,trivial⟩
   have hp:=(zsJ).calls [.own 100 l,.pure (.lit (.int .i64 0)),.pure (.lit (.int .i64 (l.length:Int))),.pure (.fn 124 [])] ⟨[],[some ⟨100,(zcK l (l.length:Int)).2⟩]⟩
    (by rw [<- hpp]; kernel_rfl) w F [v,.int .i64 0,.int .i64 (l.length:Int),fv] hF (.cons hv (.cons (Rep.lit _) (.cons (Rep.lit _) (.cons hfv .nil)))) hsep
   replace hp:Calls Tryz.prog 281 #[v,.int .i64 0,.int .i64 (l.length:Int),fv] w λe w'=>∃ u,e=.returned u/\Post base F w [v] ⟨[],[some ⟨100,(zcK l (l.length:Int)).2⟩]⟩ u w':=hp
   show Calls Tryz.prog 262 #[v,.int .i64 (l.length:Int),fv] w λe w'=>∃ u,e=.returned u/\Post base F w [v] ⟨[],[some ⟨100,(zcK l (l.length:Int)).2⟩]⟩ u w'
   generalize (zcK l (l.length:Int)).2=res at hp ⊢;generalize hn:l.length=m at *;clear hpp hv hfv hsep hok hF hm;obtain ⟨p,cap,rfl⟩:=hsl;clear hn
   go_enter func262,ntmps262
   go_wp2
   refine wp_loop_rounds 1 ?_;rw [rounds_succ]
   go_wp2_with (go_at_call 281; refine hp.mono ?_; rintro e w' ⟨u,rfl,hpost⟩; obtain rfl:=hpost.unit)
   refine wp_loop_rounds 1 ?_;rw [rounds_succ]
   go_wp2
   all_goals first | (exfalso; omega) | (go_end0; exact ⟨_,rfl,hpost⟩)
  ·cases hsp
end Go.Proofs.YtljlfiomikifjaaGreatDoor
namespace Go.Proofs.YtljlfiomikifjaaGreatDoor
open Go Go.Ab
open Go.Proofs Go.RowKit
open Go.Proofs.Tryz
def zbK (x:yE):Bool×yE:=(decide (SortOK zbv x)&&decide (x.length<20),zfK zbv x)
def zd1:Ab.Spec ty:=zh (cx:=base) (zc (zlZ 100) (zc (ze (vFn 124 zb4)) zo)) λx=>((zbK x.1).1,⟨[],[some ⟨100,(zbK x.1).2⟩]⟩)
set_option maxHeartbeats 1000000 in
theorem znm:SdP 242 zd1 where
 enters:=call242
 calls:=λavs r hsp w F vs hF ha hsep=>by
  unfold zd1 zh at hsp;split at hsp
  ·rename_i x hx;simp only [qa,qb] at hsp;obtain ⟨hpre,rfl⟩:=hsp;have hk:=(zc (zlZ 100) (zc (ze (vFn 124 zb4)) zo):AL base _).kind vs avs x hx;have ha':=(zc (zlZ 100) (zc (ze (vFn 124 zb4)) zo):AL base _).ok Tryz.prog zgn F w vs avs x hx ha;rw [hk] at hsep ⊢;clear hk hx ha;obtain ⟨l0,c,u0⟩:=x;obtain ⟨l,rfl⟩:∃ l:yE,l=l0:=⟨l0,rfl⟩;obtain ⟨v,vs',rfl,hv,hv'⟩:=ha'.inv;obtain ⟨fv,vs'',rfl,hfv,h0⟩:=hv'.inv;obtain rfl:=h0.nil_left.1
   have hsl:∃ p cap,v=.slice p l.length cap:=by
    obtain ⟨⟨xs,hown,_⟩,_⟩:=(show zc5 base F w v 100 l/\∀ b,zbn v=some b->¬ F b from hv)
    rcases hown.2 with ⟨h1,h2⟩ | ⟨g0,cap,cur,h1,_⟩
    ·exact ⟨none,0,by rw [h1,show l.length=0 from h2]⟩
    ·exact ⟨_,cap,h1⟩
   have hpre:(decide (SortOK (α:=Wd) zbv l)&&decide (l.length<20))=true:=hpre;simp only [qc,qe] at hpre;obtain ⟨hok,h20⟩:=hpre
   have hpp:(zcK l (l.length:Int)).1=true:=by
    show (decide (SortOK (α:=Wd) zbv l)&&(decide ((l.length:Int)=l.length)&&decide ((l.length:Int)<20)))=true;simp only [qc,qe];exact ⟨hok,trivial,by omega⟩
   have hp:=(zyx).calls [.own 100 l,.pure (.lit (.int .i64 (l.length:Int))),.pure (.fn 124 [])] ⟨[],[some ⟨100,(zbK l).2⟩]⟩
    (by rw [<- hpp]; kernel_rfl) w F [v,.int .i64 (l.length:Int),fv] hF (.cons hv (.cons (Rep.lit _) (.cons hfv .nil))) hsep
   replace hp:Calls Tryz.prog 262 #[v,.int .i64 (l.length:Int),fv] w λe w'=>∃ u,e=.returned u/\Post base F w [v] ⟨[],[some ⟨100,(zbK l).2⟩]⟩ u w':=hp
   show Calls Tryz.prog 242 #[v,fv] w λe w'=>∃ u,e=.returned u/\Post base F w [v] ⟨[],[some ⟨100,(zbK l).2⟩]⟩ u w'
   generalize (zbK l).2=res at hp ⊢;generalize hn:l.length=m at *;clear hpp hv hfv hsep hok hF;obtain ⟨p,cap,rfl⟩:=hsl;clear hn
   go_enter func242,ntmps242
   go_wp2_with (go_at_call 262; refine hp.mono ?_; rintro e w' ⟨u,rfl,hpost⟩; obtain rfl:=hpost.unit)
   go_end0
   exact ⟨_,rfl,hpost⟩
  ·cases hsp
end Go.Proofs.YtljlfiomikifjaaGreatDoor
namespace Go.Proofs.YtljlfiomikifjaaGreatDoor
open Go Go.Ab
open Go.Proofs.Tryz
abbrev zrG:=Unit×yE×Int×Int×Unit
abbrev zmq:=yE×Unit
def zYz (t6:yE) (t7:Int) (t8:Int) (out_:yE):Wy zrG zmq (yE):=.i (decide (t8<t7)) (.i (decide (0<=t8)&&decide (t8<Int.ofNat t6.length)) (.i (decide (Int.ofNat (t6.getD t8.toNat default).Ann.length>0)) (.bn (zjs (t6.getD t8.toNat default).Ann) λr0=>.i (decide ((out_.length+[WO.mk (t6.getD t8.toNat default).Value r0].length)*56<=zP)) (.h ((),t6,t7,(IntKind.i64.wrap (t8+1)),()) ((out_++[WO.mk (t6.getD t8.toNat default).Value r0]),())) .d) (.h ((),t6,t7,(IntKind.i64.wrap (t8+1)),()) (out_,()))) .d) (.k out_)
def zGS (x:zrG) (y:zmq):=zYz x.2.1 x.2.2.1 x.2.2.2.1 y.1
def zZr (n:Nat) (t6:yE) (t7:Int) (t8:Int) (out_:yE):=zA (zGS) default n ((),t6,t7,t8,()) (out_,())
def zWh (r:yE):LTree ty:=.done (.exit 0) [.own 116] [.arr 100 r false]
def zZW:LL ty zrG:=za (zdK 116) (za (lSl 100) (za zj (za zj zk)))
def zZl:BL ty zmq:=zdO 100 false (z8)
def zWf (x:zrG) (y:zmq):Nat:=(x.2.1.length+Int.toNat x.2.2.1+Int.toNat x.2.2.2.1+y.1.length+1)
def zG5:=zbY base 29 [(87,zgV),(124,zfS),(242,zd1)] [(242,[true,false])] [(3,[(3,.own 100),(6,.keep),(7,.keep),(8,.keep)])] [(3,1,(kpL [3]))] [(3,spW zZW zZl (zGS) default zWh zWf)] []
theorem zV0:zy zG5 (lp (body f218) 0):=zm (id:=3) (hl:=rfl)
def z11 (l:yE):Wy0 (yE):=.bn (zZr (l.length+(Int.ofNat l.length).toNat +Int.toNat 0+0+1) l (Int.ofNat l.length) 0 []) λr3=>.bn (zbK r3) λr2=>.k r2
def zD6 (l:yE):=(z11 l).fin default
def zVI (r:yE):ARes ty:=⟨[.own 100 r],[]⟩
def z0g:AL base zmq:=zc (ze (vSl 100)) zo
def zEf:=zh z0g λx=>((zD6 x.1).1,zVI (zD6 x.1).2)
theorem zRt:SdP 218 zEf:=
 sT (cx':=zG5) (zi ⟨zjj,zhT,znm,trivial⟩) call218 func218 (lOK (aC zV0 aN)) (sg:=⟨[.own 100],[]⟩)
def zS5:=zbt base 7 [(20,zcE)]
def zWo (w:Wd):Wy0 (Bool):=.bn (zci w.Ann) λr0=>.k (!r0)
def zBi (w:Wd):=(zWo w).fin default
def zmi:=zh zMn λx=>((zBi x.1).1,zZL (zBi x.1).2)
theorem zq3:SdP 217 zmi:=
 sT (cx':=zS5) (zi ⟨zcI,trivial⟩) call217 func217 (lOK aN)
def zZe:=zbt base 28 []
def z0x (op:Int) (sign:Int):Wy0 (Bool):=.i (op==5) (.k (sign==0)) (.i (op==6) (.k (sign != 0)) (.i (op==7) (.k (decide (sign<0))) (.i (op==8) (.k (decide (sign<=0))) (.i (op==9) (.k (decide (sign>0))) (.k (decide (sign≥0)))))))
def zDH (op:Int) (sign:Int):=(z0x op sign).fin default
def zEg:=zh zYS λx=>((zDH x.1 x.2.1).1,zZL (zDH x.1 x.2.1).2)
theorem zSq:SdP 219 zEg:=
 sT (cx':=zZe) (zi trivial) call219 func219 (lOK aN)
abbrev zdM:=yE×Unit×Int×Int×Unit
def zqf (s:yE) (t7:Int) (t8:Int):Wy zdM Unit (Int⊕Unit):=.i (decide (t8<t7)) (.i (decide (0<=t8)&&decide (t8<Int.ofNat s.length)) (.bn (zBi (s.getD t8.toNat default)) λr0=>.i (r0) (.k (.inl t8)) (.h (s,(),t7,(IntKind.i64.wrap (t8+1)),()) ())) .d) (.k (.inr ()))
def zhD (x:zdM) (y:Unit):=zqf x.1 x.2.2.1 x.2.2.2.1
def zqB (n:Nat) (s:yE) (t7:Int) (t8:Int):=zA (zhD) (.inl default) n (s,(),t7,t8,()) ()
def zqp:LL ty zdM:=za (lSl 100) (za (lFn 217 (zk)) (za zj (za zj zk)))
def zpO (x:zdM) (y:Unit):Nat:=(x.1.length+Int.toNat x.2.2.1+Int.toNat x.2.2.2.1+1)
def zhN:=zbY base 19 [(217,zmi)] [] [(2,(kpL [0,1,7,8]))] [(2,1,[]),(2,0,(kpL [4]))] [(2,spW zqp zbc9 (zhD) (.inl default) zsU zpO)] []
theorem zpI:zy zhN (lp (body f163) 0):=zm (id:=2) (hl:=rfl)
def zq4 (s:yE):Wy0 (Int):=.bn (zqB (s.length+(Int.ofNat s.length).toNat +Int.toNat 0+1) s (Int.ofNat s.length) 0) λr2=>.i (isL r2) (.k (getL r2)) (.k (-1:Int))
def zeV (s:yE):=(zq4 s).fin default
def zro:AL base (yE×Unit×Unit):=zc (ze (vSl 100)) (zc (ze (vFn 217 zb4)) zo)
def zg1:=zh zro λx=>((zeV x.1).1,zRZ (zeV x.1).2)
theorem zok:SdP 163 zg1:=
 sT (cx':=zhN) (zi ⟨zq3,trivial⟩) call163 func163 (lOK (aC zpI aN))
def zoC:=zbt base 9 [(163,zg1),(217,zmi)]
def zoE (s:yE):Wy0 (Bool):=.bn (zeV s) λr0=>.k (decide (r0≥0))
def zeA (s:yE):=(zoE s).fin default
def zgm:=zh zro λx=>((zeA x.1).1,zZL (zeA x.1).2)
theorem zm7:SdP 132 zgm:=
 sT (cx':=zoC) (zi ⟨zok,zq3,trivial⟩) call132 func132 (lOK aN)
def z0Y:=zbt base 45 [(36,zrI),(70,zeU),(132,zgm),(135,zsI),(138,zmT),(152,zgZ),(217,zmi),(218,zEf),(219,zEg)]
def z3P (fn:Int) (items:yE) (op:Int) (bound:Value):Wy0 (yC×Int):=.bn (zkt fn items op bound) λr5=>.i (!r5) (.k ([],1)) (.bn (zeA items) λr4=>.i (r4) (.k ([],1)) (.bn (zD6 items) λr3=>.i (decide (Int.ofNat r3.length>0)) (.bn (zgc (zfJ (At.mk 4 (RowID.mk 0 0) [] fn r3 op bound)).2) λr0=>.k (r0.1,r0.2)) (.i (fn==0) (.bn (zjn 0 bound.Int) λr2=>.bn (zDH op r2) λr1=>.i (r1) (.k (zv4.2,0)) (.k ([],0))) (.k ([],0)))))
def zFm (fn:Int) (items:yE) (op:Int) (bound:Value):=(z3P fn items op bound).fin default
def zGe:=zh zXp λx=>((zFm x.1 x.2.1 x.2.2.1 x.2.2.2.1).1,zRC (zFm x.1 x.2.1 x.2.2.1 x.2.2.2.1).2)
theorem zUI:SdP 180 zGe:=
 sT (cx':=z0Y) (zi ⟨zxn,zfM,zm7,zAB,zsE,zji,zq3,zRt,zSq,trivial⟩) call180 func180 (lOK aN) (sg:=⟨[.own 28,.pure],[]⟩)
end Go.Proofs.YtljlfiomikifjaaGreatDoor
end
