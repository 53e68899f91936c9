/- Texts of this claim, joined (the program, its functions in plain words, and what they compute). -/
import Derived.Test.YtljlfiomikifjaaGreatDoorGC3
set_option autoImplicit false
set_option linter.unusedVariables false
set_option linter.unusedSectionVars false
set_option linter.unusedSimpArgs false
set_option maxRecDepth 1000000
set_option maxHeartbeats 0
noncomputable section
namespace Go.Proofs.YtljlfiomikifjaaGreatDoor
open Go Go.Ab
open Go.Proofs.Tryz
abbrev zgc:=Unit×Int×Unit×Int×Int×Unit
abbrev zf6:=yE×Unit
abbrev zp3:=Int×Int×yE
def ziQ (m:Int) (i:Int) (j:Int) (data:yE):Wy zgc zf6 zp3:=.i (i != j) (.i (decide (i>j)) (.bn (zcp data (IntKind.i64.wrap (m - i)) m j) λr0=>.h ((),m,(),(IntKind.i64.wrap (i - j)),j,()) ((r0),())) (.bn (zcp data (IntKind.i64.wrap (m - i)) (IntKind.i64.wrap (IntKind.i64.wrap (m+j) - i)) i) λr1=>.h ((),m,(),i,(IntKind.i64.wrap (j - i)),()) ((r1),()))) (.k (m,i,data))
def zoy (x:zgc) (y:zf6):=ziQ x.2.1 x.2.2.2.1 x.2.2.2.2.1 y.1
def ziG (n:Nat) (m:Int) (i:Int) (j:Int) (data:yE):=zC (zoy) default n ((),m,(),i,j,()) (data,())
def zBT (r:zp3):LTree ty:=.done (.exit 0) [.own 232,.lit (.int .i64 r.1),.fn 124 ([]),.lit (.int .i64 r.2.1)] [.arr 100 r.2.2 false]
def zCp:LL ty zgc:=za (zds 232) (za zj (za (lFn 124 (zl)) (za zj (za zj zl))))
def zCa:BL ty zf6:=zdA 100 false (zbd)
def zBz (x:zgc) (y:zf6):Nat:=(Int.toNat x.2.1+Int.toNat x.2.2.2.1+Int.toNat x.2.2.2.2.1+y.1.length+1000)
def zov:=zbV base 58 [(124,zce),(299,zlK)] [(299,[true,false,false,false,false])] [(2,(kpL [0,2,4,10,11]))] [(2,1,(kpL [0,2,4,10]))] [(2,spW zCp zCa (zoy) default zBT zBz)] []
theorem zBR:zF zov (lp (body f293) 0):=zq (id:=2) (hl:=rfl)
def zpr (data:yE) (a:Int) (m:Int) (b:Int):Wy0 (yE):=.bn (ziG (m.toNat +(IntKind.i64.wrap (m - a)).toNat +(IntKind.i64.wrap (b - m)).toNat +data.length+1000) m (IntKind.i64.wrap (m - a)) (IntKind.i64.wrap (b - m)) data) λr5=>.bn (zcp r5.2.2 (IntKind.i64.wrap (r5.1 - r5.2.1)) r5.1 r5.2.1) λr4=>.k r4
def zcN (data:yE) (a:Int) (m:Int) (b:Int):=(zpr data a m b).fin default
def znk:=zi zAG λx=>((zcN x.1 x.2.1 x.2.2.1 x.2.2.2.1).1,zzW (zcN x.1 x.2.1 x.2.2.1 x.2.2.2.1).2)
theorem zzP:SdP 293 znk:=
 sT (cx':=zov) (zk ⟨zco,zwI,trivial⟩) call293 func293 (lOK (aC zBR aN)) (sg:=⟨[],[true]⟩)
abbrev zb8:=Unit×Int×Unit×Int×Int×Unit
abbrev zG:=yE×Unit
abbrev zfu:=Int×Int×yE
abbrev zb7:=Unit×Int×Int×Unit
abbrev zfv:=Unit×Int×Int×Int×Unit×Int×Int×Int×Int×Int×Unit
abbrev zoE:=Int×Int×Int×Int×Int×Int×yE
def zg2 (zb:yE->Int->Int->Int->Bool×yE) (a:Int) (i:Int) (j:Int) (data:yE):Wy zb8 zG zfu:=.i (decide (i<j)) (.i (decide (0<=IntKind.i64.wrap ((IntKind.u64.wrap (IntKind.i64.wrap (i+j))).fdiv (2 ^ min (Int.toNat 1) IntKind.u64.bits)))&&decide (IntKind.i64.wrap ((IntKind.u64.wrap (IntKind.i64.wrap (i+j))).fdiv (2 ^ min (Int.toNat 1) IntKind.u64.bits))<Int.ofNat data.length)) (.i (decide (0<=a)&&decide (a<Int.ofNat data.length)) (.bn (zbP (data.getD (IntKind.i64.wrap ((IntKind.u64.wrap (IntKind.i64.wrap (i+j))).fdiv (2 ^ min (Int.toNat 1) IntKind.u64.bits))).toNat default) (data.getD a.toNat default)) λr0=>.i (decide (r0<0)) (.h ((),a,(),(IntKind.i64.wrap (IntKind.i64.wrap ((IntKind.u64.wrap (IntKind.i64.wrap (i+j))).fdiv (2 ^ min (Int.toNat 1) IntKind.u64.bits))+1)),j,()) (data,())) (.h ((),a,(),i,(IntKind.i64.wrap ((IntKind.u64.wrap (IntKind.i64.wrap (i+j))).fdiv (2 ^ min (Int.toNat 1) IntKind.u64.bits))),()) (data,()))) .d) .d) (.k (a,i,data))
def zl1 (zb:yE->Int->Int->Int->Bool×yE) (x:zb8) (y:zG):=zg2 zb x.2.1 x.2.2.2.1 x.2.2.2.2.1 y.1
def zgS (zb:yE->Int->Int->Int->Bool×yE) (n:Nat) (a:Int) (i:Int) (j:Int) (data:yE):=zC (zl1 zb) default n ((),a,(),i,j,()) (data,())
def zxV (r:zfu):LTree ty:=.done (.exit 0) [.own 880,.lit (.int .i64 r.1),.lit (.int .i64 r.2.1)] [.arr 100 r.2.2 false]
def zyJ:LL ty zb8:=za (zds 880) (za zj (za (lFn 124 (zl)) (za zj (za zj zl))))
def zzp:BL ty zG:=zdA 100 false (zbd)
def zgZ (zb:yE->Int->Int->Int->Bool×yE) (i:Int) (k:Int) (data:yE):Wy zb7 zG (yE):=.i (decide (k<IntKind.i64.wrap (i - 1))) (.i (decide (0<=IntKind.i64.wrap (k+1))&&decide (IntKind.i64.wrap (k+1)<Int.ofNat data.length)) (.i (decide (0<=k)&&decide (k<Int.ofNat data.length)) (.i (decide (0<=k)&&decide (k<Int.ofNat data.length)) (.i (decide (k.toNat<data.length)) (.i (decide (0<=IntKind.i64.wrap (k+1))&&decide (IntKind.i64.wrap (k+1)<Int.ofNat (data.set k.toNat (data.getD (IntKind.i64.wrap (k+1)).toNat default)).length)) (.i (decide ((IntKind.i64.wrap (k+1)).toNat<(data.set k.toNat (data.getD (IntKind.i64.wrap (k+1)).toNat default)).length)) (.h ((),i,(IntKind.i64.wrap (k+1)),()) (((data.set k.toNat (data.getD (IntKind.i64.wrap (k+1)).toNat default)).set (IntKind.i64.wrap (k+1)).toNat (data.getD k.toNat default)),())) .d) .d) .d) .d) .d) .d) (.k data)
def zl3 (zb:yE->Int->Int->Int->Bool×yE) (x:zb7) (y:zG):=zgZ zb x.2.1 x.2.2.1 y.1
def zeN (zb:yE->Int->Int->Int->Bool×yE) (n:Nat) (i:Int) (k:Int) (data:yE):=zC (zl3 zb) default n ((),i,k,()) (data,())
def zxT (r:yE):LTree ty:=.done (.exit 2) [.own 880] [.arr 100 r false]
def zzl:LL ty zb7:=za (zds 880) (za zj (za zj zl))
def zgw (zb:yE->Int->Int->Int->Bool×yE) (m:Int) (i:Int) (j:Int) (data:yE):Wy zb8 zG zfu:=.i (decide (i<j)) (.i (decide (0<=m)&&decide (m<Int.ofNat data.length)) (.i (decide (0<=IntKind.i64.wrap ((IntKind.u64.wrap (IntKind.i64.wrap (i+j))).fdiv (2 ^ min (Int.toNat 1) IntKind.u64.bits)))&&decide (IntKind.i64.wrap ((IntKind.u64.wrap (IntKind.i64.wrap (i+j))).fdiv (2 ^ min (Int.toNat 1) IntKind.u64.bits))<Int.ofNat data.length)) (.bn (zbP (data.getD m.toNat default) (data.getD (IntKind.i64.wrap ((IntKind.u64.wrap (IntKind.i64.wrap (i+j))).fdiv (2 ^ min (Int.toNat 1) IntKind.u64.bits))).toNat default)) λr2=>.i (!decide (r2<0)) (.h ((),m,(),(IntKind.i64.wrap (IntKind.i64.wrap ((IntKind.u64.wrap (IntKind.i64.wrap (i+j))).fdiv (2 ^ min (Int.toNat 1) IntKind.u64.bits))+1)),j,()) (data,())) (.h ((),m,(),i,(IntKind.i64.wrap ((IntKind.u64.wrap (IntKind.i64.wrap (i+j))).fdiv (2 ^ min (Int.toNat 1) IntKind.u64.bits))),()) (data,()))) .d) .d) (.k (m,i,data))
def zlG (zb:yE->Int->Int->Int->Bool×yE) (x:zb8) (y:zG):=zgw zb x.2.1 x.2.2.2.1 x.2.2.2.2.1 y.1
def zgx (zb:yE->Int->Int->Int->Bool×yE) (n:Nat) (m:Int) (i:Int) (j:Int) (data:yE):=zC (zlG zb) default n ((),m,(),i,j,()) (data,())
def zxp (r:zfu):LTree ty:=.done (.exit 4) [.own 880,.lit (.int .i64 r.1),.lit (.int .i64 r.2.1)] [.arr 100 r.2.2 false]
def zgD (zb:yE->Int->Int->Int->Bool×yE) (i:Int) (k:Int) (data:yE):Wy zb7 zG (yE):=.i (decide (k>i)) (.i (decide (0<=IntKind.i64.wrap (k - 1))&&decide (IntKind.i64.wrap (k - 1)<Int.ofNat data.length)) (.i (decide (0<=k)&&decide (k<Int.ofNat data.length)) (.i (decide (0<=k)&&decide (k<Int.ofNat data.length)) (.i (decide (k.toNat<data.length)) (.i (decide (0<=IntKind.i64.wrap (k - 1))&&decide (IntKind.i64.wrap (k - 1)<Int.ofNat (data.set k.toNat (data.getD (IntKind.i64.wrap (k - 1)).toNat default)).length)) (.i (decide ((IntKind.i64.wrap (k - 1)).toNat<(data.set k.toNat (data.getD (IntKind.i64.wrap (k - 1)).toNat default)).length)) (.h ((),i,(IntKind.i64.wrap (k - 1)),()) (((data.set k.toNat (data.getD (IntKind.i64.wrap (k - 1)).toNat default)).set (IntKind.i64.wrap (k - 1)).toNat (data.getD k.toNat default)),())) .d) .d) .d) .d) .d) .d) (.k data)
def zlM (zb:yE->Int->Int->Int->Bool×yE) (x:zb7) (y:zG):=zgD zb x.2.1 x.2.2.1 y.1
def zex (zb:yE->Int->Int->Int->Bool×yE) (n:Nat) (i:Int) (k:Int) (data:yE):=zC (zlM zb) default n ((),i,k,()) (data,())
def zxj (r:yE):LTree ty:=.done (.exit 6) [.own 880] [.arr 100 r false]
def zgA (zb:yE->Int->Int->Int->Bool×yE) (a:Int) (m:Int) (b:Int) (mid:Int) (n_:Int) (start:Int) (r:Int) (p:Int) (data:yE):Wy zfv zG zoE:=.i (decide (start<r)) (.i (decide (0<=IntKind.i64.wrap (p - IntKind.i64.wrap ((IntKind.u64.wrap (IntKind.i64.wrap (start+r))).fdiv (2 ^ min (Int.toNat 1) IntKind.u64.bits))))&&decide (IntKind.i64.wrap (p - IntKind.i64.wrap ((IntKind.u64.wrap (IntKind.i64.wrap (start+r))).fdiv (2 ^ min (Int.toNat 1) IntKind.u64.bits)))<Int.ofNat data.length)) (.i (decide (0<=IntKind.i64.wrap ((IntKind.u64.wrap (IntKind.i64.wrap (start+r))).fdiv (2 ^ min (Int.toNat 1) IntKind.u64.bits)))&&decide (IntKind.i64.wrap ((IntKind.u64.wrap (IntKind.i64.wrap (start+r))).fdiv (2 ^ min (Int.toNat 1) IntKind.u64.bits))<Int.ofNat data.length)) (.bn (zbP (data.getD (IntKind.i64.wrap (p - IntKind.i64.wrap ((IntKind.u64.wrap (IntKind.i64.wrap (start+r))).fdiv (2 ^ min (Int.toNat 1) IntKind.u64.bits)))).toNat default) (data.getD (IntKind.i64.wrap ((IntKind.u64.wrap (IntKind.i64.wrap (start+r))).fdiv (2 ^ min (Int.toNat 1) IntKind.u64.bits))).toNat default)) λr4=>.i (!decide (r4<0)) (.h ((),a,m,b,(),mid,n_,(IntKind.i64.wrap (IntKind.i64.wrap ((IntKind.u64.wrap (IntKind.i64.wrap (start+r))).fdiv (2 ^ min (Int.toNat 1) IntKind.u64.bits))+1)),r,p,()) (data,())) (.h ((),a,m,b,(),mid,n_,start,(IntKind.i64.wrap ((IntKind.u64.wrap (IntKind.i64.wrap (start+r))).fdiv (2 ^ min (Int.toNat 1) IntKind.u64.bits))),p,()) (data,()))) .d) .d) (.k (a,m,b,mid,n_,start,data))
def zlH (zb:yE->Int->Int->Int->Bool×yE) (x:zfv) (y:zG):=zgA zb x.2.1 x.2.2.1 x.2.2.2.1 x.2.2.2.2.2.1 x.2.2.2.2.2.2.1 x.2.2.2.2.2.2.2.1 x.2.2.2.2.2.2.2.2.1 x.2.2.2.2.2.2.2.2.2.1 y.1
def zez (zb:yE->Int->Int->Int->Bool×yE) (n:Nat) (a:Int) (m:Int) (b:Int) (mid:Int) (n_:Int) (start:Int) (r:Int) (p:Int) (data:yE):=zC (zlH zb) default n ((),a,m,b,(),mid,n_,start,r,p,()) (data,())
def zxo (r:zoE):LTree ty:=.done (.exit 8) [.own 880,.lit (.int .i64 r.1),.lit (.int .i64 r.2.1),.lit (.int .i64 r.2.2.1),.fn 124 ([]),.lit (.int .i64 r.2.2.2.1),.lit (.int .i64 r.2.2.2.2.1),.lit (.int .i64 r.2.2.2.2.2.1)] [.arr 100 r.2.2.2.2.2.2 false]
def zx6:LL ty zfv:=za (zds 880) (za zj (za zj (za zj (za (lFn 124 (zl)) (za zj (za zj (za zj (za zj (za zj zl)))))))))
def zxY (x:zb8) (y:zG):Nat:=(Int.toNat x.2.1+Int.toNat x.2.2.2.1+Int.toNat x.2.2.2.2.1+y.1.length+1000)
def zx8 (x:zb7) (y:zG):Nat:=(Int.toNat x.2.1+Int.toNat x.2.2.1+y.1.length+1000)
def zxG (x:zfv) (y:zG):Nat:=(Int.toNat x.2.1+Int.toNat x.2.2.1+Int.toNat x.2.2.2.1+Int.toNat x.2.2.2.2.2.1+Int.toNat x.2.2.2.2.2.2.1+Int.toNat x.2.2.2.2.2.2.2.1+Int.toNat x.2.2.2.2.2.2.2.2.1+Int.toNat x.2.2.2.2.2.2.2.2.2.1+y.1.length+1000)
def zcB (zb:yE->Int->Int->Int->Bool×yE):=zbV base 220 [(124,zce),(282,(zd0 zb)),(293,znk)] [(282,[true,false,false,false,false]),(293,[true,false,false,false,false])] [(3,(kpL [0,1,4,10,11])),(9,(kpL [0,10,13])),(15,(kpL [0,2,4,14,15])),(21,(kpL [0,14,17])),(33,(kpL [0,1,2,3,4,18,19,20,21,22]))] [(3,1,(kpL [0,1,10])),(9,3,(kpL [0])),(15,5,(kpL [0,2,14])),(21,7,(kpL [0])),(33,9,(kpL [0,1,2,3,4,18,19,20]))] [(3,spW zyJ zzp (zl1 zb) default zxV zxY),(9,spW zzl zzp (zl3 zb) default zxT zx8),(15,spW zyJ zzp (zlG zb) default zxp zxY),(21,spW zzl zzp (zlM zb) default zxj zx8),(33,spW zx6 zzp (zlH zb) default zxo zxG)] []
theorem zyg (zb:yE->Int->Int->Int->Bool×yE):zF (zcB zb) (lp (body f282) 0):=zq (id:=3) (hl:=rfl)
theorem zxO (zb:yE->Int->Int->Int->Bool×yE):zF (zcB zb) (lp (body f282) 1):=zq (id:=9) (hl:=rfl)
theorem zw1 (zb:yE->Int->Int->Int->Bool×yE):zF (zcB zb) (lp (body f282) 2):=zq (id:=15) (hl:=rfl)
theorem zwW (zb:yE->Int->Int->Int->Bool×yE):zF (zcB zb) (lp (body f282) 3):=zq (id:=21) (hl:=rfl)
theorem zw9 (zb:yE->Int->Int->Int->Bool×yE):zF (zcB zb) (lp (body f282) 4):=zq (id:=33) (hl:=rfl)
def zmH (zb:yE->Int->Int->Int->Bool×yE) (data:yE) (a:Int) (m:Int) (b:Int):Wy0 (yE):=.i (IntKind.i64.wrap (m - a)==1) (.bn (zgS zb (a.toNat +m.toNat +b.toNat +data.length+1000) a m b data) λr7=>.bn (zeN zb (r7.2.1.toNat +r7.1.toNat +r7.2.2.length+1000) r7.2.1 r7.1 r7.2.2) λr6=>.k r6) (.i (IntKind.i64.wrap (b - m)==1) (.bn (zgx zb (m.toNat +a.toNat +m.toNat +data.length+1000) m a m data) λr9=>.bn (zex zb (r9.2.1.toNat +r9.1.toNat +r9.2.2.length+1000) r9.2.1 r9.1 r9.2.2) λr8=>.k r8) (.i (decide (m>IntKind.i64.wrap ((IntKind.u64.wrap (IntKind.i64.wrap (a+b))).fdiv (2 ^ min (Int.toNat 1) IntKind.u64.bits)))) (.bn (zez zb (a.toNat +m.toNat +b.toNat +(IntKind.i64.wrap ((IntKind.u64.wrap (IntKind.i64.wrap (a+b))).fdiv (2 ^ min (Int.toNat 1) IntKind.u64.bits))).toNat +(IntKind.i64.wrap (IntKind.i64.wrap ((IntKind.u64.wrap (IntKind.i64.wrap (a+b))).fdiv (2 ^ min (Int.toNat 1) IntKind.u64.bits))+m)).toNat +(IntKind.i64.wrap (IntKind.i64.wrap (IntKind.i64.wrap ((IntKind.u64.wrap (IntKind.i64.wrap (a+b))).fdiv (2 ^ min (Int.toNat 1) IntKind.u64.bits))+m) - b)).toNat +(IntKind.i64.wrap ((IntKind.u64.wrap (IntKind.i64.wrap (a+b))).fdiv (2 ^ min (Int.toNat 1) IntKind.u64.bits))).toNat +(IntKind.i64.wrap (IntKind.i64.wrap (IntKind.i64.wrap ((IntKind.u64.wrap (IntKind.i64.wrap (a+b))).fdiv (2 ^ min (Int.toNat 1) IntKind.u64.bits))+m) - 1)).toNat +data.length+1000) a m b (IntKind.i64.wrap ((IntKind.u64.wrap (IntKind.i64.wrap (a+b))).fdiv (2 ^ min (Int.toNat 1) IntKind.u64.bits))) (IntKind.i64.wrap (IntKind.i64.wrap ((IntKind.u64.wrap (IntKind.i64.wrap (a+b))).fdiv (2 ^ min (Int.toNat 1) IntKind.u64.bits))+m)) (IntKind.i64.wrap (IntKind.i64.wrap (IntKind.i64.wrap ((IntKind.u64.wrap (IntKind.i64.wrap (a+b))).fdiv (2 ^ min (Int.toNat 1) IntKind.u64.bits))+m) - b)) (IntKind.i64.wrap ((IntKind.u64.wrap (IntKind.i64.wrap (a+b))).fdiv (2 ^ min (Int.toNat 1) IntKind.u64.bits))) (IntKind.i64.wrap (IntKind.i64.wrap (IntKind.i64.wrap ((IntKind.u64.wrap (IntKind.i64.wrap (a+b))).fdiv (2 ^ min (Int.toNat 1) IntKind.u64.bits))+m) - 1)) data) λr23=>.i (decide (r23.2.2.2.2.2.1<r23.2.1)) (.i (decide (r23.2.1<IntKind.i64.wrap (r23.2.2.2.2.1 - r23.2.2.2.2.2.1))) (.bn (zcN r23.2.2.2.2.2.2 r23.2.2.2.2.2.1 r23.2.1 (IntKind.i64.wrap (r23.2.2.2.2.1 - r23.2.2.2.2.2.1))) λr14=>.i (decide (r23.1<r23.2.2.2.2.2.1)) (.i (decide (r23.2.2.2.2.2.1<r23.2.2.2.1)) (.bn (zb r14 r23.1 r23.2.2.2.2.2.1 r23.2.2.2.1) λr11=>.i (decide (r23.2.2.2.1<IntKind.i64.wrap (r23.2.2.2.2.1 - r23.2.2.2.2.2.1))) (.i (decide (IntKind.i64.wrap (r23.2.2.2.2.1 - r23.2.2.2.2.2.1)<r23.2.2.1)) (.bn (zb r11 r23.2.2.2.1 (IntKind.i64.wrap (r23.2.2.2.2.1 - r23.2.2.2.2.2.1)) r23.2.2.1) λr10=>.k r10) (.k r11)) (.k r11)) (.i (decide (r23.2.2.2.1<IntKind.i64.wrap (r23.2.2.2.2.1 - r23.2.2.2.2.2.1))) (.i (decide (IntKind.i64.wrap (r23.2.2.2.2.1 - r23.2.2.2.2.2.1)<r23.2.2.1)) (.bn (zb r14 r23.2.2.2.1 (IntKind.i64.wrap (r23.2.2.2.2.1 - r23.2.2.2.2.2.1)) r23.2.2.1) λr12=>.k r12) (.k r14)) (.k r14))) (.i (decide (r23.2.2.2.1<IntKind.i64.wrap (r23.2.2.2.2.1 - r23.2.2.2.2.2.1))) (.i (decide (IntKind.i64.wrap (r23.2.2.2.2.1 - r23.2.2.2.2.2.1)<r23.2.2.1)) (.bn (zb r14 r23.2.2.2.1 (IntKind.i64.wrap (r23.2.2.2.2.1 - r23.2.2.2.2.2.1)) r23.2.2.1) λr13=>.k r13) (.k r14)) (.k r14))) (.i (decide (r23.1<r23.2.2.2.2.2.1)) (.i (decide (r23.2.2.2.2.2.1<r23.2.2.2.1)) (.bn (zb r23.2.2.2.2.2.2 r23.1 r23.2.2.2.2.2.1 r23.2.2.2.1) λr16=>.i (decide (r23.2.2.2.1<IntKind.i64.wrap (r23.2.2.2.2.1 - r23.2.2.2.2.2.1))) (.i (decide (IntKind.i64.wrap (r23.2.2.2.2.1 - r23.2.2.2.2.2.1)<r23.2.2.1)) (.bn (zb r16 r23.2.2.2.1 (IntKind.i64.wrap (r23.2.2.2.2.1 - r23.2.2.2.2.2.1)) r23.2.2.1) λr15=>.k r15) (.k r16)) (.k r16)) (.i (decide (r23.2.2.2.1<IntKind.i64.wrap (r23.2.2.2.2.1 - r23.2.2.2.2.2.1))) (.i (decide (IntKind.i64.wrap (r23.2.2.2.2.1 - r23.2.2.2.2.2.1)<r23.2.2.1)) (.bn (zb r23.2.2.2.2.2.2 r23.2.2.2.1 (IntKind.i64.wrap (r23.2.2.2.2.1 - r23.2.2.2.2.2.1)) r23.2.2.1) λr17=>.k r17) (.k r23.2.2.2.2.2.2)) (.k r23.2.2.2.2.2.2))) (.i (decide (r23.2.2.2.1<IntKind.i64.wrap (r23.2.2.2.2.1 - r23.2.2.2.2.2.1))) (.i (decide (IntKind.i64.wrap (r23.2.2.2.2.1 - r23.2.2.2.2.2.1)<r23.2.2.1)) (.bn (zb r23.2.2.2.2.2.2 r23.2.2.2.1 (IntKind.i64.wrap (r23.2.2.2.2.1 - r23.2.2.2.2.2.1)) r23.2.2.1) λr18=>.k r18) (.k r23.2.2.2.2.2.2)) (.k r23.2.2.2.2.2.2)))) (.i (decide (r23.1<r23.2.2.2.2.2.1)) (.i (decide (r23.2.2.2.2.2.1<r23.2.2.2.1)) (.bn (zb r23.2.2.2.2.2.2 r23.1 r23.2.2.2.2.2.1 r23.2.2.2.1) λr20=>.i (decide (r23.2.2.2.1<IntKind.i64.wrap (r23.2.2.2.2.1 - r23.2.2.2.2.2.1))) (.i (decide (IntKind.i64.wrap (r23.2.2.2.2.1 - r23.2.2.2.2.2.1)<r23.2.2.1)) (.bn (zb r20 r23.2.2.2.1 (IntKind.i64.wrap (r23.2.2.2.2.1 - r23.2.2.2.2.2.1)) r23.2.2.1) λr19=>.k r19) (.k r20)) (.k r20)) (.i (decide (r23.2.2.2.1<IntKind.i64.wrap (r23.2.2.2.2.1 - r23.2.2.2.2.2.1))) (.i (decide (IntKind.i64.wrap (r23.2.2.2.2.1 - r23.2.2.2.2.2.1)<r23.2.2.1)) (.bn (zb r23.2.2.2.2.2.2 r23.2.2.2.1 (IntKind.i64.wrap (r23.2.2.2.2.1 - r23.2.2.2.2.2.1)) r23.2.2.1) λr21=>.k r21) (.k r23.2.2.2.2.2.2)) (.k r23.2.2.2.2.2.2))) (.i (decide (r23.2.2.2.1<IntKind.i64.wrap (r23.2.2.2.2.1 - r23.2.2.2.2.2.1))) (.i (decide (IntKind.i64.wrap (r23.2.2.2.2.1 - r23.2.2.2.2.2.1)<r23.2.2.1)) (.bn (zb r23.2.2.2.2.2.2 r23.2.2.2.1 (IntKind.i64.wrap (r23.2.2.2.2.1 - r23.2.2.2.2.2.1)) r23.2.2.1) λr22=>.k r22) (.k r23.2.2.2.2.2.2)) (.k r23.2.2.2.2.2.2)))) (.bn (zez zb (a.toNat +m.toNat +b.toNat +(IntKind.i64.wrap ((IntKind.u64.wrap (IntKind.i64.wrap (a+b))).fdiv (2 ^ min (Int.toNat 1) IntKind.u64.bits))).toNat +(IntKind.i64.wrap (IntKind.i64.wrap ((IntKind.u64.wrap (IntKind.i64.wrap (a+b))).fdiv (2 ^ min (Int.toNat 1) IntKind.u64.bits))+m)).toNat +a.toNat +m.toNat +(IntKind.i64.wrap (IntKind.i64.wrap (IntKind.i64.wrap ((IntKind.u64.wrap (IntKind.i64.wrap (a+b))).fdiv (2 ^ min (Int.toNat 1) IntKind.u64.bits))+m) - 1)).toNat +data.length+1000) a m b (IntKind.i64.wrap ((IntKind.u64.wrap (IntKind.i64.wrap (a+b))).fdiv (2 ^ min (Int.toNat 1) IntKind.u64.bits))) (IntKind.i64.wrap (IntKind.i64.wrap ((IntKind.u64.wrap (IntKind.i64.wrap (a+b))).fdiv (2 ^ min (Int.toNat 1) IntKind.u64.bits))+m)) a m (IntKind.i64.wrap (IntKind.i64.wrap (IntKind.i64.wrap ((IntKind.u64.wrap (IntKind.i64.wrap (a+b))).fdiv (2 ^ min (Int.toNat 1) IntKind.u64.bits))+m) - 1)) data) λr37=>.i (decide (r37.2.2.2.2.2.1<r37.2.1)) (.i (decide (r37.2.1<IntKind.i64.wrap (r37.2.2.2.2.1 - r37.2.2.2.2.2.1))) (.bn (zcN r37.2.2.2.2.2.2 r37.2.2.2.2.2.1 r37.2.1 (IntKind.i64.wrap (r37.2.2.2.2.1 - r37.2.2.2.2.2.1))) λr28=>.i (decide (r37.1<r37.2.2.2.2.2.1)) (.i (decide (r37.2.2.2.2.2.1<r37.2.2.2.1)) (.bn (zb r28 r37.1 r37.2.2.2.2.2.1 r37.2.2.2.1) λr25=>.i (decide (r37.2.2.2.1<IntKind.i64.wrap (r37.2.2.2.2.1 - r37.2.2.2.2.2.1))) (.i (decide (IntKind.i64.wrap (r37.2.2.2.2.1 - r37.2.2.2.2.2.1)<r37.2.2.1)) (.bn (zb r25 r37.2.2.2.1 (IntKind.i64.wrap (r37.2.2.2.2.1 - r37.2.2.2.2.2.1)) r37.2.2.1) λr24=>.k r24) (.k r25)) (.k r25)) (.i (decide (r37.2.2.2.1<IntKind.i64.wrap (r37.2.2.2.2.1 - r37.2.2.2.2.2.1))) (.i (decide (IntKind.i64.wrap (r37.2.2.2.2.1 - r37.2.2.2.2.2.1)<r37.2.2.1)) (.bn (zb r28 r37.2.2.2.1 (IntKind.i64.wrap (r37.2.2.2.2.1 - r37.2.2.2.2.2.1)) r37.2.2.1) λr26=>.k r26) (.k r28)) (.k r28))) (.i (decide (r37.2.2.2.1<IntKind.i64.wrap (r37.2.2.2.2.1 - r37.2.2.2.2.2.1))) (.i (decide (IntKind.i64.wrap (r37.2.2.2.2.1 - r37.2.2.2.2.2.1)<r37.2.2.1)) (.bn (zb r28 r37.2.2.2.1 (IntKind.i64.wrap (r37.2.2.2.2.1 - r37.2.2.2.2.2.1)) r37.2.2.1) λr27=>.k r27) (.k r28)) (.k r28))) (.i (decide (r37.1<r37.2.2.2.2.2.1)) (.i (decide (r37.2.2.2.2.2.1<r37.2.2.2.1)) (.bn (zb r37.2.2.2.2.2.2 r37.1 r37.2.2.2.2.2.1 r37.2.2.2.1) λr30=>.i (decide (r37.2.2.2.1<IntKind.i64.wrap (r37.2.2.2.2.1 - r37.2.2.2.2.2.1))) (.i (decide (IntKind.i64.wrap (r37.2.2.2.2.1 - r37.2.2.2.2.2.1)<r37.2.2.1)) (.bn (zb r30 r37.2.2.2.1 (IntKind.i64.wrap (r37.2.2.2.2.1 - r37.2.2.2.2.2.1)) r37.2.2.1) λr29=>.k r29) (.k r30)) (.k r30)) (.i (decide (r37.2.2.2.1<IntKind.i64.wrap (r37.2.2.2.2.1 - r37.2.2.2.2.2.1))) (.i (decide (IntKind.i64.wrap (r37.2.2.2.2.1 - r37.2.2.2.2.2.1)<r37.2.2.1)) (.bn (zb r37.2.2.2.2.2.2 r37.2.2.2.1 (IntKind.i64.wrap (r37.2.2.2.2.1 - r37.2.2.2.2.2.1)) r37.2.2.1) λr31=>.k r31) (.k r37.2.2.2.2.2.2)) (.k r37.2.2.2.2.2.2))) (.i (decide (r37.2.2.2.1<IntKind.i64.wrap (r37.2.2.2.2.1 - r37.2.2.2.2.2.1))) (.i (decide (IntKind.i64.wrap (r37.2.2.2.2.1 - r37.2.2.2.2.2.1)<r37.2.2.1)) (.bn (zb r37.2.2.2.2.2.2 r37.2.2.2.1 (IntKind.i64.wrap (r37.2.2.2.2.1 - r37.2.2.2.2.2.1)) r37.2.2.1) λr32=>.k r32) (.k r37.2.2.2.2.2.2)) (.k r37.2.2.2.2.2.2)))) (.i (decide (r37.1<r37.2.2.2.2.2.1)) (.i (decide (r37.2.2.2.2.2.1<r37.2.2.2.1)) (.bn (zb r37.2.2.2.2.2.2 r37.1 r37.2.2.2.2.2.1 r37.2.2.2.1) λr34=>.i (decide (r37.2.2.2.1<IntKind.i64.wrap (r37.2.2.2.2.1 - r37.2.2.2.2.2.1))) (.i (decide (IntKind.i64.wrap (r37.2.2.2.2.1 - r37.2.2.2.2.2.1)<r37.2.2.1)) (.bn (zb r34 r37.2.2.2.1 (IntKind.i64.wrap (r37.2.2.2.2.1 - r37.2.2.2.2.2.1)) r37.2.2.1) λr33=>.k r33) (.k r34)) (.k r34)) (.i (decide (r37.2.2.2.1<IntKind.i64.wrap (r37.2.2.2.2.1 - r37.2.2.2.2.2.1))) (.i (decide (IntKind.i64.wrap (r37.2.2.2.2.1 - r37.2.2.2.2.2.1)<r37.2.2.1)) (.bn (zb r37.2.2.2.2.2.2 r37.2.2.2.1 (IntKind.i64.wrap (r37.2.2.2.2.1 - r37.2.2.2.2.2.1)) r37.2.2.1) λr35=>.k r35) (.k r37.2.2.2.2.2.2)) (.k r37.2.2.2.2.2.2))) (.i (decide (r37.2.2.2.1<IntKind.i64.wrap (r37.2.2.2.2.1 - r37.2.2.2.2.2.1))) (.i (decide (IntKind.i64.wrap (r37.2.2.2.2.1 - r37.2.2.2.2.2.1)<r37.2.2.1)) (.bn (zb r37.2.2.2.2.2.2 r37.2.2.2.1 (IntKind.i64.wrap (r37.2.2.2.2.1 - r37.2.2.2.2.2.1)) r37.2.2.1) λr36=>.k r36) (.k r37.2.2.2.2.2.2)) (.k r37.2.2.2.2.2.2))))))
def zdY (zb:yE->Int->Int->Int->Bool×yE) (data:yE) (a:Int) (m:Int) (b:Int):=(zmH zb data a m b).fin default
theorem zwj (zb:yE->Int->Int->Int->Bool×yE) (zAj:SdP 282 (zd0 zb)):SdP 282 (zd0 (zdY zb)):=
 sT (cx':=(zcB zb)) (zk ⟨zco,zAj,zzP,trivial⟩) call282 func282 (lOK (aC (zyg zb) (aC (zxO zb) (aC (zw1 zb) (aC (zwW zb) (aC (zw9 zb) aN)))))) (sg:=⟨[],[true]⟩)
def z0m:Nat->(yE->Int->Int->Int->Bool×yE)
 | 0=>λ_ _ _ _=>(false,default)
 | n+1=>zdY (z0m n)
def zdZ (n:Nat):yE->Int->Int->Int->Bool×yE:=z0m n
theorem zza (n:Nat):zdZ (n+1)=zdY (zdZ n):=rfl
theorem zTq:∀ n,SdP 282 (zd0 (zdZ n))
 | 0=>zbb call282 (λ_=>rfl)
 | n+1=>by
  have ih:=zTq n;exact zwj _ (ih)
def zfG:yE->Int->Int->Int->Bool×yE:=zdZ 1000
def zlR:Ab.Spec ty:=zd0 zfG
theorem zxZ:SdP 282 zlR:=(zTq 1000)
abbrev zeA:=Unit×Int×Int×Unit×Int×Int×Unit
abbrev zbN:=yE×Unit
abbrev zlL:=Int×Int×Int×yE
abbrev zev:=Unit×Int×Int×Unit×Int×Unit
def zfR (a:Int) (b:Int) (i:Int) (j:Int) (data:yE):Wy zeA zbN zlL:=.i (decide (j>a)) (.i (decide (0<=j)&&decide (j<Int.ofNat data.length)) (.i (decide (0<=IntKind.i64.wrap (j - 1))&&decide (IntKind.i64.wrap (j - 1)<Int.ofNat data.length)) (.bn (zbP (data.getD j.toNat default) (data.getD (IntKind.i64.wrap (j - 1)).toNat default)) λr0=>.i (decide (r0<0)) (.i (decide (0<=IntKind.i64.wrap (j - 1))&&decide (IntKind.i64.wrap (j - 1)<Int.ofNat data.length)) (.i (decide (0<=j)&&decide (j<Int.ofNat data.length)) (.i (decide (0<=j)&&decide (j<Int.ofNat data.length)) (.i (decide (j.toNat<data.length)) (.i (decide (0<=IntKind.i64.wrap (j - 1))&&decide (IntKind.i64.wrap (j - 1)<Int.ofNat (data.set j.toNat (data.getD (IntKind.i64.wrap (j - 1)).toNat default)).length)) (.i (decide ((IntKind.i64.wrap (j - 1)).toNat<(data.set j.toNat (data.getD (IntKind.i64.wrap (j - 1)).toNat default)).length)) (.h ((),a,b,(),i,(IntKind.i64.wrap (j - 1)),()) (((data.set j.toNat (data.getD (IntKind.i64.wrap (j - 1)).toNat default)).set (IntKind.i64.wrap (j - 1)).toNat (data.getD j.toNat default)),())) .d) .d) .d) .d) .d) .d) (.k (a,b,i,data))) .d) .d) (.k (a,b,i,data))
def zkV (x:zeA) (y:zbN):=zfR x.2.1 x.2.2.1 x.2.2.2.2.1 x.2.2.2.2.2.1 y.1
def zfT (n:Nat) (a:Int) (b:Int) (i:Int) (j:Int) (data:yE):=zC (zkV) default n ((),a,b,(),i,j,()) (data,())
def zvi (r:zlL):LTree ty:=.done (.exit 2) [.own 212,.lit (.int .i64 r.1),.lit (.int .i64 r.2.1),.fn 124 ([]),.lit (.int .i64 r.2.2.1)] [.arr 100 r.2.2.2 false]
def zwc:LL ty zeA:=za (zds 212) (za zj (za zj (za (lFn 124 (zl)) (za zj (za zj zl)))))
def zwi:BL ty zbN:=zdA 100 false (zbd)
def zcV (a:Int) (b:Int) (i:Int) (data:yE):Wy zev zbN (yE):=.i (decide (i<b)) (.bn (zfT (a.toNat +b.toNat +i.toNat +i.toNat +data.length+1000) a b i i data) λr2=>.h ((),(r2.1),(r2.2.1),(),(IntKind.i64.wrap (r2.2.2.1+1)),()) ((r2.2.2.2),())) (.k data)
def zkU (x:zev) (y:zbN):=zcV x.2.1 x.2.2.1 x.2.2.2.2.1 y.1
def zcW (n:Nat) (a:Int) (b:Int) (i:Int) (data:yE):=zC (zkU) default n ((),a,b,(),i,()) (data,())
def zvG (r:yE):LTree ty:=.done (.exit 0) [.own 212] [.arr 100 r false]
def zwh:LL ty zev:=za (zds 212) (za zj (za zj (za (lFn 124 (zl)) (za zj zl))))
def zvV (x:zeA) (y:zbN):Nat:=(Int.toNat x.2.1+Int.toNat x.2.2.1+Int.toNat x.2.2.2.2.1+Int.toNat x.2.2.2.2.2.1+y.1.length+1000)
def zvu (x:zev) (y:zbN):Nat:=(Int.toNat x.2.1+Int.toNat x.2.2.1+Int.toNat x.2.2.2.2.1+y.1.length+1000)
def zfS:=zbV base 53 [(124,zce)] [] [(1,(kpL [0,1,2,3,8])),(4,(kpL [0,1,2,3,8,9]))] [(1,1,(kpL [0])),(4,3,(kpL [0,1,2,3,8]))] [(4,spW zwc zwi (zkV) default zvi zvV),(1,spW zwh zwi (zkU) default zvG zvu)] []
theorem zvP:zF zfS (lp (body f281) 1):=zq (id:=4) (hl:=rfl)
theorem zvK:zF zfS (lp (body f281) 0):=zq (id:=1) (hl:=rfl)
def zlh (data:yE) (a:Int) (b:Int):Wy0 (yE):=.bn (zcW (a.toNat +b.toNat +(IntKind.i64.wrap (a+1)).toNat +data.length+1000) a b (IntKind.i64.wrap (a+1)) data) λr4=>.k r4
def zcc (data:yE) (a:Int) (b:Int):=(zlh data a b).fin default
def zxb:AL base (yE×Int×Int×Unit×Unit):=ze (zq1 100) (ze (zf zfh) (ze (zf zfh) (ze (zf (vFn 124 zb5)) zu)))
def zkk:=zi zxb λx=>((zcc x.1 x.2.1 x.2.2.1).1,zzW (zcc x.1 x.2.1 x.2.2.1).2)
theorem zt6:SdP 281 zkk:=
 sT (cx':=zfS) (zk ⟨zco,trivial⟩) call281 func281 (lOK (aC zvK (aC zvP aN))) (sg:=⟨[],[true]⟩)
abbrev zcg:=Unit×Int×Unit×Int×Int×Int×Unit
abbrev zbn:=yE×Unit
abbrev zf3:=Int×Int×Int×yE
abbrev zga:=Unit×Int×Unit×Int×Unit
def zd9 (n_:Int) (blockSize:Int) (a:Int) (b:Int) (data:yE):Wy zcg zbn zf3:=.i (decide (b<=n_)) (.bn (zcc data a b) λr0=>.h ((),n_,(),blockSize,b,(IntKind.i64.wrap (b+blockSize)),()) ((r0),())) (.k (n_,blockSize,a,data))
def zoi (x:zcg) (y:zbn):=zd9 x.2.1 x.2.2.2.1 x.2.2.2.2.1 x.2.2.2.2.2.1 y.1
def zc7 (n:Nat) (n_:Int) (blockSize:Int) (a:Int) (b:Int) (data:yE):=zC (zoi) default n ((),n_,(),blockSize,a,b,()) (data,())
def zBX (r:zf3):LTree ty:=.done (.exit 0) [.own 252,.lit (.int .i64 r.1),.fn 124 ([]),.lit (.int .i64 r.2.1),.lit (.int .i64 r.2.2.1)] [.arr 100 r.2.2.2 false]
def zCv:LL ty zcg:=za (zds 252) (za zj (za (lFn 124 (zl)) (za zj (za zj (za zj zl)))))
def zCu:BL ty zbn:=zdA 100 false (zbd)
def ziJ (n_:Int) (blockSize:Int) (a:Int) (b:Int) (data:yE):Wy zcg zbn zf3:=.i (decide (b<=n_)) (.bn (zfG data a (IntKind.i64.wrap (a+blockSize)) b) λr2=>.h ((),n_,(),blockSize,b,(IntKind.i64.wrap (b+IntKind.i64.wrap (2*blockSize))),()) ((r2),())) (.k (n_,blockSize,a,data))
def zoC (x:zcg) (y:zbn):=ziJ x.2.1 x.2.2.2.1 x.2.2.2.2.1 x.2.2.2.2.2.1 y.1
def ziY (n:Nat) (n_:Int) (blockSize:Int) (a:Int) (b:Int) (data:yE):=zC (zoC) default n ((),n_,(),blockSize,a,b,()) (data,())
def zBV (r:zf3):LTree ty:=.done (.exit 4) [.own 252,.lit (.int .i64 r.1),.fn 124 ([]),.lit (.int .i64 r.2.1),.lit (.int .i64 r.2.2.1)] [.arr 100 r.2.2.2 false]
def zea (n_:Int) (blockSize:Int) (data:yE):Wy zga zbn (yE):=.i (decide (blockSize<n_)) (.bn (ziY (n_.toNat +blockSize.toNat +Int.toNat 0+(IntKind.i64.wrap (2*blockSize)).toNat +data.length+1000) n_ blockSize 0 (IntKind.i64.wrap (2*blockSize)) data) λr5=>.i (decide (IntKind.i64.wrap (r5.2.2.1+r5.2.1)<r5.1)) (.bn (zfG r5.2.2.2 r5.2.2.1 (IntKind.i64.wrap (r5.2.2.1+r5.2.1)) r5.1) λr4=>.h ((),(r5.1),(),(IntKind.i64.wrap (r5.2.1*2)),()) ((r4),())) (.h ((),(r5.1),(),(IntKind.i64.wrap (r5.2.1*2)),()) ((r5.2.2.2),()))) (.k data)
def zoS (x:zga) (y:zbn):=zea x.2.1 x.2.2.2.1 y.1
def zc4 (n:Nat) (n_:Int) (blockSize:Int) (data:yE):=zC (zoS) default n ((),n_,(),blockSize,()) (data,())
def zBZ (r:yE):LTree ty:=.done (.exit 2) [.own 252] [.arr 100 r false]
def zCi:LL ty zga:=za (zds 252) (za zj (za (lFn 124 (zl)) (za zj zl)))
def zB0 (x:zcg) (y:zbn):Nat:=(Int.toNat x.2.1+Int.toNat x.2.2.2.1+Int.toNat x.2.2.2.2.1+Int.toNat x.2.2.2.2.2.1+y.1.length+1000)
def zBD (x:zga) (y:zbn):Nat:=(Int.toNat x.2.1+Int.toNat x.2.2.2.1+y.1.length+1000)
def zfz:=zbV base 63 [(124,zce),(281,zkk),(282,zlR)] [(281,[true,false,false,false]),(282,[true,false,false,false,false])] [(2,(kpL [0,1,2,6,7,8])),(7,(kpL [0,1,2,6])),(9,(kpL [0,1,2,6,7,8]))] [(2,1,(kpL [0,1,2,6,7])),(7,3,(kpL [0])),(9,5,(kpL [0,1,2,6,7]))] [(2,spW zCv zCu (zoi) default zBX zB0),(9,spW zCv zCu (zoC) default zBV zB0),(7,spW zCi zCu (zoS) default zBZ zBD)] []
theorem zBF:zF zfz (lp (body f262) 0):=zq (id:=2) (hl:=rfl)
theorem zBY:zF zfz (lp (body f262) 2):=zq (id:=9) (hl:=rfl)
theorem zBB:zF zfz (lp (body f262) 1):=zq (id:=7) (hl:=rfl)
def zpg (data:yE) (n_:Int):Wy0 (yE):=.bn (zc7 (n_.toNat +Int.toNat 20+Int.toNat 0+Int.toNat 20+data.length+1000) n_ 20 0 20 data) λr10=>.bn (zcc r10.2.2.2 r10.2.2.1 r10.1) λr9=>.bn (zc4 (r10.1.toNat +r10.2.1.toNat +r9.length+1000) r10.1 r10.2.1 r9) λr8=>.k r8
def zeT (data:yE) (n_:Int):=(zpg data n_).fin default
def zDn:AL base (yE×Int×Unit×Unit):=ze (zq1 100) (ze (zf zfh) (ze (zf (vFn 124 zb5)) zu))
def znt:=zi zDn λx=>((zeT x.1 x.2.1).1,zzW (zeT x.1 x.2.1).2)
theorem zAq:SdP 262 znt:=
 sT (cx':=zfz) (zk ⟨zco,zt6,zxZ,trivial⟩) call262 func262 (lOK (aC zBF (aC zBB (aC zBY aN)))) (sg:=⟨[],[true]⟩)
def zp2:=zbV base 9 [(124,zce),(262,znt)] [(262,[true,false,false])] [] [] [] []
def zh3 (x_:yE):Wy0 (yE):=.bn (zeT x_ (Int.ofNat x_.length)) λr0=>.k r0
def zbY (x_:yE):=(zh3 x_).fin default
def zqx:AL base (yE×Unit×Unit):=ze (zq1 100) (ze (zf (vFn 124 zb5)) zu)
def zg9:=zi zqx λx=>((zbY x.1).1,zzW (zbY x.1).2)
theorem zog:SdP 242 zg9:=
 sT (cx':=zp2) (zk ⟨zco,zAq,trivial⟩) call242 func242 (lOK aN) (sg:=⟨[],[true]⟩)
abbrev zsL:=Unit×yE×Int×Int×Unit
abbrev znv:=yE×Unit
def znn (t6:yE) (t7:Int) (t8:Int) (out_:yE):Wy zsL znv (yE):=.i (decide (t8<t7)) (.i (decide (0<=t8)&&decide (t8<Int.ofNat t6.length)) (.i (decide (Int.ofNat (t6.getD t8.toNat default).Ann.length>0)) (.bn (zhE (t6.getD t8.toNat default).Ann) λr0=>.i (decide ((out_.length+[WO.mk (t6.getD t8.toNat default).Value r0].length)*56<=zN)) (.h ((),t6,t7,(IntKind.i64.wrap (t8+1)),()) ((out_++[WO.mk (t6.getD t8.toNat default).Value r0]),())) .d) (.h ((),t6,t7,(IntKind.i64.wrap (t8+1)),()) (out_,()))) .d) (.k out_)
def zAJ (x:zsL) (y:znv):=znn x.2.1 x.2.2.1 x.2.2.2.1 y.1
def zIo (n:Nat) (t6:yE) (t7:Int) (t8:Int) (out_:yE):=zC (zAJ) default n ((),t6,t7,t8,()) (out_,())
def zV8 (r:yE):LTree ty:=.done (.exit 0) [.own 116] [.arr 100 r false]
def zX5:LL ty zsL:=za (zds 116) (za (lSl 100) (za zj (za zj zl)))
def zXW:BL ty znv:=zdA 100 false (zbd)
def zVy (x:zsL) (y:znv):Nat:=(x.2.1.length+Int.toNat x.2.2.1+Int.toNat x.2.2.2.1+y.1.length+1)
def zIv:=zbV base 29 [(87,zhp),(124,zce),(242,zg9)] [(242,[true,false])] [(3,[(3,.own 100),(6,.keep),(7,.keep),(8,.keep)])] [(3,1,(kpL [3]))] [(3,spW zX5 zXW (zAJ) default zV8 zVy)] []
theorem zVT:zF zIv (lp (body f218) 0):=zq (id:=3) (hl:=rfl)
def zKv (l:yE):Wy0 (yE):=.bn (zIo (l.length+(Int.ofNat l.length).toNat +Int.toNat 0+0+1) l (Int.ofNat l.length) 0 []) λr3=>.bn (zbY r3) λr2=>.k r2
def zsi (l:yE):=(zKv l).fin default
def zVL (r:yE):ARes ty:=⟨[.own 100 r],[]⟩
def z0N:AL base znv:=ze (zf (vSl 100)) zu
def zFH:=zi z0N λx=>((zsi x.1).1,zVL (zsi x.1).2)
theorem zSx:SdP 218 zFH:=
 sT (cx':=zIv) (zk ⟨zjU,zco,zog,trivial⟩) call218 func218 (lOK (aC zVT aN)) (sg:=⟨[.own 100],[]⟩)
def zT3:=zbr base 7 [(20,zcn)]
def zGR (w:Wd):Wy0 (Bool):=.bn (zca w.Ann) λr0=>.k (!r0)
def zoT (w:Wd):=(zGR w).fin default
def znc:=zi zNq λx=>((zoT x.1).1,zYq (zoT x.1).2)
theorem zsD:SdP 217 znc:=
 sT (cx':=zT3) (zk ⟨zct,trivial⟩) call217 func217 (lOK aN)
def zXS:=zbr base 28 []
def zJZ (op:Int) (sign:Int):Wy0 (Bool):=.i (op==5) (.k (sign==0)) (.i (op==6) (.k (sign != 0)) (.i (op==7) (.k (decide (sign<0))) (.i (op==8) (.k (decide (sign<=0))) (.i (op==9) (.k (decide (sign>0))) (.k (decide (sign≥0)))))))
def zrL (op:Int) (sign:Int):=(zJZ op sign).fin default
def zFZ:=zi zYl λx=>((zrL x.1 x.2.1).1,zYq (zrL x.1 x.2.1).2)
theorem zR6:SdP 219 zFZ:=
 sT (cx':=zXS) (zk trivial) call219 func219 (lOK aN)
abbrev zd4:=yE×Unit×Int×Int×Unit
def zrx (s:yE) (t7:Int) (t8:Int):Wy zd4 Unit (Int⊕Unit):=.i (decide (t8<t7)) (.i (decide (0<=t8)&&decide (t8<Int.ofNat s.length)) (.bn (zoT (s.getD t8.toNat default)) λr0=>.i (r0) (.k (.inl t8)) (.h (s,(),t7,(IntKind.i64.wrap (t8+1)),()) ())) .d) (.k (.inr ()))
def zie (x:zd4) (y:Unit):=zrx x.1 x.2.2.1 x.2.2.2.1
def zrz (n:Nat) (s:yE) (t7:Int) (t8:Int):=zC (zie) (.inl default) n (s,(),t7,t8,()) ()
def zrr:LL ty zd4:=za (lSl 100) (za (lFn 217 (zl)) (za zj (za zj zl)))
def zqZ (x:zd4) (y:Unit):Nat:=(x.1.length+Int.toNat x.2.2.1+Int.toNat x.2.2.2.1+1)
def zil:=zbV base 19 [(217,znc)] [] [(2,(kpL [0,1,7,8]))] [(2,1,[]),(2,0,(kpL [4]))] [(2,spW zrr zba6 (zie) (.inl default) ztL zqZ)] []
theorem zqJ:zF zil (lp (body f163) 0):=zq (id:=2) (hl:=rfl)
def zsl (s:yE):Wy0 (Int):=.bn (zrz (s.length+(Int.ofNat s.length).toNat +Int.toNat 0+1) s (Int.ofNat s.length) 0) λr2=>.i (isL r2) (.k (getL r2)) (.k (-1:Int))
def zdF (s:yE):=(zsl s).fin default
def zsB:AL base (yE×Unit×Unit):=ze (zf (vSl 100)) (ze (zf (vFn 217 zb5)) zu)
def zhC:=zi zsB λx=>((zdF x.1).1,zSM (zdF x.1).2)
theorem zpu:SdP 163 zhC:=
 sT (cx':=zil) (zk ⟨zsD,trivial⟩) call163 func163 (lOK (aC zqJ aN))
def zpy:=zbr base 9 [(163,zhC),(217,znc)]
def zhI (s:yE):Wy0 (Bool):=.bn (zdF s) λr0=>.k (decide (r0≥0))
def zcl (s:yE):=(zhI s).fin default
def zgI:=zi zsB λx=>((zcl x.1).1,zYq (zcl x.1).2)
theorem zn3:SdP 132 zgI:=
 sT (cx':=zpy) (zk ⟨zpu,zsD,trivial⟩) call132 func132 (lOK aN)
def z0Y:=zbr base 45 [(36,zsK),(70,zfg),(132,zgI),(135,ztN),(138,znT),(152,zho),(217,znc),(218,zFH),(219,zFZ)]
def zMw (fn:Int) (items:yE) (op:Int) (bound:Value):Wy0 (yC×Int):=.bn (zld fn items op bound) λr5=>.i (!r5) (.k ([],1)) (.bn (zcl items) λr4=>.i (r4) (.k ([],1)) (.bn (zsi items) λr3=>.i (decide (Int.ofNat r3.length>0)) (.bn (zeU (zf7 (At.mk 4 (RowID.mk 0 0) [] fn r3 op bound)).2) λr0=>.k (r0.1,r0.2)) (.i (fn==0) (.bn (zjZ 0 bound.Int) λr2=>.bn (zrL op r2) λr1=>.i (r1) (.k (zxv.2,0)) (.k ([],0))) (.k ([],0)))))
def zpk (fn:Int) (items:yE) (op:Int) (bound:Value):=(zMw fn items op bound).fin default
def zHE:=zi zWx λx=>((zpk x.1 x.2.1 x.2.2.1 x.2.2.2.1).1,zSr (zpk x.1 x.2.1 x.2.2.1 x.2.2.2.1).2)
theorem zTX:SdP 180 zHE:=
 sT (cx':=z0Y) (zk ⟨zyE,zge,zn3,zCQ,ztw,zjz,zsD,zSx,zR6,trivial⟩) call180 func180 (lOK aN) (sg:=⟨[.own 28,.pure],[]⟩)
abbrev zlp:=((yG×Unit)×Unit)×Unit×Unit×yA×Int×Int×Unit
abbrev zlq:=At×yA×Unit
abbrev zBd:=Int⊕(yG×At×yA)
abbrev zln:=((yG×Unit)×Unit)×Unit×Unit×yE×Int×Int×Unit
abbrev zlt:=At×yE×Unit
abbrev zBr:=Int⊕(At×yE)
def zoL (zW:yC->yG->Bool×(yC×Int)) (to:yG) (t24:yA) (t25:Int) (t26:Int) (x_:At) (args:yA):Wy zlp zlq zBd:=.i (decide (t26<t25)) (.i (decide (0<=t26)&&decide (t26<Int.ofNat t24.length)) (.bn (zW (t24.getD t26.toNat default) to) λr2=>.i (r2.2 != 0) (.k (.inl (r2.2))) (.i (decide ((args.length+[r2.1].length)*24<=zN)) (.h (((to,()),()),(),(),t24,t25,(IntKind.i64.wrap (t26+1)),()) (x_,(args++[r2.1]),())) .d)) .d) (.k (.inr (to,x_,args)))
def zyp (zW:yC->yG->Bool×(yC×Int)) (x:zlp) (y:zlq):=zoL zW x.1.1.1 x.2.2.2.1 x.2.2.2.2.1 x.2.2.2.2.2.1 y.1 y.2.1
def zka (zW:yC->yG->Bool×(yC×Int)) (n:Nat) (to:yG) (t24:yA) (t25:Int) (t26:Int) (x_:At) (args:yA):=zC (zyp zW) (.inl default) n (((to,()),()),(),(),t24,t25,t26,()) (x_,args,())
def zIQ (r:zBd):LTree ty:=.ite (isL r) (.done .ret [.lit (.slice none 0 0),.lit (.int .i64 (getL r))] []) (.done (.exit 0) [.fn 84 ([.bptr ([.sl 51 (getR r).1]) 0]),.ptr 432 0,.own 433] [.box (base.enc 67 (getR r).2.1) false,.arr 23 (getR r).2.2 false])
def zLe:LL ty zlp:=za (lFn 84 (za (zoV (za (lSl 51) zl) 0) zl)) (za (ze3 432 0) (za (zds 433) (za (lSl 23) (za zj (za zj zl)))))
def zLo:BL ty zlq:=zhS (zf1 (λx=>(⟨x.1,⟨x.2.1,x.2.2.1⟩,x.2.2.2.1,x.2.2.2.2.1,x.2.2.2.2.2.1,x.2.2.2.2.2.2.1,⟨x.2.2.2.2.2.2.2.1,x.2.2.2.2.2.2.2.2.1,x.2.2.2.2.2.2.2.2.2.1⟩⟩:At)) (λx=>(x.Kind,x.Row.Table,x.Row.Seq,x.Ag,x.Func,x.Items,x.Op,x.Bd.Kind,x.Bd.Int,x.Bd.Text,())) (λ_=>rfl) (za (zR .i64) (za (zR .i64) (za (zR .i64) (za (lSl 23) (za (zR .i64) (za (lSl 100) (za (zR .i64) (za (zR .i64) (za (zR .i64) (za zrP zl))))))))))) false (zdA 23 false (zbd))
def znC (zW:yC->yG->Bool×(yC×Int)) (to:yG) (t74:yE) (t75:Int) (t76:Int) (x_:At) (items:yE):Wy zln zlt zBr:=.i (decide (t76<t75)) (.i (decide (0<=t76)&&decide (t76<Int.ofNat t74.length)) (.bn (zW (t74.getD t76.toNat default).Ann to) λr4=>.i (r4.2 != 0) (.k (.inl (r4.2))) (.i (decide ((items.length+[WO.mk (t74.getD t76.toNat default).Value r4.1].length)*56<=zN)) (.h (((to,()),()),(),(),t74,t75,(IntKind.i64.wrap (t76+1)),()) (x_,(items++[WO.mk (t74.getD t76.toNat default).Value r4.1]),())) .d)) .d) (.k (.inr (x_,items)))
def zwE (zW:yC->yG->Bool×(yC×Int)) (x:zln) (y:zlt):=znC zW x.1.1.1 x.2.2.2.1 x.2.2.2.2.1 x.2.2.2.2.2.1 y.1 y.2.1
def zjv (zW:yC->yG->Bool×(yC×Int)) (n:Nat) (to:yG) (t74:yE) (t75:Int) (t76:Int) (x_:At) (items:yE):=zC (zwE zW) (.inl default) n (((to,()),()),(),(),t74,t75,t76,()) (x_,items,())
def zIe (r:zBr):LTree ty:=.ite (isL r) (.done .ret [.lit (.slice none 0 0),.lit (.int .i64 (getL r))] []) (.done (.exit 3) [.ptr 432 0,.own 433] [.box (base.enc 67 (getR r).1) false,.arr 100 (getR r).2 false])
def zJm:LL ty zln:=za (lFn 84 (za (zoV (za (lSl 51) zl) 0) zl)) (za (ze3 432 0) (za (zds 433) (za (lSl 100) (za zj (za zj zl)))))
def zIL:BL ty zlt:=zhS (zf1 (λx=>(⟨x.1,⟨x.2.1,x.2.2.1⟩,x.2.2.2.1,x.2.2.2.2.1,x.2.2.2.2.2.1,x.2.2.2.2.2.2.1,⟨x.2.2.2.2.2.2.2.1,x.2.2.2.2.2.2.2.2.1,x.2.2.2.2.2.2.2.2.2.1⟩⟩:At)) (λx=>(x.Kind,x.Row.Table,x.Row.Seq,x.Ag,x.Func,x.Items,x.Op,x.Bd.Kind,x.Bd.Int,x.Bd.Text,())) (λ_=>rfl) (za (zR .i64) (za (zR .i64) (za (zR .i64) (za (lSl 23) (za (zR .i64) (za (lSl 100) (za (zR .i64) (za (zR .i64) (za (zR .i64) (za zrP zl))))))))))) false (zdA 100 false (zbd))
def zJH (x:zlp) (y:zlq):Nat:=(x.1.1.1.length+x.2.2.2.1.length+Int.toNat x.2.2.2.2.1+Int.toNat x.2.2.2.2.2.1+y.1.Ag.length+y.1.Items.length+y.2.1.length+1)
def zH4 (x:zln) (y:zlt):Nat:=(x.1.1.1.length+x.2.2.2.1.length+Int.toNat x.2.2.2.2.1+Int.toNat x.2.2.2.2.2.1+y.1.Ag.length+y.1.Items.length+y.2.1.length+1)
def zop (zW:yC->yG->Bool×(yC×Int)):=zbV zb1 108 [(83,(zl9 zW)),(84,ziu),(177,zGd),(178,zFJ),(179,zER),(180,zHE)] [] [(5,[(1,.keep),(2,.keep),(6,.own 23),(24,.keep),(25,.keep),(26,.keep)]),(21,[(1,.keep),(2,.keep),(11,.own 100),(74,.keep),(75,.keep),(76,.keep)])] [(5,1,(kpL [1,2,6])),(5,0,(kpL [4,5])),(21,4,(kpL [2,11])),(21,0,(kpL [4,5]))] [(5,spW zLe zLo (zyp zW) (.inl default) zIQ zJH),(21,spW zJm zIL (zwE zW) (.inl default) zIe zH4)] []
theorem zI0 (zW:yC->yG->Bool×(yC×Int)):zF (zop zW) (lp (body f150) 0):=zq (id:=5) (hl:=rfl)
theorem zH6 (zW:yC->yG->Bool×(yC×Int)):zF (zop zW) (lp (body f150) 1):=zq (id:=21) (hl:=rfl)
def zAm (zW:yC->yG->Bool×(yC×Int)) (x_:At) (to:yG):Wy0 (yC×Int):=.i (x_.Kind==0) (.bn (zix x_.Row to) λr6=>.k (r6,0)) (.bn (zka zW (to.length+x_.Ag.length+(Int.ofNat x_.Ag.length).toNat +Int.toNat 0+x_.Ag.length+x_.Items.length+0+1) to x_.Ag (Int.ofNat x_.Ag.length) 0 (At.mk x_.Kind x_.Row x_.Ag x_.Func x_.Items x_.Op x_.Bd) []) λr12=>.i (isL r12) (.k ([],getL r12)) (.i ((getR r12).2.1.Kind==1) (.i (decide ((0:Int)<=(0:Int))&&decide (0<Int.ofNat (getR r12).2.2.length)) (.i (decide ((0:Int)<=(1:Int))&&decide (1<Int.ofNat (getR r12).2.2.length)) (.bn (zsE ((getR r12).2.2.getD (Int.toNat 0) default) ((getR r12).2.2.getD (Int.toNat 1) default)) λr7=>.k (r7.1,r7.2)) .d) .d) (.i ((getR r12).2.1.Kind==2) (.i (decide ((0:Int)<=(0:Int))&&decide (0<Int.ofNat (getR r12).2.2.length)) (.bn (zrS ((getR r12).2.2.getD (Int.toNat 0) default)) λr8=>.k (r8.1,r8.2)) .d) (.i ((getR r12).2.1.Kind==3) (.i (decide ((0:Int)<=(0:Int))&&decide (0<Int.ofNat (getR r12).2.2.length)) (.bn (zp4 ((getR r12).2.2.getD (Int.toNat 0) default)) λr9=>.k (r9.1,r9.2)) .d) (.bn (zjv zW ((getR r12).1.length+(getR r12).2.1.Items.length+(Int.ofNat (getR r12).2.1.Items.length).toNat +Int.toNat 0+(getR r12).2.1.Ag.length+(getR r12).2.1.Items.length+0+1) (getR r12).1 (getR r12).2.1.Items (Int.ofNat (getR r12).2.1.Items.length) 0 (At.mk (getR r12).2.1.Kind (getR r12).2.1.Row (getR r12).2.1.Ag (getR r12).2.1.Func (getR r12).2.1.Items (getR r12).2.1.Op (getR r12).2.1.Bd) []) λr11=>.i (isL r11) (.k ([],getL r11)) (.bn (zpk (getR r11).1.Func (getR r11).2 (getR r11).1.Op (getR r11).1.Bd) λr10=>.k (r10.1,r10.2)))))))
def ziV (zW:yC->yG->Bool×(yC×Int)) (x_:At) (to:yG):=(zAm zW x_ to).fin default
theorem zHu (zW:yC->yG->Bool×(yC×Int)) (zSH:Sound Tryz.prog zb1 83 (zl9 zW)):Sound Tryz.prog zb1 150 (zlP (ziV zW)):=
 sU (cx':=(zop zW)) (zk ⟨zSH,zmi.nodr,zSO.nodr,zSJ.nodr,zQX.nodr,zTX.nodr,trivial⟩) call150 func150 (lOK (aC (zI0 zW) (aC (zH6 zW) aN))) (sg:=⟨[.own 28,.pure],[]⟩)
def zJV:Nat->(yC->yG->Bool×(yC×Int))×(At->yG->Bool×(yC×Int))
 | 0=>(λ_ _=>(false,default),λ_ _=>(false,default))
 | n+1=>(zma ((zJV n).2),ziV ((zJV n).1))
def zl8 (n:Nat):yC->yG->Bool×(yC×Int):=(zJV n).1
def ziF (n:Nat):At->yG->Bool×(yC×Int):=(zJV n).2
theorem zQU (n:Nat):zl8 (n+1)=zma (ziF n):=rfl
theorem zKF (n:Nat):ziF (n+1)=ziV (zl8 n):=rfl
theorem zXn:∀ n,Sound Tryz.prog zb1 83 (zl9 (zl8 n))/\Sound Tryz.prog zb1 150 (zlP (ziF n))
 | 0=>⟨zbb call83 (λ_=>rfl),zbb call150 (λ_=>rfl)⟩
 | n+1=>by
  have ih:=zXn n;exact ⟨zMc _ (ih.2),zHu _ (ih.1)⟩
def zC0:yC->yG->Bool×(yC×Int):=zl8 1000
def zD1:Ab.Spec ty:=zl9 zC0
theorem zOp:Sound Tryz.prog zb1 83 zD1:=(zXn 1000).1
def zK8:=zbr base 7 [(20,zcn)]
def zzC (b:Bg):Wy0 (Bool):=.bn (zca b.To) λr0=>.k (!r0)
def zi0 (b:Bg):=(zzC b).fin default
def zLP:AL base (Bg×Unit):=ze (zf (zcK 51)) zu
def zis:=zi zLP λx=>((zi0 x.1).1,zYq (zi0 x.1).2)
theorem zl4:SdP 82 zis:=
 sT (cx':=zK8) (zk ⟨zct,trivial⟩) call82 func82 (lOK aN)
abbrev zem:=yG×Unit×Int×Int×Unit
def zs1 (s:yG) (t7:Int) (t8:Int):Wy zem Unit (Int⊕Unit):=.i (decide (t8<t7)) (.i (decide (0<=t8)&&decide (t8<Int.ofNat s.length)) (.bn (zi0 (s.getD t8.toNat default)) λr0=>.i (r0) (.k (.inl t8)) (.h (s,(),t7,(IntKind.i64.wrap (t8+1)),()) ())) .d) (.k (.inr ()))
def zjh (x:zem) (y:Unit):=zs1 x.1 x.2.2.1 x.2.2.2.1
def zsW (n:Nat) (s:yG) (t7:Int) (t8:Int):=zC (zjh) (.inl default) n (s,(),t7,t8,()) ()
def zsS:LL ty zem:=za (lSl 51) (za (lFn 82 (zl)) (za zj (za zj zl)))
def zr4 (x:zem) (y:Unit):Nat:=(x.1.length+Int.toNat x.2.2.1+Int.toNat x.2.2.2.1+1)
def zjd:=zbV base 19 [(82,zis)] [] [(2,(kpL [0,1,7,8]))] [(2,1,[]),(2,0,(kpL [4]))] [(2,spW zsS zba6 (zjh) (.inl default) ztL zr4)] []
theorem zr3:zF zjd (lp (body f85) 0):=zq (id:=2) (hl:=rfl)
def ztu (s:yG):Wy0 (Int):=.bn (zsW (s.length+(Int.ofNat s.length).toNat +Int.toNat 0+1) s (Int.ofNat s.length) 0) λr2=>.i (isL r2) (.k (getL r2)) (.k (-1:Int))
def zd2 (s:yG):=(ztu s).fin default
def zts:AL base (yG×Unit×Unit):=ze (zf (vSl 51)) (ze (zf (vFn 82 zb5)) zu)
def zid:=zi zts λx=>((zd2 x.1).1,zSM (zd2 x.1).2)
theorem zqM:SdP 85 zid:=
 sT (cx':=zjd) (zk ⟨zl4,trivial⟩) call85 func85 (lOK (aC zr3 aN))
def zqK:=zbr base 9 [(82,zis),(85,zid)]
def zij (s:yG):Wy0 (Bool):=.bn (zd2 s) λr0=>.k (decide (r0≥0))
def zcv (s:yG):=(zij s).fin default
def zhe:=zi zts λx=>((zcv x.1).1,zYq (zcv x.1).2)
theorem zoX:SdP 81 zhe:=
 sT (cx':=zqK) (zk ⟨zl4,zqM,trivial⟩) call81 func81 (lOK aN)
def zPL:=zbr zb1 18 [(20,zcn),(81,zhe),(82,zis),(83,zD1),(84,ziu)]
def zDJ (a:yC) (l:yG):Wy0 (yC×Int):=.bn (zca a) λr2=>.i (!r2) (.k ([],1)) (.bn (zcv l) λr1=>.i (r1) (.k ([],1)) (.bn (zC0 a l) λr0=>.k (r0.1,r0.2)))
def zik (a:yC) (l:yG):=(zDJ a l).fin default
def zQh:AL zb1 (yC×yG×Unit):=ze (zf (vSl 28)) (ze (zf (vSl 51)) zu)
def zzY:=zi zQh λx=>((zik x.1 x.2.1).1,zSr (zik x.1 x.2.1).2)
theorem zJ5:Sound Tryz.prog zb1 29 zzY:=
 sU (cx':=zPL) (zk ⟨zct.nodr,zoX.nodr,zl4.nodr,zOp,zmi.nodr,trivial⟩) call29 func29 (lOK aN) (sg:=⟨[.own 28,.pure],[]⟩)
def zVB:=zbr zb1 11 [(29,zzY)]
def zIz (a:yC):Wy0 (yC):=.bn (zik a []) λr0=>.k r0.1
def zqc (a:yC):=(zIz a).fin default
def zEO:=zi z28 λx=>((zqc x.1).1,zS6 (zqc x.1).2)
theorem zQj:Sound Tryz.prog zb1 68 zEO:=
 sU (cx':=zVB) (zk ⟨zJ5,trivial⟩) call68 func68 (lOK aN) (sg:=⟨[.own 28],[]⟩)
def zM7:=zbr base 8 []
def zCM (x_:At):Wy0 (yC):=.k [TO.mk 1 [FO.mk (At.mk x_.Kind x_.Row x_.Ag x_.Func x_.Items x_.Op x_.Bd) 1]]
def zhw (x_:At):=(zCM x_).fin default
def zyA:=zi zEP λx=>((zhw x.1).1,zS6 (zhw x.1).2)
theorem zIY:SdP 104 zyA:=
 sT (cx':=zM7) (zk trivial) call104 func104 (lOK aN) (sg:=⟨[.own 28],[]⟩)
def zTa:=zbr base 13 [(21,zli),(104,zyA)]
def zGk (x_:At) (y_:At):Wy0 (Bool):=.bn (zgY (zhw (At.mk x_.Kind x_.Row x_.Ag x_.Func x_.Items x_.Op x_.Bd)).2 (zhw (At.mk y_.Kind y_.Row y_.Ag y_.Func y_.Items y_.Op y_.Bd)).2) λr0=>.k r0
def znp (x_:At) (y_:At):=(zGk x_ y_).fin default
def zCr:=zi zNV λx=>((znp x.1 x.2.1).1,zYq (znp x.1 x.2.1).2)
theorem zNr:SdP 52 zCr:=
 sT (cx':=zTa) (zk ⟨zn7,zIY,trivial⟩) call52 func52 (lOK aN)
def zJ8:=zbr base 16 [(52,zCr)]
def zAb (g:Fc) (p1:Fc):Wy0 (Bool):=.i (decide (p1.Exp<=g.Exp)) (.bn (znp (At.mk p1.At.Kind p1.At.Row p1.At.Ag p1.At.Func p1.At.Items p1.At.Op p1.At.Bd) (At.mk g.At.Kind g.At.Row g.At.Ag g.At.Func g.At.Items g.At.Op g.At.Bd)) λr0=>.k r0) (.k false)
def ze2 (g:Fc) (p1:Fc):=(zAb g p1).fin default
def zMq:AL base (Fc×Fc×Unit):=ze (zf (zcK 69)) (ze (zf (zBn 69)) zu)
def zit:=zi zMq λx=>((ze2 x.1 x.2.1).1,zYq (ze2 x.1 x.2.1).2)
theorem zlU:SdP 51 zit:=
 sT (cx':=zJ8) (zk ⟨zNr,trivial⟩) call51 func51 (lOK aN)
abbrev zeO:=yD×(Fc×Unit)×Int×Int×Unit
def zj6 (s:yD) (f:Fc) (t7:Int) (t8:Int):Wy zeO Unit (Int⊕Unit):=.i (decide (t8<t7)) (.i (decide (0<=t8)&&decide (t8<Int.ofNat s.length)) (.bn (ze2 (FO.mk (At.mk (s.getD t8.toNat default).At.Kind (s.getD t8.toNat default).At.Row (s.getD t8.toNat default).At.Ag (s.getD t8.toNat default).At.Func (s.getD t8.toNat default).At.Items (s.getD t8.toNat default).At.Op (s.getD t8.toNat default).At.Bd) (s.getD t8.toNat default).Exp) (FO.mk (At.mk f.At.Kind f.At.Row f.At.Ag f.At.Func f.At.Items f.At.Op f.At.Bd) f.Exp)) λr0=>.i (r0) (.k (.inl t8)) (.h (s,(f,()),t7,(IntKind.i64.wrap (t8+1)),()) ())) .d) (.k (.inr ()))
def zdU (x:zeO) (y:Unit):=zj6 x.1 x.2.1.1 x.2.2.1 x.2.2.2.1
def zkb (n:Nat) (s:yD) (f:Fc) (t7:Int) (t8:Int):=zC (zdU) (.inl default) n (s,(f,()),t7,t8,()) ()
def zuG:LL ty zeO:=za (lSl 69) (za (lFn 51 (za (zoV (zf1 (λx=>(⟨⟨x.1,⟨x.2.1,x.2.2.1⟩,x.2.2.2.1,x.2.2.2.2.1,x.2.2.2.2.2.1,x.2.2.2.2.2.2.1,⟨x.2.2.2.2.2.2.2.1,x.2.2.2.2.2.2.2.2.1,x.2.2.2.2.2.2.2.2.2.1⟩⟩,x.2.2.2.2.2.2.2.2.2.2.1⟩:Fc)) (λx=>(x.At.Kind,x.At.Row.Table,x.At.Row.Seq,x.At.Ag,x.At.Func,x.At.Items,x.At.Op,x.At.Bd.Kind,x.At.Bd.Int,x.At.Bd.Text,x.Exp,())) (λ_=>rfl) (za zj (za zj (za zj (za (lSl 23) (za zj (za (lSl 100) (za zj (za zj (za zj (za zrP (za zj zl)))))))))))) 0) zl)) (za zj (za zj zl)))
def ztF (x:zeO) (y:Unit):Nat:=(x.1.length+x.2.1.1.At.Ag.length+x.2.1.1.At.Items.length+Int.toNat x.2.2.1+Int.toNat x.2.2.2.1+1000)
def zke:=zbV base 19 [(51,zit)] [] [(2,(kpL [0,1,7,8]))] [(2,1,[]),(2,0,(kpL [4]))] [(2,spW zuG zba6 (zdU) (.inl default) ztL ztF)] []
theorem ztI:zF zke (lp (body f103) 0):=zq (id:=2) (hl:=rfl)
def zkE (s:yD) (f:Fc):Wy0 (Int):=.bn (zkb (s.length+f.At.Ag.length+f.At.Items.length+(Int.ofNat s.length).toNat +Int.toNat 0+1000) s (FO.mk (At.mk f.At.Kind f.At.Row f.At.Ag f.At.Func f.At.Items f.At.Op f.At.Bd) f.Exp) (Int.ofNat s.length) 0) λr2=>.i (isL r2) (.k (getL r2)) (.k (-1:Int))
def zc6 (s:yD) (f:Fc):=(zkE s f).fin default
def zvo:AL base (yD×(Fc×Unit)×Unit):=ze (zf (vSl 69)) (ze (zf (vFn 51 (zdS (zBn 69) zb5))) zu)
def zi9:=zi zvo λx=>((zc6 x.1 x.2.1.1).1,zSM (zc6 x.1 x.2.1.1).2)
theorem zss:SdP 103 zi9:=
 sT (cx':=zke) (zk ⟨zlU,trivial⟩) call103 func103 (lOK (aC ztI aN))
def zrO:=zbr base 9 [(51,zit),(103,zi9)]
def zjf (s:yD) (f:Fc):Wy0 (Bool):=.bn (zc6 s (FO.mk (At.mk f.At.Kind f.At.Row f.At.Ag f.At.Func f.At.Items f.At.Op f.At.Bd) f.Exp)) λr0=>.k (decide (r0≥0))
def zcJ (s:yD) (f:Fc):=(zjf s f).fin default
def zh7:=zi zvo λx=>((zcJ x.1 x.2.1.1).1,zYq (zcJ x.1 x.2.1.1).2)
theorem zqg:SdP 49 zh7:=
 sT (cx':=zrO) (zk ⟨zlU,zss,trivial⟩) call49 func49 (lOK aN)
def zOF:=zbr base 9 [(49,zh7),(51,zit)]
def zDY (f:Fc) (p1:Term):Wy0 (Bool):=.bn (zcJ p1.Fs (FO.mk (At.mk f.At.Kind f.At.Row f.At.Ag f.At.Func f.At.Items f.At.Op f.At.Bd) f.Exp)) λr0=>.k (!r0)
def zgq (f:Fc) (p1:Term):=(zDY f p1).fin default
def zQT:AL base (Fc×Term×Unit):=ze (zf (zcK 69)) (ze (zf (zBn 28)) zu)
def zkO:=zi zQT λx=>((zgq x.1 x.2.1).1,zYq (zgq x.1 x.2.1).2)
theorem zoO:SdP 50 zkO:=
 sT (cx':=zOF) (zk ⟨zqg,zlU,trivial⟩) call50 func50 (lOK aN)
abbrev zeZ:=yD×(Term×Unit)×Int×Int×Unit
def zkD (s:yD) (f:Term) (t7:Int) (t8:Int):Wy zeZ Unit (Int⊕Unit):=.i (decide (t8<t7)) (.i (decide (0<=t8)&&decide (t8<Int.ofNat s.length)) (.bn (zgq (FO.mk (At.mk (s.getD t8.toNat default).At.Kind (s.getD t8.toNat default).At.Row (s.getD t8.toNat default).At.Ag (s.getD t8.toNat default).At.Func (s.getD t8.toNat default).At.Items (s.getD t8.toNat default).At.Op (s.getD t8.toNat default).At.Bd) (s.getD t8.toNat default).Exp) f) λr0=>.i (r0) (.k (.inl t8)) (.h (s,(f,()),t7,(IntKind.i64.wrap (t8+1)),()) ())) .d) (.k (.inr ()))
def zd7 (x:zeZ) (y:Unit):=zkD x.1 x.2.1.1 x.2.2.1 x.2.2.2.1
def zkA (n:Nat) (s:yD) (f:Term) (t7:Int) (t8:Int):=zC (zd7) (.inl default) n (s,(f,()),t7,t8,()) ()
def zvg:LL ty zeZ:=za (lSl 69) (za (lFn 50 (za (zoV (zf1 (λx=>(⟨x.1,x.2.1⟩:Term)) (λx=>(x.Cf,x.Fs,())) (λ_=>rfl) (za zj (za (lSl 69) zl))) 0) zl)) (za zj (za zj zl)))
def zuI (x:zeZ) (y:Unit):Nat:=(x.1.length+x.2.1.1.Fs.length+Int.toNat x.2.2.1+Int.toNat x.2.2.2.1+1000)
def zkH:=zbV base 19 [(50,zkO)] [] [(2,(kpL [0,1,7,8]))] [(2,1,[]),(2,0,(kpL [4]))] [(2,spW zvg zba6 (zd7) (.inl default) ztL zuI)] []
theorem zuS:zF zkH (lp (body f103) 0):=zq (id:=2) (hl:=rfl)
def zkR (s:yD) (f:Term):Wy0 (Int):=.bn (zkA (s.length+f.Fs.length+(Int.ofNat s.length).toNat +Int.toNat 0+1000) s f (Int.ofNat s.length) 0) λr2=>.i (isL r2) (.k (getL r2)) (.k (-1:Int))
def zdg (s:yD) (f:Term):=(zkR s f).fin default
def zv9:AL base (yD×(Term×Unit)×Unit):=ze (zf (vSl 69)) (ze (zf (vFn 50 (zdS (zBn 28) zb5))) zu)
def zjI:=zi zv9 λx=>((zdg x.1 x.2.1.1).1,zSM (zdg x.1 x.2.1.1).2)
theorem ztj:SdP 103 zjI:=
 sT (cx':=zkH) (zk ⟨zoO,trivial⟩) call103 func103 (lOK (aC zuS aN))
def zte:=zbr base 9 [(50,zkO),(103,zjI)]
def zjD (s:yD) (f:Term):Wy0 (Bool):=.bn (zdg s f) λr0=>.k (decide (r0≥0))
def zcO (s:yD) (f:Term):=(zjD s f).fin default
def zif:=zi zv9 λx=>((zcO x.1 x.2.1.1).1,zYq (zcO x.1 x.2.1.1).2)
theorem zq0:SdP 49 zif:=
 sT (cx':=zte) (zk ⟨zoO,ztj,trivial⟩) call49 func49 (lOK aN)
def zUh:=zbr base 10 [(49,zif),(50,zkO)]
def zGW (a:Term) (b:Term):Wy0 (Bool):=.bn (zcO a.Fs b) λr0=>.k (!r0)
def zgO (a:Term) (b:Term):=(zGW a b).fin default
def zm7:=zi zQk λx=>((zgO x.1 x.2.1).1,zYq (zgO x.1 x.2.1).2)
theorem zsF:SdP 14 zm7:=
 sT (cx':=zUh) (zk ⟨zq0,zoO,trivial⟩) call14 func14 (lOK aN)
abbrev zo5:=yC×Unit×Int×Unit×yC×Int×Int×yC×Int×Int×Unit
abbrev zph:=yC×Term×Unit
abbrev zFX:=(yC×yC×Int×Int×yC)⊕(yC×yC×Int×Int×yC×Term)
abbrev zo6:=yC×Unit×yC×Int×Int×Unit
abbrev zlc:=yC×Unit
def zxt (a:yC) (i:Int) (t8:yC) (t9:Int) (t10:Int) (t15:yC) (t16:Int) (t17:Int) (out_:yC) (t:Term):Wy zo5 zph zFX:=.i (decide (t17<t16)) (.i (decide (0<=t17)&&decide (t17<Int.ofNat t15.length)) (.i (t17 != i) (.bn (zgO (t15.getD t17.toNat default) t) λr5=>.i (r5) (.bn (zgO t (t15.getD t17.toNat default)) λr4=>.i (!r4) (.k (.inl (a,t8,t9,t10,out_))) (.i (decide (t17<i)) (.k (.inl (a,t8,t9,t10,out_))) (.h (a,(),i,(),t8,t9,t10,t15,t16,(IntKind.i64.wrap (t17+1)),()) (out_,t,())))) (.h (a,(),i,(),t8,t9,t10,t15,t16,(IntKind.i64.wrap (t17+1)),()) (out_,t,()))) (.h (a,(),i,(),t8,t9,t10,t15,t16,(IntKind.i64.wrap (t17+1)),()) (out_,t,()))) .d) (.k (.inr (a,t8,t9,t10,out_,t)))
def zFR (x:zo5) (y:zph):=zxt x.1 x.2.2.1 x.2.2.2.2.1 x.2.2.2.2.2.1 x.2.2.2.2.2.2.1 x.2.2.2.2.2.2.2.1 x.2.2.2.2.2.2.2.2.1 x.2.2.2.2.2.2.2.2.2.1 y.1 y.2.1
def zxr (n:Nat) (a:yC) (i:Int) (t8:yC) (t9:Int) (t10:Int) (t15:yC) (t16:Int) (t17:Int) (out_:yC) (t:Term):=zC (zFR) (.inl default) n (a,(),i,(),t8,t9,t10,t15,t16,t17,()) (out_,t,())
def zSc (r:zFX):LTree ty:=.ite (isL r) (.done (.exit 1) [.sl 28 ((getL r).1),.own 196,.sl 28 ((getL r).2.1),.lit (.int .i64 ((getL r).2.2.1)),.lit (.int .i64 ((getL r).2.2.2.1))] [.arr 28 ((getL r).2.2.2.2) false]) (.done (.exit 2) [.sl 28 (getR r).1,.own 196,.ptr 197 0,.sl 28 (getR r).2.1,.lit (.int .i64 (getR r).2.2.1),.lit (.int .i64 (getR r).2.2.2.1)] [.arr 28 (getR r).2.2.2.2.1 false,.box (base.enc 28 (getR r).2.2.2.2.2) false])
def zTL:LL ty zo5:=za (lSl 28) (za (zds 196) (za zj (za (ze3 197 0) (za (lSl 28) (za zj (za zj (za (lSl 28) (za zj (za zj zl)))))))))
def zUp:BL ty zph:=zdA 28 false (zhS (zf1 (λx=>(⟨x.1,x.2.1⟩:Term)) (λx=>(x.Cf,x.Fs,())) (λ_=>rfl) (za (zR .i64) (za (lSl 69) zl))) false (zbd))
def zw7 (a:yC) (t8:yC) (t9:Int) (t10:Int) (out_:yC):Wy zo6 zlc (yC):=.i (decide (t10<t9)) (.i (decide (0<=t10)&&decide (t10<Int.ofNat t8.length)) (.bn (zxr (a.length+t10.toNat +t8.length+t9.toNat +t10.toNat +a.length+(Int.ofNat a.length).toNat +Int.toNat 0+out_.length+(t8.getD t10.toNat default).Fs.length+1000) a t10 t8 t9 t10 a (Int.ofNat a.length) 0 out_ (t8.getD t10.toNat default)) λr8=>.i (isL r8) (.h (((getL r8).1),(),((getL r8).2.1),((getL r8).2.2.1),(IntKind.i64.wrap ((getL r8).2.2.2.1+1)),()) (((getL r8).2.2.2.2),())) (.i (decide (((getR r8).2.2.2.2.1.length+[TO.mk 1 (getR r8).2.2.2.2.2.Fs].length)*32<=zN)) (.h ((getR r8).1,(),(getR r8).2.1,(getR r8).2.2.1,(IntKind.i64.wrap ((getR r8).2.2.2.1+1)),()) (((getR r8).2.2.2.2.1++[TO.mk 1 (getR r8).2.2.2.2.2.Fs]),())) .d)) .d) (.k out_)
def zGj (x:zo6) (y:zlc):=zw7 x.1 x.2.2.1 x.2.2.2.1 x.2.2.2.2.1 y.1
def zwO (n:Nat) (a:yC) (t8:yC) (t9:Int) (t10:Int) (out_:yC):=zC (zGj) default n (a,(),t8,t9,t10,()) (out_,())
def zSE (r:yC):LTree ty:=.done (.exit 0) [.own 196] [.arr 28 r false]
def zUq:LL ty zo6:=za (lSl 28) (za (zds 196) (za (lSl 28) (za zj (za zj zl))))
def zUS:BL ty zlc:=zdA 28 false (zbd)
def zSN (x:zo5) (y:zph):Nat:=(x.1.length+Int.toNat x.2.2.1+x.2.2.2.2.1.length+Int.toNat x.2.2.2.2.2.1+Int.toNat x.2.2.2.2.2.2.1+x.2.2.2.2.2.2.2.1.length+Int.toNat x.2.2.2.2.2.2.2.2.1+Int.toNat x.2.2.2.2.2.2.2.2.2.1+y.1.length+y.2.1.Fs.length+1000)
def zRO (x:zo6) (y:zlc):Nat:=(x.1.length+x.2.2.1.length+Int.toNat x.2.2.2.1+Int.toNat x.2.2.2.2.1+y.1.length+1000)
def zxE:=zbV base 49 [(14,zm7)] [] [(3,[(0,.keep),(3,.own 28),(8,.keep),(9,.keep),(10,.keep)]),(6,(kpL [0,3,4,5,8,9,10,15,16,17]))] [(3,1,(kpL [3])),(6,3,(kpL [0,3,5,8,9,10])),(6,2,(kpL [0,3,8,9,10]))] [(6,spW zTL zUp (zFR) (.inl default) zSc zSN),(3,spW zUq zUS (zGj) default zSE zRO)] []
theorem zSz:zF zxE (lp (body f69) 1):=zq (id:=6) (hl:=rfl)
theorem zS4:zF zxE (lp (body f69) 0):=zq (id:=3) (hl:=rfl)
def zG7 (a:yC):Wy0 (yC):=.bn (zwO (a.length+a.length+(Int.ofNat a.length).toNat +Int.toNat 0+0+1000) a a (Int.ofNat a.length) 0 []) λr10=>.k r10
def zk3 (a:yC):=(zG7 a).fin default
def zWt:AL base zlc:=ze (zf (vSl 28)) zu
def ztv:=zi zWt λx=>((zk3 x.1).1,zS6 (zk3 x.1).2)
theorem zB6:SdP 69 ztv:=
 sT (cx':=zxE) (zk ⟨zsF,trivial⟩) call69 func69 (lOK (aC zS4 (aC zSz aN))) (sg:=⟨[.own 28],[]⟩)
def zVC:=zbr zb1 9 [(20,zcn),(68,zEO),(69,ztv)]
def zIk (a:yC):Wy0 (yC):=.bn (zca a) λr2=>.i (!r2) (.k []) (.bn (zk3 a) λr1=>.bn (zqc r1) λr0=>.k r0)
def zmw (a:yC):=(zIk a).fin default
def zvZ:=zi z28 λx=>((zmw x.1).1,zS6 (zmw x.1).2)
theorem zDI:Sound Tryz.prog zb1 22 zvZ:=
 sU (cx':=zVC) (zk ⟨zct.nodr,zQj,zB6.nodr,trivial⟩) call22 func22 (lOK aN) (sg:=⟨[.own 28],[]⟩)
def zOr:=zbr base 11 [(20,zcn),(21,zli),(69,ztv)]
def zDS (a:yC):Wy0 (Bool):=.bn (zca a) λr2=>.i (r2) (.bn (zk3 a) λr1=>.bn (zgY r1 a) λr0=>.k r0) (.k false)
def zlk (a:yC):=(zDS a).fin default
def zAd:=zi zZm λx=>((zlk x.1).1,zYq (zlk x.1).2)
theorem zKl:SdP 32 zAd:=
 sT (cx':=zOr) (zk ⟨zct,zn7,zB6,trivial⟩) call32 func32 (lOK aN)
def zLv:=zbr base 7 [(14,zm7)]
def zM9 (u:Term) (p1:Term):Wy0 (Bool):=.bn (zgO u p1) λr0=>.k r0
def ztt (u:Term) (p1:Term):=(zM9 u p1).fin default
def zNQ:AL base (Term×Term×Unit):=ze (zf (zcK 28)) (ze (zf (zBn 28)) zu)
def zjn:=zi zNQ λx=>((ztt x.1 x.2.1).1,zYq (ztt x.1 x.2.1).2)
theorem zmU:SdP 61 zjn:=
 sT (cx':=zLv) (zk ⟨zsF,trivial⟩) call61 func61 (lOK aN)
abbrev zeC:=yC×(Term×Unit)×Int×Int×Unit
def zty (s:yC) (f:Term) (t7:Int) (t8:Int):Wy zeC Unit (Int⊕Unit):=.i (decide (t8<t7)) (.i (decide (0<=t8)&&decide (t8<Int.ofNat s.length)) (.bn (ztt (s.getD t8.toNat default) f) λr0=>.i (r0) (.k (.inl t8)) (.h (s,(f,()),t7,(IntKind.i64.wrap (t8+1)),()) ())) .d) (.k (.inr ()))
def zjL (x:zeC) (y:Unit):=zty x.1 x.2.1.1 x.2.2.1 x.2.2.2.1
def ztS (n:Nat) (s:yC) (f:Term) (t7:Int) (t8:Int):=zC (zjL) (.inl default) n (s,(f,()),t7,t8,()) ()
def ztB:LL ty zeC:=za (lSl 28) (za (lFn 61 (za (zoV (zf1 (λx=>(⟨x.1,x.2.1⟩:Term)) (λx=>(x.Cf,x.Fs,())) (λ_=>rfl) (za zj (za (lSl 69) zl))) 0) zl)) (za zj (za zj zl)))
def ztf (x:zeC) (y:Unit):Nat:=(x.1.length+x.2.1.1.Fs.length+Int.toNat x.2.2.1+Int.toNat x.2.2.2.1+1000)
def zjM:=zbV base 19 [(61,zjn)] [] [(2,(kpL [0,1,7,8]))] [(2,1,[]),(2,0,(kpL [4]))] [(2,spW ztB zba6 (zjL) (.inl default) ztL ztf)] []
theorem zti:zF zjM (lp (body f113) 0):=zq (id:=2) (hl:=rfl)
def zu0 (s:yC) (f:Term):Wy0 (Int):=.bn (ztS (s.length+f.Fs.length+(Int.ofNat s.length).toNat +Int.toNat 0+1000) s f (Int.ofNat s.length) 0) λr2=>.i (isL r2) (.k (getL r2)) (.k (-1:Int))
def zfX (s:yC) (f:Term):=(zu0 s f).fin default
def zu4:AL base (yC×(Term×Unit)×Unit):=ze (zf (vSl 28)) (ze (zf (vFn 61 (zdS (zBn 28) zb5))) zu)
def ziz:=zi zu4 λx=>((zfX x.1 x.2.1.1).1,zSM (zfX x.1 x.2.1.1).2)
theorem zrA:SdP 113 ziz:=
 sT (cx':=zjM) (zk ⟨zmU,trivial⟩) call113 func113 (lOK (aC zti aN))
def zrt:=zbr base 9 [(61,zjn),(113,ziz)]
def zrR (s:yC) (f:Term):Wy0 (Bool):=.bn (zfX s f) λr0=>.k (decide (r0≥0))
def zfi (s:yC) (f:Term):=(zrR s f).fin default
def zhD:=zi zu4 λx=>((zfi x.1 x.2.1.1).1,zYq (zfi x.1 x.2.1.1).2)
theorem zpO:SdP 59 zhD:=
 sT (cx':=zrt) (zk ⟨zmU,zrA,trivial⟩) call59 func59 (lOK aN)
def zQS:=zbr base 8 [(59,zhD),(61,zjn)]
def zSt (t:Term) (p1:yC):Wy0 (Bool):=.bn (zfi p1 t) λr0=>.k (!r0)
def zyR (t:Term) (p1:yC):=(zSt t p1).fin default
def zS2:AL base (Term×(yC×Unit)×Unit):=ze (zf (zcK 28)) (ze (zf (zvL (zdS (vSl 28) zb5))) zu)
def zlw:=zi zS2 λx=>((zyR x.1 x.2.1.1).1,zYq (zyR x.1 x.2.1.1).2)
theorem zpt:SdP 60 zlw:=
 sT (cx':=zQS) (zk ⟨zpO,zmU,trivial⟩) call60 func60 (lOK aN)
abbrev zeM:=yC×((yC×Unit)×Unit)×Int×Int×Unit
def zu3 (s:yC) (f:yC) (t7:Int) (t8:Int):Wy zeM Unit (Int⊕Unit):=.i (decide (t8<t7)) (.i (decide (0<=t8)&&decide (t8<Int.ofNat s.length)) (.bn (zyR (s.getD t8.toNat default) f) λr0=>.i (r0) (.k (.inl t8)) (.h (s,((f,()),()),t7,(IntKind.i64.wrap (t8+1)),()) ())) .d) (.k (.inr ()))
def zkd (x:zeM) (y:Unit):=zu3 x.1 x.2.1.1.1 x.2.2.1 x.2.2.2.1
def zu9 (n:Nat) (s:yC) (f:yC) (t7:Int) (t8:Int):=zC (zkd) (.inl default) n (s,((f,()),()),t7,t8,()) ()
def zve:LL ty zeM:=za (lSl 28) (za (lFn 60 (za (zoV (za (lSl 28) zl) 0) zl)) (za zj (za zj zl)))
def ztM (x:zeM) (y:Unit):Nat:=(x.1.length+x.2.1.1.1.length+Int.toNat x.2.2.1+Int.toNat x.2.2.2.1+1000)
def zkl:=zbV base 19 [(60,zlw)] [] [(2,(kpL [0,1,7,8]))] [(2,1,[]),(2,0,(kpL [4]))] [(2,spW zve zba6 (zkd) (.inl default) ztL ztM)] []
theorem ztX:zF zkl (lp (body f113) 0):=zq (id:=2) (hl:=rfl)
def zvD (s:yC) (f:yC):Wy0 (Int):=.bn (zu9 (s.length+f.length+(Int.ofNat s.length).toNat +Int.toNat 0+1000) s f (Int.ofNat s.length) 0) λr2=>.i (isL r2) (.k (getL r2)) (.k (-1:Int))
def zgl (s:yC) (f:yC):=(zvD s f).fin default
def zvl:AL base (yC×((yC×Unit)×Unit)×Unit):=ze (zf (vSl 28)) (ze (zf (vFn 60 (zdS (zvL (zdS (vSl 28) zb5)) zb5))) zu)
def zji:=zi zvl λx=>((zgl x.1 x.2.1.1.1).1,zSM (zgl x.1 x.2.1.1.1).2)
theorem zsr:SdP 113 zji:=
 sT (cx':=zkl) (zk ⟨zpt,trivial⟩) call113 func113 (lOK (aC ztX aN))
def zrV:=zbr base 9 [(60,zlw),(113,zji)]
def ztd (s:yC) (f:yC):Wy0 (Bool):=.bn (zgl s f) λr0=>.k (decide (r0≥0))
def zfq (s:yC) (f:yC):=(ztd s f).fin default
def zhU:=zi zvl λx=>((zfq x.1 x.2.1.1.1).1,zYq (zfq x.1 x.2.1.1.1).2)
theorem zp1:SdP 59 zhU:=
 sT (cx':=zrV) (zk ⟨zpt,zsr,trivial⟩) call59 func59 (lOK aN)
def zVe:=zbr base 17 [(20,zcn),(59,zhU),(60,zlw)]
def zYb (a:yC) (b:yC):Wy0 (Bool):=.bn (zca a) λr2=>.i (!r2) (.k false) (.bn (zca b) λr1=>.i (!r1) (.k false) (.bn (zfq a b) λr0=>.k (!r0)))
def zEj (a:yC) (b:yC):=(zYb a b).fin default
def zEH:=zi zWy λx=>((zEj x.1 x.2.1).1,zYq (zEj x.1 x.2.1).2)
theorem zQW:SdP 18 zEH:=
 sT (cx':=zVe) (zk ⟨zct,zp1,zpt,trivial⟩) call18 func18 (lOK aN)
end Go.Proofs.YtljlfiomikifjaaGreatDoor
end
