/- Texts of this claim, joined (the program, its functions in plain words, and what they compute). -/
import Derived.Test.YtoknknbmfmddbaaGreatDoorGC4
set_option autoImplicit false
set_option linter.unusedVariables false
set_option linter.unusedSectionVars false
set_option linter.unusedSimpArgs false
set_option maxRecDepth 1000000
set_option maxHeartbeats 0
noncomputable section
namespace Go.Proofs.YtoknknbmfmddbaaGreatDoor
open Go Go.Ab
open Go.Proofs.Tryz
abbrev zck:=Unit×Int×Unit×Int×Int×Unit
abbrev zN:=yF×Unit
abbrev zg2:=Int×Int×yF
abbrev zcj:=Unit×Int×Int×Unit
abbrev zg4:=Unit×Int×Int×Int×Unit×Int×Int×Int×Int×Int×Unit
abbrev zr9:=Int×Int×Int×Int×Int×Int×yF
def zja (zb:yF->Int->Int->Int->Bool×yF) (a:Int) (i:Int) (j:Int) (data:yF):Wy zck zN zg2:=.i (decide (i<j)) (.i (decide (0<=IntKind.i64.wrap ((IntKind.u64.wrap (IntKind.i64.wrap (i+j))).fdiv (2 ^ min (Int.toNat 1) IntKind.u64.bits)))&&decide (IntKind.i64.wrap ((IntKind.u64.wrap (IntKind.i64.wrap (i+j))).fdiv (2 ^ min (Int.toNat 1) IntKind.u64.bits))<Int.ofNat data.length)) (.i (decide (0<=a)&&decide (a<Int.ofNat data.length)) (.bn (zbV (data.getD (IntKind.i64.wrap ((IntKind.u64.wrap (IntKind.i64.wrap (i+j))).fdiv (2 ^ min (Int.toNat 1) IntKind.u64.bits))).toNat default) (data.getD a.toNat default)) λr0=>.i (decide (r0<0)) (.h ((),a,(),(IntKind.i64.wrap (IntKind.i64.wrap ((IntKind.u64.wrap (IntKind.i64.wrap (i+j))).fdiv (2 ^ min (Int.toNat 1) IntKind.u64.bits))+1)),j,()) (data,())) (.h ((),a,(),i,(IntKind.i64.wrap ((IntKind.u64.wrap (IntKind.i64.wrap (i+j))).fdiv (2 ^ min (Int.toNat 1) IntKind.u64.bits))),()) (data,()))) .d) .d) (.k (a,i,data))
def zn6 (zb:yF->Int->Int->Int->Bool×yF) (x:zck) (y:zN):=zja zb x.2.1 x.2.2.2.1 x.2.2.2.2.1 y.1
def zi7 (zb:yF->Int->Int->Int->Bool×yF) (n:Nat) (a:Int) (i:Int) (j:Int) (data:yF):=zA (zn6 zb) default n ((),a,(),i,j,()) (data,())
def zyl (r:zg2):LTree ty:=.done (.exit 0) [.own 880,.lit (.int .i64 r.1),.lit (.int .i64 r.2.1)] [.arr 54 r.2.2 false]
def zzr:LL ty zck:=za (zeZ 880) (za zj (za (lFn 53 (zr)) (za zj (za zj zr))))
def zzj:BL ty zN:=ze2 54 false (zbD)
def zjh (zb:yF->Int->Int->Int->Bool×yF) (i:Int) (k:Int) (data:yF):Wy zcj zN (yF):=.i (decide (k<IntKind.i64.wrap (i - 1))) (.i (decide (0<=IntKind.i64.wrap (k+1))&&decide (IntKind.i64.wrap (k+1)<Int.ofNat data.length)) (.i (decide (0<=k)&&decide (k<Int.ofNat data.length)) (.i (decide (0<=k)&&decide (k<Int.ofNat data.length)) (.i (decide (k.toNat<data.length)) (.i (decide (0<=IntKind.i64.wrap (k+1))&&decide (IntKind.i64.wrap (k+1)<Int.ofNat (data.set k.toNat (data.getD (IntKind.i64.wrap (k+1)).toNat default)).length)) (.i (decide ((IntKind.i64.wrap (k+1)).toNat<(data.set k.toNat (data.getD (IntKind.i64.wrap (k+1)).toNat default)).length)) (.h ((),i,(IntKind.i64.wrap (k+1)),()) (((data.set k.toNat (data.getD (IntKind.i64.wrap (k+1)).toNat default)).set (IntKind.i64.wrap (k+1)).toNat (data.getD k.toNat default)),())) .d) .d) .d) .d) .d) .d) (.k data)
def zob (zb:yF->Int->Int->Int->Bool×yF) (x:zcj) (y:zN):=zjh zb x.2.1 x.2.2.1 y.1
def zfr (zb:yF->Int->Int->Int->Bool×yF) (n:Nat) (i:Int) (k:Int) (data:yF):=zA (zob zb) default n ((),i,k,()) (data,())
def zzb (r:yF):LTree ty:=.done (.exit 2) [.own 880] [.arr 54 r false]
def zzp:LL ty zcj:=za (zeZ 880) (za zj (za zj zr))
def ziL (zb:yF->Int->Int->Int->Bool×yF) (m:Int) (i:Int) (j:Int) (data:yF):Wy zck zN zg2:=.i (decide (i<j)) (.i (decide (0<=m)&&decide (m<Int.ofNat data.length)) (.i (decide (0<=IntKind.i64.wrap ((IntKind.u64.wrap (IntKind.i64.wrap (i+j))).fdiv (2 ^ min (Int.toNat 1) IntKind.u64.bits)))&&decide (IntKind.i64.wrap ((IntKind.u64.wrap (IntKind.i64.wrap (i+j))).fdiv (2 ^ min (Int.toNat 1) IntKind.u64.bits))<Int.ofNat data.length)) (.bn (zbV (data.getD m.toNat default) (data.getD (IntKind.i64.wrap ((IntKind.u64.wrap (IntKind.i64.wrap (i+j))).fdiv (2 ^ min (Int.toNat 1) IntKind.u64.bits))).toNat default)) λr2=>.i (!decide (r2<0)) (.h ((),m,(),(IntKind.i64.wrap (IntKind.i64.wrap ((IntKind.u64.wrap (IntKind.i64.wrap (i+j))).fdiv (2 ^ min (Int.toNat 1) IntKind.u64.bits))+1)),j,()) (data,())) (.h ((),m,(),i,(IntKind.i64.wrap ((IntKind.u64.wrap (IntKind.i64.wrap (i+j))).fdiv (2 ^ min (Int.toNat 1) IntKind.u64.bits))),()) (data,()))) .d) .d) (.k (m,i,data))
def zny (zb:yF->Int->Int->Int->Bool×yF) (x:zck) (y:zN):=ziL zb x.2.1 x.2.2.2.1 x.2.2.2.2.1 y.1
def zis (zb:yF->Int->Int->Int->Bool×yF) (n:Nat) (m:Int) (i:Int) (j:Int) (data:yF):=zA (zny zb) default n ((),m,(),i,j,()) (data,())
def zx6 (r:zg2):LTree ty:=.done (.exit 4) [.own 880,.lit (.int .i64 r.1),.lit (.int .i64 r.2.1)] [.arr 54 r.2.2 false]
def ziv (zb:yF->Int->Int->Int->Bool×yF) (i:Int) (k:Int) (data:yF):Wy zcj zN (yF):=.i (decide (k>i)) (.i (decide (0<=IntKind.i64.wrap (k - 1))&&decide (IntKind.i64.wrap (k - 1)<Int.ofNat data.length)) (.i (decide (0<=k)&&decide (k<Int.ofNat data.length)) (.i (decide (0<=k)&&decide (k<Int.ofNat data.length)) (.i (decide (k.toNat<data.length)) (.i (decide (0<=IntKind.i64.wrap (k - 1))&&decide (IntKind.i64.wrap (k - 1)<Int.ofNat (data.set k.toNat (data.getD (IntKind.i64.wrap (k - 1)).toNat default)).length)) (.i (decide ((IntKind.i64.wrap (k - 1)).toNat<(data.set k.toNat (data.getD (IntKind.i64.wrap (k - 1)).toNat default)).length)) (.h ((),i,(IntKind.i64.wrap (k - 1)),()) (((data.set k.toNat (data.getD (IntKind.i64.wrap (k - 1)).toNat default)).set (IntKind.i64.wrap (k - 1)).toNat (data.getD k.toNat default)),())) .d) .d) .d) .d) .d) .d) (.k data)
def znl (zb:yF->Int->Int->Int->Bool×yF) (x:zcj) (y:zN):=ziv zb x.2.1 x.2.2.1 y.1
def zfd (zb:yF->Int->Int->Int->Bool×yF) (n:Nat) (i:Int) (k:Int) (data:yF):=zA (znl zb) default n ((),i,k,()) (data,())
def zx0 (r:yF):LTree ty:=.done (.exit 6) [.own 880] [.arr 54 r false]
def ziG (zb:yF->Int->Int->Int->Bool×yF) (a:Int) (m:Int) (b:Int) (mid:Int) (n_:Int) (start:Int) (r:Int) (p:Int) (data:yF):Wy zg4 zN zr9:=.i (decide (start<r)) (.i (decide (0<=IntKind.i64.wrap (p - IntKind.i64.wrap ((IntKind.u64.wrap (IntKind.i64.wrap (start+r))).fdiv (2 ^ min (Int.toNat 1) IntKind.u64.bits))))&&decide (IntKind.i64.wrap (p - IntKind.i64.wrap ((IntKind.u64.wrap (IntKind.i64.wrap (start+r))).fdiv (2 ^ min (Int.toNat 1) IntKind.u64.bits)))<Int.ofNat data.length)) (.i (decide (0<=IntKind.i64.wrap ((IntKind.u64.wrap (IntKind.i64.wrap (start+r))).fdiv (2 ^ min (Int.toNat 1) IntKind.u64.bits)))&&decide (IntKind.i64.wrap ((IntKind.u64.wrap (IntKind.i64.wrap (start+r))).fdiv (2 ^ min (Int.toNat 1) IntKind.u64.bits))<Int.ofNat data.length)) (.bn (zbV (data.getD (IntKind.i64.wrap (p - IntKind.i64.wrap ((IntKind.u64.wrap (IntKind.i64.wrap (start+r))).fdiv (2 ^ min (Int.toNat 1) IntKind.u64.bits)))).toNat default) (data.getD (IntKind.i64.wrap ((IntKind.u64.wrap (IntKind.i64.wrap (start+r))).fdiv (2 ^ min (Int.toNat 1) IntKind.u64.bits))).toNat default)) λr4=>.i (!decide (r4<0)) (.h ((),a,m,b,(),mid,n_,(IntKind.i64.wrap (IntKind.i64.wrap ((IntKind.u64.wrap (IntKind.i64.wrap (start+r))).fdiv (2 ^ min (Int.toNat 1) IntKind.u64.bits))+1)),r,p,()) (data,())) (.h ((),a,m,b,(),mid,n_,start,(IntKind.i64.wrap ((IntKind.u64.wrap (IntKind.i64.wrap (start+r))).fdiv (2 ^ min (Int.toNat 1) IntKind.u64.bits))),p,()) (data,()))) .d) .d) (.k (a,m,b,mid,n_,start,data))
def znu (zb:yF->Int->Int->Int->Bool×yF) (x:zg4) (y:zN):=ziG zb x.2.1 x.2.2.1 x.2.2.2.1 x.2.2.2.2.2.1 x.2.2.2.2.2.2.1 x.2.2.2.2.2.2.2.1 x.2.2.2.2.2.2.2.2.1 x.2.2.2.2.2.2.2.2.2.1 y.1
def zfb (zb:yF->Int->Int->Int->Bool×yF) (n:Nat) (a:Int) (m:Int) (b:Int) (mid:Int) (n_:Int) (start:Int) (r:Int) (p:Int) (data:yF):=zA (znu zb) default n ((),a,m,b,(),mid,n_,start,r,p,()) (data,())
def zx8 (r:zr9):LTree ty:=.done (.exit 8) [.own 880,.lit (.int .i64 r.1),.lit (.int .i64 r.2.1),.lit (.int .i64 r.2.2.1),.fn 53 ([]),.lit (.int .i64 r.2.2.2.1),.lit (.int .i64 r.2.2.2.2.1),.lit (.int .i64 r.2.2.2.2.2.1)] [.arr 54 r.2.2.2.2.2.2 false]
def zyG:LL ty zg4:=za (zeZ 880) (za zj (za zj (za zj (za (lFn 53 (zr)) (za zj (za zj (za zj (za zj (za zj zr)))))))))
def zzd (x:zck) (y:zN):Nat:=(Int.toNat x.2.1+Int.toNat x.2.2.2.1+Int.toNat x.2.2.2.2.1+y.1.length+1000)
def zy8 (x:zcj) (y:zN):Nat:=(Int.toNat x.2.1+Int.toNat x.2.2.1+y.1.length+1000)
def zx2 (x:zg4) (y:zN):Nat:=(Int.toNat x.2.1+Int.toNat x.2.2.1+Int.toNat x.2.2.2.1+Int.toNat x.2.2.2.2.2.1+Int.toNat x.2.2.2.2.2.2.1+Int.toNat x.2.2.2.2.2.2.2.1+Int.toNat x.2.2.2.2.2.2.2.2.1+Int.toNat x.2.2.2.2.2.2.2.2.2.1+y.1.length+1000)
def zcV (zb:yF->Int->Int->Int->Bool×yF):=zc6 base 220 [(53,zdf),(191,(zeI zb)),(230,zql)] [(191,[true,false,false,false,false]),(230,[true,false,false,false,false])] [(3,(kpL [0,1,4,10,11])),(9,(kpL [0,10,13])),(15,(kpL [0,2,4,14,15])),(21,(kpL [0,14,17])),(33,(kpL [0,1,2,3,4,18,19,20,21,22]))] [(3,1,(kpL [0,1,10])),(9,3,(kpL [0])),(15,5,(kpL [0,2,14])),(21,7,(kpL [0])),(33,9,(kpL [0,1,2,3,4,18,19,20]))] [(3,spW zzr zzj (zn6 zb) default zyl zzd),(9,spW zzp zzj (zob zb) default zzb zy8),(15,spW zzr zzj (zny zb) default zx6 zzd),(21,spW zzp zzj (znl zb) default zx0 zy8),(33,spW zyG zzj (znu zb) default zx8 zx2)] []
theorem zyS (zb:yF->Int->Int->Int->Bool×yF):zS (zcV zb) (lp (body f191) 0):=zI (id:=3) (hl:=rfl)
theorem zyu (zb:yF->Int->Int->Int->Bool×yF):zS (zcV zb) (lp (body f191) 1):=zI (id:=9) (hl:=rfl)
theorem zyc (zb:yF->Int->Int->Int->Bool×yF):zS (zcV zb) (lp (body f191) 2):=zI (id:=15) (hl:=rfl)
theorem zyd (zb:yF->Int->Int->Int->Bool×yF):zS (zcV zb) (lp (body f191) 3):=zI (id:=21) (hl:=rfl)
theorem zx9 (zb:yF->Int->Int->Int->Bool×yF):zS (zcV zb) (lp (body f191) 4):=zI (id:=33) (hl:=rfl)
def zpf (zb:yF->Int->Int->Int->Bool×yF) (data:yF) (a:Int) (m:Int) (b:Int):Wy0 (yF):=.i (IntKind.i64.wrap (m - a)==1) (.bn (zi7 zb (a.toNat +m.toNat +b.toNat +data.length+1000) a m b data) λr7=>.bn (zfr zb (r7.2.1.toNat +r7.1.toNat +r7.2.2.length+1000) r7.2.1 r7.1 r7.2.2) λr6=>.k r6) (.i (IntKind.i64.wrap (b - m)==1) (.bn (zis zb (m.toNat +a.toNat +m.toNat +data.length+1000) m a m data) λr9=>.bn (zfd zb (r9.2.1.toNat +r9.1.toNat +r9.2.2.length+1000) r9.2.1 r9.1 r9.2.2) λr8=>.k r8) (.i (decide (m>IntKind.i64.wrap ((IntKind.u64.wrap (IntKind.i64.wrap (a+b))).fdiv (2 ^ min (Int.toNat 1) IntKind.u64.bits)))) (.bn (zfb zb (a.toNat +m.toNat +b.toNat +(IntKind.i64.wrap ((IntKind.u64.wrap (IntKind.i64.wrap (a+b))).fdiv (2 ^ min (Int.toNat 1) IntKind.u64.bits))).toNat +(IntKind.i64.wrap (IntKind.i64.wrap ((IntKind.u64.wrap (IntKind.i64.wrap (a+b))).fdiv (2 ^ min (Int.toNat 1) IntKind.u64.bits))+m)).toNat +(IntKind.i64.wrap (IntKind.i64.wrap (IntKind.i64.wrap ((IntKind.u64.wrap (IntKind.i64.wrap (a+b))).fdiv (2 ^ min (Int.toNat 1) IntKind.u64.bits))+m) - b)).toNat +(IntKind.i64.wrap ((IntKind.u64.wrap (IntKind.i64.wrap (a+b))).fdiv (2 ^ min (Int.toNat 1) IntKind.u64.bits))).toNat +(IntKind.i64.wrap (IntKind.i64.wrap (IntKind.i64.wrap ((IntKind.u64.wrap (IntKind.i64.wrap (a+b))).fdiv (2 ^ min (Int.toNat 1) IntKind.u64.bits))+m) - 1)).toNat +data.length+1000) a m b (IntKind.i64.wrap ((IntKind.u64.wrap (IntKind.i64.wrap (a+b))).fdiv (2 ^ min (Int.toNat 1) IntKind.u64.bits))) (IntKind.i64.wrap (IntKind.i64.wrap ((IntKind.u64.wrap (IntKind.i64.wrap (a+b))).fdiv (2 ^ min (Int.toNat 1) IntKind.u64.bits))+m)) (IntKind.i64.wrap (IntKind.i64.wrap (IntKind.i64.wrap ((IntKind.u64.wrap (IntKind.i64.wrap (a+b))).fdiv (2 ^ min (Int.toNat 1) IntKind.u64.bits))+m) - b)) (IntKind.i64.wrap ((IntKind.u64.wrap (IntKind.i64.wrap (a+b))).fdiv (2 ^ min (Int.toNat 1) IntKind.u64.bits))) (IntKind.i64.wrap (IntKind.i64.wrap (IntKind.i64.wrap ((IntKind.u64.wrap (IntKind.i64.wrap (a+b))).fdiv (2 ^ min (Int.toNat 1) IntKind.u64.bits))+m) - 1)) data) λr23=>.i (decide (r23.2.2.2.2.2.1<r23.2.1)) (.i (decide (r23.2.1<IntKind.i64.wrap (r23.2.2.2.2.1 - r23.2.2.2.2.2.1))) (.bn (zdD r23.2.2.2.2.2.2 r23.2.2.2.2.2.1 r23.2.1 (IntKind.i64.wrap (r23.2.2.2.2.1 - r23.2.2.2.2.2.1))) λr14=>.i (decide (r23.1<r23.2.2.2.2.2.1)) (.i (decide (r23.2.2.2.2.2.1<r23.2.2.2.1)) (.bn (zb r14 r23.1 r23.2.2.2.2.2.1 r23.2.2.2.1) λr11=>.i (decide (r23.2.2.2.1<IntKind.i64.wrap (r23.2.2.2.2.1 - r23.2.2.2.2.2.1))) (.i (decide (IntKind.i64.wrap (r23.2.2.2.2.1 - r23.2.2.2.2.2.1)<r23.2.2.1)) (.bn (zb r11 r23.2.2.2.1 (IntKind.i64.wrap (r23.2.2.2.2.1 - r23.2.2.2.2.2.1)) r23.2.2.1) λr10=>.k r10) (.k r11)) (.k r11)) (.i (decide (r23.2.2.2.1<IntKind.i64.wrap (r23.2.2.2.2.1 - r23.2.2.2.2.2.1))) (.i (decide (IntKind.i64.wrap (r23.2.2.2.2.1 - r23.2.2.2.2.2.1)<r23.2.2.1)) (.bn (zb r14 r23.2.2.2.1 (IntKind.i64.wrap (r23.2.2.2.2.1 - r23.2.2.2.2.2.1)) r23.2.2.1) λr12=>.k r12) (.k r14)) (.k r14))) (.i (decide (r23.2.2.2.1<IntKind.i64.wrap (r23.2.2.2.2.1 - r23.2.2.2.2.2.1))) (.i (decide (IntKind.i64.wrap (r23.2.2.2.2.1 - r23.2.2.2.2.2.1)<r23.2.2.1)) (.bn (zb r14 r23.2.2.2.1 (IntKind.i64.wrap (r23.2.2.2.2.1 - r23.2.2.2.2.2.1)) r23.2.2.1) λr13=>.k r13) (.k r14)) (.k r14))) (.i (decide (r23.1<r23.2.2.2.2.2.1)) (.i (decide (r23.2.2.2.2.2.1<r23.2.2.2.1)) (.bn (zb r23.2.2.2.2.2.2 r23.1 r23.2.2.2.2.2.1 r23.2.2.2.1) λr16=>.i (decide (r23.2.2.2.1<IntKind.i64.wrap (r23.2.2.2.2.1 - r23.2.2.2.2.2.1))) (.i (decide (IntKind.i64.wrap (r23.2.2.2.2.1 - r23.2.2.2.2.2.1)<r23.2.2.1)) (.bn (zb r16 r23.2.2.2.1 (IntKind.i64.wrap (r23.2.2.2.2.1 - r23.2.2.2.2.2.1)) r23.2.2.1) λr15=>.k r15) (.k r16)) (.k r16)) (.i (decide (r23.2.2.2.1<IntKind.i64.wrap (r23.2.2.2.2.1 - r23.2.2.2.2.2.1))) (.i (decide (IntKind.i64.wrap (r23.2.2.2.2.1 - r23.2.2.2.2.2.1)<r23.2.2.1)) (.bn (zb r23.2.2.2.2.2.2 r23.2.2.2.1 (IntKind.i64.wrap (r23.2.2.2.2.1 - r23.2.2.2.2.2.1)) r23.2.2.1) λr17=>.k r17) (.k r23.2.2.2.2.2.2)) (.k r23.2.2.2.2.2.2))) (.i (decide (r23.2.2.2.1<IntKind.i64.wrap (r23.2.2.2.2.1 - r23.2.2.2.2.2.1))) (.i (decide (IntKind.i64.wrap (r23.2.2.2.2.1 - r23.2.2.2.2.2.1)<r23.2.2.1)) (.bn (zb r23.2.2.2.2.2.2 r23.2.2.2.1 (IntKind.i64.wrap (r23.2.2.2.2.1 - r23.2.2.2.2.2.1)) r23.2.2.1) λr18=>.k r18) (.k r23.2.2.2.2.2.2)) (.k r23.2.2.2.2.2.2)))) (.i (decide (r23.1<r23.2.2.2.2.2.1)) (.i (decide (r23.2.2.2.2.2.1<r23.2.2.2.1)) (.bn (zb r23.2.2.2.2.2.2 r23.1 r23.2.2.2.2.2.1 r23.2.2.2.1) λr20=>.i (decide (r23.2.2.2.1<IntKind.i64.wrap (r23.2.2.2.2.1 - r23.2.2.2.2.2.1))) (.i (decide (IntKind.i64.wrap (r23.2.2.2.2.1 - r23.2.2.2.2.2.1)<r23.2.2.1)) (.bn (zb r20 r23.2.2.2.1 (IntKind.i64.wrap (r23.2.2.2.2.1 - r23.2.2.2.2.2.1)) r23.2.2.1) λr19=>.k r19) (.k r20)) (.k r20)) (.i (decide (r23.2.2.2.1<IntKind.i64.wrap (r23.2.2.2.2.1 - r23.2.2.2.2.2.1))) (.i (decide (IntKind.i64.wrap (r23.2.2.2.2.1 - r23.2.2.2.2.2.1)<r23.2.2.1)) (.bn (zb r23.2.2.2.2.2.2 r23.2.2.2.1 (IntKind.i64.wrap (r23.2.2.2.2.1 - r23.2.2.2.2.2.1)) r23.2.2.1) λr21=>.k r21) (.k r23.2.2.2.2.2.2)) (.k r23.2.2.2.2.2.2))) (.i (decide (r23.2.2.2.1<IntKind.i64.wrap (r23.2.2.2.2.1 - r23.2.2.2.2.2.1))) (.i (decide (IntKind.i64.wrap (r23.2.2.2.2.1 - r23.2.2.2.2.2.1)<r23.2.2.1)) (.bn (zb r23.2.2.2.2.2.2 r23.2.2.2.1 (IntKind.i64.wrap (r23.2.2.2.2.1 - r23.2.2.2.2.2.1)) r23.2.2.1) λr22=>.k r22) (.k r23.2.2.2.2.2.2)) (.k r23.2.2.2.2.2.2)))) (.bn (zfb zb (a.toNat +m.toNat +b.toNat +(IntKind.i64.wrap ((IntKind.u64.wrap (IntKind.i64.wrap (a+b))).fdiv (2 ^ min (Int.toNat 1) IntKind.u64.bits))).toNat +(IntKind.i64.wrap (IntKind.i64.wrap ((IntKind.u64.wrap (IntKind.i64.wrap (a+b))).fdiv (2 ^ min (Int.toNat 1) IntKind.u64.bits))+m)).toNat +a.toNat +m.toNat +(IntKind.i64.wrap (IntKind.i64.wrap (IntKind.i64.wrap ((IntKind.u64.wrap (IntKind.i64.wrap (a+b))).fdiv (2 ^ min (Int.toNat 1) IntKind.u64.bits))+m) - 1)).toNat +data.length+1000) a m b (IntKind.i64.wrap ((IntKind.u64.wrap (IntKind.i64.wrap (a+b))).fdiv (2 ^ min (Int.toNat 1) IntKind.u64.bits))) (IntKind.i64.wrap (IntKind.i64.wrap ((IntKind.u64.wrap (IntKind.i64.wrap (a+b))).fdiv (2 ^ min (Int.toNat 1) IntKind.u64.bits))+m)) a m (IntKind.i64.wrap (IntKind.i64.wrap (IntKind.i64.wrap ((IntKind.u64.wrap (IntKind.i64.wrap (a+b))).fdiv (2 ^ min (Int.toNat 1) IntKind.u64.bits))+m) - 1)) data) λr37=>.i (decide (r37.2.2.2.2.2.1<r37.2.1)) (.i (decide (r37.2.1<IntKind.i64.wrap (r37.2.2.2.2.1 - r37.2.2.2.2.2.1))) (.bn (zdD r37.2.2.2.2.2.2 r37.2.2.2.2.2.1 r37.2.1 (IntKind.i64.wrap (r37.2.2.2.2.1 - r37.2.2.2.2.2.1))) λr28=>.i (decide (r37.1<r37.2.2.2.2.2.1)) (.i (decide (r37.2.2.2.2.2.1<r37.2.2.2.1)) (.bn (zb r28 r37.1 r37.2.2.2.2.2.1 r37.2.2.2.1) λr25=>.i (decide (r37.2.2.2.1<IntKind.i64.wrap (r37.2.2.2.2.1 - r37.2.2.2.2.2.1))) (.i (decide (IntKind.i64.wrap (r37.2.2.2.2.1 - r37.2.2.2.2.2.1)<r37.2.2.1)) (.bn (zb r25 r37.2.2.2.1 (IntKind.i64.wrap (r37.2.2.2.2.1 - r37.2.2.2.2.2.1)) r37.2.2.1) λr24=>.k r24) (.k r25)) (.k r25)) (.i (decide (r37.2.2.2.1<IntKind.i64.wrap (r37.2.2.2.2.1 - r37.2.2.2.2.2.1))) (.i (decide (IntKind.i64.wrap (r37.2.2.2.2.1 - r37.2.2.2.2.2.1)<r37.2.2.1)) (.bn (zb r28 r37.2.2.2.1 (IntKind.i64.wrap (r37.2.2.2.2.1 - r37.2.2.2.2.2.1)) r37.2.2.1) λr26=>.k r26) (.k r28)) (.k r28))) (.i (decide (r37.2.2.2.1<IntKind.i64.wrap (r37.2.2.2.2.1 - r37.2.2.2.2.2.1))) (.i (decide (IntKind.i64.wrap (r37.2.2.2.2.1 - r37.2.2.2.2.2.1)<r37.2.2.1)) (.bn (zb r28 r37.2.2.2.1 (IntKind.i64.wrap (r37.2.2.2.2.1 - r37.2.2.2.2.2.1)) r37.2.2.1) λr27=>.k r27) (.k r28)) (.k r28))) (.i (decide (r37.1<r37.2.2.2.2.2.1)) (.i (decide (r37.2.2.2.2.2.1<r37.2.2.2.1)) (.bn (zb r37.2.2.2.2.2.2 r37.1 r37.2.2.2.2.2.1 r37.2.2.2.1) λr30=>.i (decide (r37.2.2.2.1<IntKind.i64.wrap (r37.2.2.2.2.1 - r37.2.2.2.2.2.1))) (.i (decide (IntKind.i64.wrap (r37.2.2.2.2.1 - r37.2.2.2.2.2.1)<r37.2.2.1)) (.bn (zb r30 r37.2.2.2.1 (IntKind.i64.wrap (r37.2.2.2.2.1 - r37.2.2.2.2.2.1)) r37.2.2.1) λr29=>.k r29) (.k r30)) (.k r30)) (.i (decide (r37.2.2.2.1<IntKind.i64.wrap (r37.2.2.2.2.1 - r37.2.2.2.2.2.1))) (.i (decide (IntKind.i64.wrap (r37.2.2.2.2.1 - r37.2.2.2.2.2.1)<r37.2.2.1)) (.bn (zb r37.2.2.2.2.2.2 r37.2.2.2.1 (IntKind.i64.wrap (r37.2.2.2.2.1 - r37.2.2.2.2.2.1)) r37.2.2.1) λr31=>.k r31) (.k r37.2.2.2.2.2.2)) (.k r37.2.2.2.2.2.2))) (.i (decide (r37.2.2.2.1<IntKind.i64.wrap (r37.2.2.2.2.1 - r37.2.2.2.2.2.1))) (.i (decide (IntKind.i64.wrap (r37.2.2.2.2.1 - r37.2.2.2.2.2.1)<r37.2.2.1)) (.bn (zb r37.2.2.2.2.2.2 r37.2.2.2.1 (IntKind.i64.wrap (r37.2.2.2.2.1 - r37.2.2.2.2.2.1)) r37.2.2.1) λr32=>.k r32) (.k r37.2.2.2.2.2.2)) (.k r37.2.2.2.2.2.2)))) (.i (decide (r37.1<r37.2.2.2.2.2.1)) (.i (decide (r37.2.2.2.2.2.1<r37.2.2.2.1)) (.bn (zb r37.2.2.2.2.2.2 r37.1 r37.2.2.2.2.2.1 r37.2.2.2.1) λr34=>.i (decide (r37.2.2.2.1<IntKind.i64.wrap (r37.2.2.2.2.1 - r37.2.2.2.2.2.1))) (.i (decide (IntKind.i64.wrap (r37.2.2.2.2.1 - r37.2.2.2.2.2.1)<r37.2.2.1)) (.bn (zb r34 r37.2.2.2.1 (IntKind.i64.wrap (r37.2.2.2.2.1 - r37.2.2.2.2.2.1)) r37.2.2.1) λr33=>.k r33) (.k r34)) (.k r34)) (.i (decide (r37.2.2.2.1<IntKind.i64.wrap (r37.2.2.2.2.1 - r37.2.2.2.2.2.1))) (.i (decide (IntKind.i64.wrap (r37.2.2.2.2.1 - r37.2.2.2.2.2.1)<r37.2.2.1)) (.bn (zb r37.2.2.2.2.2.2 r37.2.2.2.1 (IntKind.i64.wrap (r37.2.2.2.2.1 - r37.2.2.2.2.2.1)) r37.2.2.1) λr35=>.k r35) (.k r37.2.2.2.2.2.2)) (.k r37.2.2.2.2.2.2))) (.i (decide (r37.2.2.2.1<IntKind.i64.wrap (r37.2.2.2.2.1 - r37.2.2.2.2.2.1))) (.i (decide (IntKind.i64.wrap (r37.2.2.2.2.1 - r37.2.2.2.2.2.1)<r37.2.2.1)) (.bn (zb r37.2.2.2.2.2.2 r37.2.2.2.1 (IntKind.i64.wrap (r37.2.2.2.2.1 - r37.2.2.2.2.2.1)) r37.2.2.1) λr36=>.k r36) (.k r37.2.2.2.2.2.2)) (.k r37.2.2.2.2.2.2))))))
def zeH (zb:yF->Int->Int->Int->Bool×yF) (data:yF) (a:Int) (m:Int) (b:Int):=(zpf zb data a m b).fin default
theorem zxr (zb:yF->Int->Int->Int->Bool×yF) (zAD:SdP 191 (zeI zb)):SdP 191 (zeI (zeH zb)):=
 sT (cx':=(zcV zb)) (zm ⟨zdN,zAD,zAg,trivial⟩) call191 func191 (lOK (aC (zyS zb) (aC (zyu zb) (aC (zyc zb) (aC (zyd zb) (aC (zx9 zb) aN)))))) (sg:=⟨[],[true]⟩)
def zTU:Nat->(yF->Int->Int->Int->Bool×yF)
 | 0=>λ_ _ _ _=>(false,default)
 | n+1=>zeH (zTU n)
def zeK (n:Nat):yF->Int->Int->Int->Bool×yF:=zTU n
theorem zzD (n:Nat):zeK (n+1)=zeH (zeK n):=rfl
theorem zOC:∀ n,SdP 191 (zeI (zeK n))
 | 0=>zbQ call191 (λ_=>rfl)
 | n+1=>by
  have ih:=zOC n;exact zxr _ (ih)
def zhS:yF->Int->Int->Int->Bool×yF:=zeK 1000
def zof:Ab.Spec ty:=zeI zhS
theorem zyZ:SdP 191 zof:=(zOC 1000)
abbrev ze7:=Unit×Int×Int×Unit×Int×Int×Unit
abbrev zbT:=yF×Unit
abbrev zm7:=Int×Int×Int×yF
abbrev zfc:=Unit×Int×Int×Unit×Int×Unit
def zhG (a:Int) (b:Int) (i:Int) (j:Int) (data:yF):Wy ze7 zbT zm7:=.i (decide (j>a)) (.i (decide (0<=j)&&decide (j<Int.ofNat data.length)) (.i (decide (0<=IntKind.i64.wrap (j - 1))&&decide (IntKind.i64.wrap (j - 1)<Int.ofNat data.length)) (.bn (zbV (data.getD j.toNat default) (data.getD (IntKind.i64.wrap (j - 1)).toNat default)) λr0=>.i (decide (r0<0)) (.i (decide (0<=IntKind.i64.wrap (j - 1))&&decide (IntKind.i64.wrap (j - 1)<Int.ofNat data.length)) (.i (decide (0<=j)&&decide (j<Int.ofNat data.length)) (.i (decide (0<=j)&&decide (j<Int.ofNat data.length)) (.i (decide (j.toNat<data.length)) (.i (decide (0<=IntKind.i64.wrap (j - 1))&&decide (IntKind.i64.wrap (j - 1)<Int.ofNat (data.set j.toNat (data.getD (IntKind.i64.wrap (j - 1)).toNat default)).length)) (.i (decide ((IntKind.i64.wrap (j - 1)).toNat<(data.set j.toNat (data.getD (IntKind.i64.wrap (j - 1)).toNat default)).length)) (.h ((),a,b,(),i,(IntKind.i64.wrap (j - 1)),()) (((data.set j.toNat (data.getD (IntKind.i64.wrap (j - 1)).toNat default)).set (IntKind.i64.wrap (j - 1)).toNat (data.getD j.toNat default)),())) .d) .d) .d) .d) .d) .d) (.k (a,b,i,data))) .d) .d) (.k (a,b,i,data))
def zmo (x:ze7) (y:zbT):=zhG x.2.1 x.2.2.1 x.2.2.2.2.1 x.2.2.2.2.2.1 y.1
def zhE (n:Nat) (a:Int) (b:Int) (i:Int) (j:Int) (data:yF):=zA (zmo) default n ((),a,b,(),i,j,()) (data,())
def zwR (r:zm7):LTree ty:=.done (.exit 2) [.own 212,.lit (.int .i64 r.1),.lit (.int .i64 r.2.1),.fn 53 ([]),.lit (.int .i64 r.2.2.1)] [.arr 54 r.2.2.2 false]
def zxE:LL ty ze7:=za (zeZ 212) (za zj (za zj (za (lFn 53 (zr)) (za zj (za zj zr)))))
def zxh:BL ty zbT:=ze2 54 false (zbD)
def zdn (a:Int) (b:Int) (i:Int) (data:yF):Wy zfc zbT (yF):=.i (decide (i<b)) (.bn (zhE (a.toNat +b.toNat +i.toNat +i.toNat +data.length+1000) a b i i data) λr2=>.h ((),(r2.1),(r2.2.1),(),(IntKind.i64.wrap (r2.2.2.1+1)),()) ((r2.2.2.2),())) (.k data)
def zmq (x:zfc) (y:zbT):=zdn x.2.1 x.2.2.1 x.2.2.2.2.1 y.1
def zdq (n:Nat) (a:Int) (b:Int) (i:Int) (data:yF):=zA (zmq) default n ((),a,b,(),i,()) (data,())
def zwY (r:yF):LTree ty:=.done (.exit 0) [.own 212] [.arr 54 r false]
def zxA:LL ty zfc:=za (zeZ 212) (za zj (za zj (za (lFn 53 (zr)) (za zj zr))))
def zwJ (x:ze7) (y:zbT):Nat:=(Int.toNat x.2.1+Int.toNat x.2.2.1+Int.toNat x.2.2.2.2.1+Int.toNat x.2.2.2.2.2.1+y.1.length+1000)
def zwr (x:zfc) (y:zbT):Nat:=(Int.toNat x.2.1+Int.toNat x.2.2.1+Int.toNat x.2.2.2.2.1+y.1.length+1000)
def zhB:=zc6 base 53 [(53,zdf)] [] [(1,(kpL [0,1,2,3,8])),(4,(kpL [0,1,2,3,8,9]))] [(1,1,(kpL [0])),(4,3,(kpL [0,1,2,3,8]))] [(4,spW zxE zxh (zmo) default zwR zwJ),(1,spW zxA zxh (zmq) default zwY zwr)] []
theorem zwW:zS zhB (lp (body f190) 1):=zI (id:=4) (hl:=rfl)
theorem zwL:zS zhB (lp (body f190) 0):=zI (id:=1) (hl:=rfl)
def zmN (data:yF) (a:Int) (b:Int):Wy0 (yF):=.bn (zdq (a.toNat +b.toNat +(IntKind.i64.wrap (a+1)).toNat +data.length+1000) a b (IntKind.i64.wrap (a+1)) data) λr4=>.k r4
def zcg (data:yF) (a:Int) (b:Int):=(zmN data a b).fin default
def zx3:AL base (yF×Int×Int×Unit×Unit):=zg (zpX 54) (zg (zh zhY) (zg (zh zhY) (zg (zh (vFn 53 zcX)) zC)))
def zlB:=zi zx3 λx=>((zcg x.1 x.2.1 x.2.2.1).1,zz8 (zcg x.1 x.2.1 x.2.2.1).2)
theorem zva:SdP 190 zlB:=
 sT (cx':=zhB) (zm ⟨zdN,trivial⟩) call190 func190 (lOK (aC zwL (aC zwW aN))) (sg:=⟨[],[true]⟩)
abbrev zcC:=Unit×Int×Unit×Int×Int×Int×Unit
abbrev zbs:=yF×Unit
abbrev zil:=Int×Int×Int×yF
abbrev zij:=Unit×Int×Unit×Int×Unit
def zeX (n_:Int) (blockSize:Int) (a:Int) (b:Int) (data:yF):Wy zcC zbs zil:=.i (decide (b<=n_)) (.bn (zcg data a b) λr0=>.h ((),n_,(),blockSize,b,(IntKind.i64.wrap (b+blockSize)),()) ((r0),())) (.k (n_,blockSize,a,data))
def zsb (x:zcC) (y:zbs):=zeX x.2.1 x.2.2.2.1 x.2.2.2.2.1 x.2.2.2.2.2.1 y.1
def zdP (n:Nat) (n_:Int) (blockSize:Int) (a:Int) (b:Int) (data:yF):=zA (zsb) default n ((),n_,(),blockSize,a,b,()) (data,())
def zBF (r:zil):LTree ty:=.done (.exit 0) [.own 252,.lit (.int .i64 r.1),.fn 53 ([]),.lit (.int .i64 r.2.1),.lit (.int .i64 r.2.2.1)] [.arr 54 r.2.2.2 false]
def zCv:LL ty zcC:=za (zeZ 252) (za zj (za (lFn 53 (zr)) (za zj (za zj (za zj zr)))))
def zCu:BL ty zbs:=ze2 54 false (zbD)
def zkZ (n_:Int) (blockSize:Int) (a:Int) (b:Int) (data:yF):Wy zcC zbs zil:=.i (decide (b<=n_)) (.bn (zhS data a (IntKind.i64.wrap (a+blockSize)) b) λr2=>.h ((),n_,(),blockSize,b,(IntKind.i64.wrap (b+IntKind.i64.wrap (2*blockSize))),()) ((r2),())) (.k (n_,blockSize,a,data))
def zsa (x:zcC) (y:zbs):=zkZ x.2.1 x.2.2.2.1 x.2.2.2.2.1 x.2.2.2.2.2.1 y.1
def zk1 (n:Nat) (n_:Int) (blockSize:Int) (a:Int) (b:Int) (data:yF):=zA (zsa) default n ((),n_,(),blockSize,a,b,()) (data,())
def zBw (r:zil):LTree ty:=.done (.exit 4) [.own 252,.lit (.int .i64 r.1),.fn 53 ([]),.lit (.int .i64 r.2.1),.lit (.int .i64 r.2.2.1)] [.arr 54 r.2.2.2 false]
def zeW (n_:Int) (blockSize:Int) (data:yF):Wy zij zbs (yF):=.i (decide (blockSize<n_)) (.bn (zk1 (n_.toNat +blockSize.toNat +Int.toNat 0+(IntKind.i64.wrap (2*blockSize)).toNat +data.length+1000) n_ blockSize 0 (IntKind.i64.wrap (2*blockSize)) data) λr5=>.i (decide (IntKind.i64.wrap (r5.2.2.1+r5.2.1)<r5.1)) (.bn (zhS r5.2.2.2 r5.2.2.1 (IntKind.i64.wrap (r5.2.2.1+r5.2.1)) r5.1) λr4=>.h ((),(r5.1),(),(IntKind.i64.wrap (r5.2.1*2)),()) ((r4),())) (.h ((),(r5.1),(),(IntKind.i64.wrap (r5.2.1*2)),()) ((r5.2.2.2),()))) (.k data)
def zr6 (x:zij) (y:zbs):=zeW x.2.1 x.2.2.2.1 y.1
def zdQ (n:Nat) (n_:Int) (blockSize:Int) (data:yF):=zA (zr6) default n ((),n_,(),blockSize,()) (data,())
def zBx (r:yF):LTree ty:=.done (.exit 2) [.own 252] [.arr 54 r false]
def zCz:LL ty zij:=za (zeZ 252) (za zj (za (lFn 53 (zr)) (za zj zr)))
def zBo (x:zcC) (y:zbs):Nat:=(Int.toNat x.2.1+Int.toNat x.2.2.2.1+Int.toNat x.2.2.2.2.1+Int.toNat x.2.2.2.2.2.1+y.1.length+1000)
def zBt (x:zij) (y:zbs):Nat:=(Int.toNat x.2.1+Int.toNat x.2.2.2.1+y.1.length+1000)
def zg3:=zc6 base 63 [(53,zdf),(190,zlB),(191,zof)] [(190,[true,false,false,false]),(191,[true,false,false,false,false])] [(2,(kpL [0,1,2,6,7,8])),(7,(kpL [0,1,2,6])),(9,(kpL [0,1,2,6,7,8]))] [(2,1,(kpL [0,1,2,6,7])),(7,3,(kpL [0])),(9,5,(kpL [0,1,2,6,7]))] [(2,spW zCv zCu (zsb) default zBF zBo),(9,spW zCv zCu (zsa) default zBw zBo),(7,spW zCz zCu (zr6) default zBx zBt)] []
theorem zBp:zS zg3 (lp (body f123) 0):=zI (id:=2) (hl:=rfl)
theorem zBf:zS zg3 (lp (body f123) 2):=zI (id:=9) (hl:=rfl)
theorem zBE:zS zg3 (lp (body f123) 1):=zI (id:=7) (hl:=rfl)
def zth (data:yF) (n_:Int):Wy0 (yF):=.bn (zdP (n_.toNat +Int.toNat 20+Int.toNat 0+Int.toNat 20+data.length+1000) n_ 20 0 20 data) λr10=>.bn (zcg r10.2.2.2 r10.2.2.1 r10.1) λr9=>.bn (zdQ (r10.1.toNat +r10.2.1.toNat +r9.length+1000) r10.1 r10.2.1 r9) λr8=>.k r8
def zf2 (data:yF) (n_:Int):=(zth data n_).fin default
def zCU:AL base (yF×Int×Unit×Unit):=zg (zpX 54) (zg (zh zhY) (zg (zh (vFn 53 zcX)) zC))
def zqo:=zi zCU λx=>((zf2 x.1 x.2.1).1,zz8 (zf2 x.1 x.2.1).2)
theorem zAe:SdP 123 zqo:=
 sT (cx':=zg3) (zm ⟨zdN,zva,zyZ,trivial⟩) call123 func123 (lOK (aC zBp (aC zBE (aC zBf aN)))) (sg:=⟨[],[true]⟩)
def zvl:=zc6 base 9 [(53,zdf),(123,zqo)] [(123,[true,false,false])] [] [] [] []
def zlt (x_:yF):Wy0 (yF):=.bn (zf2 x_ (Int.ofNat x_.length)) λr0=>.k r0
def zcu (x_:yF):=(zlt x_).fin default
def zvP:AL base (yF×Unit×Unit):=zg (zpX 54) (zg (zh (vFn 53 zcX)) zC)
def zkr:=zi zvP λx=>((zcu x.1).1,zz8 (zcu x.1).2)
theorem ztR:SdP 70 zkr:=
 sT (cx':=zvl) (zm ⟨zdN,zAe,trivial⟩) call70 func70 (lOK aN) (sg:=⟨[],[true]⟩)
abbrev zoi:=Unit×Unit×yF×Int×Int×Unit
abbrev zn3:=Relation×(Unit×Unit×Unit)×Unit
abbrev zBH:=Int⊕Relation
abbrev zn2:=Unit×Unit×Unit×Int×Int×Unit
abbrev zn0:=(Unit×Unit×Unit)×(Unit×Unit×Unit)×yF×yH×yF×Unit
abbrev zB6:=Int⊕(yH×yF)
def zuC (t19:yF) (t20:Int) (t21:Int) (r:Relation):Wy zoi zn3 zBH:=.i (decide (t21<t20)) (.i (decide (0<=t21)&&decide (t21<Int.ofNat t19.length)) (.bn (zsP r.Columns (t19.getD t21.toNat default).Values) λr5=>.i (!r5) (.k (.inl 7)) (.bn (zb9 (t19.getD t21.toNat default).Ann) λr4=>.i (!r4) (.k (.inl 1)) (.h ((),(),t19,t20,(IntKind.i64.wrap (t21+1)),()) (r,((),(),()),())))) .d) (.k (.inr r))
def zuE (x:zoi) (y:zn3):=zuC x.2.2.1 x.2.2.2.1 x.2.2.2.2.1 y.1
def zCd (n:Nat) (t19:yF) (t20:Int) (t21:Int) (r:Relation):=zA (zuE) (.inl default) n ((),(),t19,t20,t21,()) (r,((),(),()),())
def zMg (r:zBH):LTree ty:=.ite (isL r) (.done .ret [.ptr 440 0,.lit (.int .i64 (getL r))] [.box ([.lit (.slice none 0 0),.lit (.slice none 0 0)]) false]) (.done (.exit 0) [.ptr 440 0,.ptr 441 0] [.box (base.enc 25 (getR r)) false,.box ([.lit (.slice none 0 0),.lit (.slice none 0 0)]) false])
def zNH:LL ty zoi:=za (zfi 440 0) (za (zfi 441 0) (za (lSl 54) (za zj (za zj zr))))
def zOO:BL ty zn3:=ziu (zg7 (λx=>(⟨x.1,x.2.1⟩:Relation)) (λx=>(x.Columns,x.Rows,())) (λ_=>rfl) (za (lSl 75) (za (lSl 54) zr))) false (ziu (za zUC (za zUC zr)) false (zbD))
def ztL (t49:Int) (t50:Int) (t48:yF) (b3:yH) (b4:yF):Wy zn2 zn0 zB6:=.i (decide (t50<t49)) (.i (decide (0<=t50)&&decide (t50<Int.ofNat t48.length)) (.i (Int.ofNat b4.length==0) (.bn (zoc (t48.getD t50.toNat default) (t48.getD t50.toNat default).Ann) λr8=>.i (decide ((b4.length+[r8].length)*48<=zG)) (.h ((),(),(),t49,(IntKind.i64.wrap (t50+1)),()) (((),(),()),((),(),()),t48,b3,(b4++[r8]),())) .d) (.i (decide (0<=IntKind.i64.wrap (Int.ofNat b4.length - 1))&&decide (IntKind.i64.wrap (Int.ofNat b4.length - 1)<Int.ofNat b4.length)) (.bn (zbV (b4.getD (IntKind.i64.wrap (Int.ofNat b4.length - 1)).toNat default) (t48.getD t50.toNat default)) λr11=>.i (r11 != 0) (.bn (zoc (t48.getD t50.toNat default) (t48.getD t50.toNat default).Ann) λr9=>.i (decide ((b4.length+[r9].length)*48<=zG)) (.h ((),(),(),t49,(IntKind.i64.wrap (t50+1)),()) (((),(),()),((),(),()),t48,b3,(b4++[r9]),())) .d) (.i (decide (0<=IntKind.i64.wrap (Int.ofNat b4.length - 1))&&decide (IntKind.i64.wrap (Int.ofNat b4.length - 1)<Int.ofNat b4.length)) (.bn (zqx (b4.getD (IntKind.i64.wrap (Int.ofNat b4.length - 1)).toNat default).Ann (t48.getD t50.toNat default).Ann) λr10=>.i (r10.2 != 0) (.k (.inl (r10.2))) (.i (decide (0<=IntKind.i64.wrap (Int.ofNat b4.length - 1))&&decide (IntKind.i64.wrap (Int.ofNat b4.length - 1)<Int.ofNat b4.length)) (.i (decide ((IntKind.i64.wrap (Int.ofNat b4.length - 1)).toNat<b4.length)) (.h ((),(),(),t49,(IntKind.i64.wrap (t50+1)),()) (((),(),()),((),(),()),t48,b3,(b4.set (IntKind.i64.wrap (Int.ofNat b4.length - 1)).toNat (Row.mk (b4.getD (IntKind.i64.wrap (Int.ofNat b4.length - 1)).toNat default).Values r10.1)),())) .d) .d)) .d)) .d)) .d) (.k (.inr (b3,b4)))
def ztN (x:zn2) (y:zn0):=ztL x.2.2.2.1 x.2.2.2.2.1 y.2.2.1 y.2.2.2.1 y.2.2.2.2.1
def zAR (n:Nat) (t49:Int) (t50:Int) (t48:yF) (b3:yH) (b4:yF):=zA (ztN) (.inl default) n ((),(),(),t49,t50,()) (((),(),()),((),(),()),t48,b3,b4,())
def zKR (r:zB6):LTree ty:=.ite (isL r) (.done .ret [.ptr 440 0,.lit (.int .i64 (getL r))] [.box ([.lit (.slice none 0 0),.lit (.slice none 0 0)]) false]) (.done (.exit 2) [.ptr 440 0,.ptr 441 0] [.box ([.lit (.slice none 0 0),.lit (.slice none 0 0)]) false,.box ([.own 442,.own 443]) false,.arr 75 (getR r).1 false,.arr 54 (getR r).2 false])
def zMs:LL ty zn2:=za (zfi 440 0) (za (zfi 441 0) (za (zeZ 442) (za zj (za zj zr))))
def zNl:BL ty zn0:=ziu (za zUC (za zUC zr)) false (ziu (za (zeZ 443) (za (zeZ 444) zr)) false (ze2 54 false (ze2 75 false (ze2 54 false (zbD)))))
def zMp (x:zoi) (y:zn3):Nat:=(x.2.2.1.length+Int.toNat x.2.2.2.1+Int.toNat x.2.2.2.2.1+y.1.Columns.length+y.1.Rows.length+1000)
def zLr (x:zn2) (y:zn0):Nat:=(Int.toNat x.2.2.2.1+Int.toNat x.2.2.2.2.1+y.2.2.1.length+y.2.2.2.1.length+y.2.2.2.2.1.length+1000)
def zup:=zc6 zbp 110 [(50,zou),(51,zyt),(52,zcr),(53,zdf),(61,zgy),(67,zlO),(68,zpn),(69,zkj),(70,zkr),(71,zDq),(72,zxn)] [(67,[true,false]),(70,[true,false])] [(4,(kpL [1,2,19,20,21])),(15,[(2,.keep),(7,.boxOwn [(1,54)]),(48,.keep),(49,.keep),(50,.keep)])] [(4,1,(kpL [1,2])),(4,0,(kpL [2,3])),(15,3,(kpL [2,7])),(15,0,(kpL [2,3]))] [(4,spW zNH zOO (zuE) (.inl default) zMg zMp),(15,spW zMs zNl (ztN) (.inl default) zKR zLr)] []
theorem zME:zS zup (lp (body f28) 0):=zI (id:=4) (hl:=rfl)
theorem zKN:zS zup (lp (body f28) 1):=zI (id:=15) (hl:=rfl)
def zCB (r:Relation):Wy0 (Relation×Int):=.bn (zh1 r.Columns) λr22=>.i (!r22) (.k ((⟨[],[]⟩:Relation),1)) (.bn (zCd (r.Rows.length+(Int.ofNat r.Rows.length).toNat +Int.toNat 0+r.Columns.length+r.Rows.length+1000) r.Rows (Int.ofNat r.Rows.length) 0 r) λr21=>.i (isL r21) (.k ((⟨[],[]⟩:Relation),getL r21)) (.bn (zfC (getR r21).Rows) λr20=>.bn (zel r20) λr19=>.bn (zcu r19) λr18=>.bn (zce (getR r21).Columns) λr17=>.bn (zAR ((Int.ofNat r18.length).toNat +Int.toNat 0+r18.length+r17.length+0+1000) (Int.ofNat r18.length) 0 r18 r17 []) λr16=>.i (isL r16) (.k ((⟨[],[]⟩:Relation),getL r16)) (.i (decide (Int.ofNat (getR r16).2.length>1024)) (.k ((⟨[],[]⟩:Relation),6)) (.k ((⟨(getR r16).1,(getR r16).2⟩:Relation),0)))))
def znt (r:Relation):=(zCB r).fin default
def zNg (r:Relation×Int):ARes ty:=⟨[.pure (.agg (base.enc 25 r.1)),.pure (.lit (.int .i64 r.2))],[]⟩
def zsn:=zi zVC λx=>((znt x.1).1,zNg (znt x.1).2)
theorem zyy:Sound Tryz.prog zbp 28 zsn:=
 sU (cx':=zup) (zm ⟨zvA.nodr,zEh.nodr,zcz.nodr,zdN.nodr,zk7.nodr,zwf.nodr,zzM.nodr,znM.nodr,ztR.nodr,zOI,zDD,trivial⟩) call28 func28 (lOK (aC zME (aC zKN aN))) (sg:=⟨[.pure,.pure],[]⟩)
def z0f:=zbN zbp 50 [(12,zDI),(14,zmc),(16,zxD),(28,zsn),(42,zHV)]
def z1L:Wy0 (Bool):=.k true
def zWs:Bool×Bool:=(z1L).fin default
def z1V:AL zbp (Unit):=zC
def zKe:=zi z1V λx=>((zWs ).1,zSj (zWs ).2)
theorem zV0:Sound Tryz.prog zbp 10 zKe:=
 sU (cx':=z0f) (zm ⟨zOR,zqa.nodr,zCP.nodr,zyy,zTd.nodr,trivial⟩) call10 func10 (lOK aN)
abbrev zzJ:=yG×Int×Int×Unit
abbrev zNY:=Bool⊕(yG×Int)
def zEB (l:yG) (n_:Int) (i:Int):Wy zzJ Unit zNY:=.i (decide (i<Int.ofNat l.length)) (.i (decide (0<=i)&&decide (i<Int.ofNat l.length)) (.i (decide (Int.ofNat (l.getD i.toNat default).Text.size>300)) (.k (.inl false)) (.h (l,n_,(IntKind.i64.wrap (i+1)),()) ())) .d) (.k (.inr (l,n_)))
def zN3 (x:zzJ) (y:Unit):=zEB x.1 x.2.1 x.2.2.1
def zEr (n:Nat) (l:yG) (n_:Int) (i:Int):=zA (zN3) (.inl default) n (l,n_,i,()) ()
def zYS (r:zNY):LTree ty:=.ite (isL r) (.done .ret [.lit (.bool (getL r))] []) (.done (.exit 0) [.sl 79 (getR r).1,.lit (.int .i64 (getR r).2)] [])
def z0q:LL ty zzJ:=za (lSl 79) (za zj (za zj zr))
def zZb (x:zzJ) (y:Unit):Nat:=(x.1.length+Int.toNat x.2.1+Int.toNat x.2.2.1+1)
def zO2:=zc6 base 23 [] [] [(2,(kpL [0,1,5]))] [(2,1,(kpL [0,1])),(2,0,(kpL [4]))] [(2,spW z0q z2k (zN3) (.inl default) zYS zZb)] []
theorem zXW:zS zO2 (lp (body f18) 0):=zI (id:=2) (hl:=rfl)
def zRs (l:yG) (n_:Int):Wy0 (Bool):=.bn (zEr (l.length+n_.toNat +Int.toNat 0+1) l n_ 0) λr0=>.i (isL r0) (.k (getL r0)) (.k (decide (Int.ofNat (getR r0).1.length<=(getR r0).2)))
def zw7 (l:yG) (n_:Int):=(zRs l n_).fin default
def z2d:AL base (yG×Int×Unit):=zg (zh (vSl 79)) (zg (zh zhY) zC)
def zI1:=zi z2d λx=>((zw7 x.1 x.2.1).1,zSj (zw7 x.1 x.2.1).2)
theorem zVS:SdP 18 zI1:=
 sT (cx':=zO2) (zm trivial) call18 func18 (lOK (aC zXW aN))
def z0c:AL base (yB×Int×Int×Unit):=zg (zh (vSl 107)) (zg (zh (zg0 .i64)) (zg (zh (zg0 .i64)) zC))
def zuO (F:yB->Int->Int->Bool×Int):Ab.Spec ty:=zi z0c λx=>((F x.1 x.2.1 x.2.2.1).1,zNi (F x.1 x.2.1 x.2.2.1).2)
abbrev zjU:=yB×Int×Int×Int×Int×Int×Unit×Int×Unit
abbrev zLX:=yB×Int×Int×Int×Int×Int×At
abbrev zMd:=yB×Int×Int×Int×Int×Int
abbrev zxG:=yB×Int×Int×Int×Int×Int×Unit
abbrev zL6:=yB×Int×Int×Int×Int
abbrev zxM:=yB×Int×Int×Int×Int×Unit
def zyH (zF:yB->Int->Int->Bool×Int) (a:yB) (limit:Int) (zc8:Int) (n_:Int) (i:Int) (k:Int) (j:Int) (x_:At):Wy zjU (At×Unit) zLX:=.i (decide (j<Int.ofNat x_.Ag.length)) (.i (decide (n_<=limit)) (.i (decide (0<=j)&&decide (j<Int.ofNat x_.Ag.length)) (.bn (zF (x_.Ag.getD j.toNat default) (IntKind.i64.wrap (limit - n_)) (IntKind.i64.wrap (zc8 - 1))) λr0=>.h (a,limit,zc8,(IntKind.i64.wrap (n_+r0)),i,k,(),(IntKind.i64.wrap (j+1)),()) (x_,())) .d) (.k (a,limit,zc8,n_,i,k,x_))) (.k (a,limit,zc8,n_,i,k,x_))
def zFv (zF:yB->Int->Int->Bool×Int) (x:zjU) (y:At×Unit):=zyH zF x.1 x.2.1 x.2.2.1 x.2.2.2.1 x.2.2.2.2.1 x.2.2.2.2.2.1 x.2.2.2.2.2.2.2.1 y.1
def zyB (zF:yB->Int->Int->Bool×Int) (n:Nat) (a:yB) (limit:Int) (zc8:Int) (n_:Int) (i:Int) (k:Int) (j:Int) (x_:At):=zA (zFv zF) default n (a,limit,zc8,n_,i,k,(),j,()) (x_,())
def zSb (r:zLX):LTree ty:=.done (.exit 4) [.sl 107 r.1,.lit (.int .i64 r.2.1),.lit (.int .i64 r.2.2.1),.lit (.int .i64 r.2.2.2.1),.lit (.int .i64 r.2.2.2.2.1),.lit (.int .i64 r.2.2.2.2.2.1),.ptr 544 0] [.box (base.enc 143 r.2.2.2.2.2.2) false]
def zSX:LL ty zjU:=za (lSl 107) (za zj (za zj (za zj (za zj (za zj (za (zfi 544 0) (za zj zr)))))))
def zT7:BL ty (At×Unit):=ziu (zg7 (λx=>(⟨x.1,⟨x.2.1,x.2.2.1⟩,x.2.2.2.1,x.2.2.2.2.1,x.2.2.2.2.2.1,x.2.2.2.2.2.2.1,⟨x.2.2.2.2.2.2.2.1,x.2.2.2.2.2.2.2.2.1,x.2.2.2.2.2.2.2.2.2.1⟩⟩:At)) (λx=>(x.Kind,x.Row.Table,x.Row.Seq,x.Ag,x.Func,x.Items,x.Op,x.Bd.Kind,x.Bd.Int,x.Bd.Text,())) (λ_=>rfl) (za (zbL .i64) (za (zbL .i64) (za (zbL .i64) (za (lSl 51) (za (zbL .i64) (za (lSl 169) (za (zbL .i64) (za (zbL .i64) (za (zbL .i64) (za zG5 zr))))))))))) false (zbD)
def zyv (zF:yB->Int->Int->Bool×Int) (a:yB) (limit:Int) (zc8:Int) (n_:Int) (i:Int) (k:Int) (j:Int) (x_:At):Wy zjU (At×Unit) zMd:=.i (decide (j<Int.ofNat x_.Items.length)) (.i (decide (n_<=limit)) (.i (decide (0<=j)&&decide (j<Int.ofNat x_.Items.length)) (.i (decide (0<=j)&&decide (j<Int.ofNat x_.Items.length)) (.bn (zF (x_.Items.getD j.toNat default).Ann (IntKind.i64.wrap (limit - n_)) (IntKind.i64.wrap (zc8 - 1))) λr2=>.h (a,limit,zc8,(IntKind.i64.wrap (IntKind.i64.wrap (n_+Int.ofNat (x_.Items.getD j.toNat default).Value.Text.size)+r2)),i,k,(),(IntKind.i64.wrap (j+1)),()) (x_,())) .d) .d) (.k (a,limit,zc8,n_,i,k))) (.k (a,limit,zc8,n_,i,k))
def zFC (zF:yB->Int->Int->Bool×Int) (x:zjU) (y:At×Unit):=zyv zF x.1 x.2.1 x.2.2.1 x.2.2.2.1 x.2.2.2.2.1 x.2.2.2.2.2.1 x.2.2.2.2.2.2.2.1 y.1
def zyx (zF:yB->Int->Int->Bool×Int) (n:Nat) (a:yB) (limit:Int) (zc8:Int) (n_:Int) (i:Int) (k:Int) (j:Int) (x_:At):=zA (zFC zF) default n (a,limit,zc8,n_,i,k,(),j,()) (x_,())
def zSs (r:zMd):LTree ty:=.done (.exit 6) [.sl 107 r.1,.lit (.int .i64 r.2.1),.lit (.int .i64 r.2.2.1),.lit (.int .i64 r.2.2.2.1),.lit (.int .i64 r.2.2.2.2.1),.lit (.int .i64 r.2.2.2.2.2)] []
def zAf (zF:yB->Int->Int->Bool×Int) (a:yB) (limit:Int) (zc8:Int) (n_:Int) (i:Int) (k:Int):Wy zxG Unit zL6:=.i (decide (0<=i)&&decide (i<Int.ofNat a.length)) (.i (decide (k<Int.ofNat (a.getD i.toNat default).Fs.length)) (.i (decide (n_<=limit)) (.i (decide (0<=i)&&decide (i<Int.ofNat a.length)) (.i (decide (0<=k)&&decide (k<Int.ofNat (a.getD i.toNat default).Fs.length)) (.bn (zyB zF (a.length+limit.toNat +zc8.toNat +(IntKind.i64.wrap (IntKind.i64.wrap (IntKind.i64.wrap (n_+Int.ofNat ((a.getD i.toNat default).Fs.getD k.toNat default).At.Items.length)+Int.ofNat ((a.getD i.toNat default).Fs.getD k.toNat default).At.Ag.length)+Int.ofNat ((a.getD i.toNat default).Fs.getD k.toNat default).At.Bd.Text.size)).toNat +i.toNat +k.toNat +Int.toNat 0+((a.getD i.toNat default).Fs.getD k.toNat default).At.Ag.length+((a.getD i.toNat default).Fs.getD k.toNat default).At.Items.length+1) a limit zc8 (IntKind.i64.wrap (IntKind.i64.wrap (IntKind.i64.wrap (n_+Int.ofNat ((a.getD i.toNat default).Fs.getD k.toNat default).At.Items.length)+Int.ofNat ((a.getD i.toNat default).Fs.getD k.toNat default).At.Ag.length)+Int.ofNat ((a.getD i.toNat default).Fs.getD k.toNat default).At.Bd.Text.size)) i k 0 (At.mk ((a.getD i.toNat default).Fs.getD k.toNat default).At.Kind ((a.getD i.toNat default).Fs.getD k.toNat default).At.Row ((a.getD i.toNat default).Fs.getD k.toNat default).At.Ag ((a.getD i.toNat default).Fs.getD k.toNat default).At.Func ((a.getD i.toNat default).Fs.getD k.toNat default).At.Items ((a.getD i.toNat default).Fs.getD k.toNat default).At.Op ((a.getD i.toNat default).Fs.getD k.toNat default).At.Bd)) λr5=>.bn (zyx zF (r5.1.length+r5.2.1.toNat +r5.2.2.1.toNat +r5.2.2.2.1.toNat +r5.2.2.2.2.1.toNat +r5.2.2.2.2.2.1.toNat +Int.toNat 0+r5.2.2.2.2.2.2.Ag.length+r5.2.2.2.2.2.2.Items.length+1) r5.1 r5.2.1 r5.2.2.1 r5.2.2.2.1 r5.2.2.2.2.1 r5.2.2.2.2.2.1 0 (At.mk r5.2.2.2.2.2.2.Kind r5.2.2.2.2.2.2.Row r5.2.2.2.2.2.2.Ag r5.2.2.2.2.2.2.Func r5.2.2.2.2.2.2.Items r5.2.2.2.2.2.2.Op r5.2.2.2.2.2.2.Bd)) λr4=>.h ((r4.1),(r4.2.1),(r4.2.2.1),(r4.2.2.2.1),(r4.2.2.2.2.1),(IntKind.i64.wrap (r4.2.2.2.2.2+1)),()) ()) .d) .d) (.k (a,limit,zc8,n_,i))) (.k (a,limit,zc8,n_,i))) .d
def zHO (zF:yB->Int->Int->Bool×Int) (x:zxG) (y:Unit):=zAf zF x.1 x.2.1 x.2.2.1 x.2.2.2.1 x.2.2.2.2.1 x.2.2.2.2.2.1
def zAk (zF:yB->Int->Int->Bool×Int) (n:Nat) (a:yB) (limit:Int) (zc8:Int) (n_:Int) (i:Int) (k:Int):=zA (zHO zF) default n (a,limit,zc8,n_,i,k,()) ()
def zUZ (r:zL6):LTree ty:=.done (.exit 2) [.sl 107 r.1,.lit (.int .i64 r.2.1),.lit (.int .i64 r.2.2.1),.lit (.int .i64 r.2.2.2.1),.lit (.int .i64 r.2.2.2.2)] []
def zVU:LL ty zxG:=za (lSl 107) (za zj (za zj (za zj (za zj (za zj zr)))))
def zAn (zF:yB->Int->Int->Bool×Int) (a:yB) (limit:Int) (zc8:Int) (n_:Int) (i:Int):Wy zxM Unit (Int):=.i (decide (i<Int.ofNat a.length)) (.i (decide (n_<=limit)) (.i (decide (0<=i)&&decide (i<Int.ofNat a.length)) (.bn (zAk zF (a.length+limit.toNat +zc8.toNat +(IntKind.i64.wrap (IntKind.i64.wrap (n_+1)+Int.ofNat (a.getD i.toNat default).Fs.length)).toNat +i.toNat +Int.toNat 0+1) a limit zc8 (IntKind.i64.wrap (IntKind.i64.wrap (n_+1)+Int.ofNat (a.getD i.toNat default).Fs.length)) i 0) λr8=>.h ((r8.1),(r8.2.1),(r8.2.2.1),(r8.2.2.2.1),(IntKind.i64.wrap (r8.2.2.2.2+1)),()) ()) .d) (.k n_)) (.k n_)
def zHS (zF:yB->Int->Int->Bool×Int) (x:zxM) (y:Unit):=zAn zF x.1 x.2.1 x.2.2.1 x.2.2.2.1 x.2.2.2.2.1
def zAy (zF:yB->Int->Int->Bool×Int) (n:Nat) (a:yB) (limit:Int) (zc8:Int) (n_:Int) (i:Int):=zA (zHS zF) default n (a,limit,zc8,n_,i,()) ()
def zVz:LL ty zxM:=za (lSl 107) (za zj (za zj (za zj (za zj zr))))
def zSh (x:zjU) (y:At×Unit):Nat:=(x.1.length+Int.toNat x.2.1+Int.toNat x.2.2.1+Int.toNat x.2.2.2.1+Int.toNat x.2.2.2.2.1+Int.toNat x.2.2.2.2.2.1+Int.toNat x.2.2.2.2.2.2.2.1+y.1.Ag.length+y.1.Items.length+1)
def zUj (x:zxG) (y:Unit):Nat:=(x.1.length+Int.toNat x.2.1+Int.toNat x.2.2.1+Int.toNat x.2.2.2.1+Int.toNat x.2.2.2.2.1+Int.toNat x.2.2.2.2.2.1+1)
def zTh (x:zxM) (y:Unit):Nat:=(x.1.length+Int.toNat x.2.1+Int.toNat x.2.2.1+Int.toNat x.2.2.2.1+Int.toNat x.2.2.2.2.1+1)
def zoZ (zF:yB->Int->Int->Bool×Int):=zc6 base 136 [(79,(zuO zF))] [] [(5,(kpL [0,1,2,7,8])),(9,(kpL [0,1,2,7,8,9])),(14,(kpL [0,1,2,7,8,9,10,11])),(18,(kpL [0,1,2,7,8,9,10,12]))] [(5,1,(kpL [7])),(9,3,(kpL [0,1,2,7,8])),(14,5,(kpL [0,1,2,7,8,9,10])),(18,7,(kpL [0,1,2,7,8,9]))] [(14,spW zSX zT7 (zFv zF) default zSb zSh),(18,spW zSX zT7 (zFC zF) default zSs zSh),(9,spW zVU z2k (zHO zF) default zUZ zUj),(5,spW zVz z2k (zHS zF) default zOG zTh)] []
theorem zSn (zF:yB->Int->Int->Bool×Int):zS (zoZ zF) (lp (body f79) 2):=zI (id:=14) (hl:=rfl)
theorem zRN (zF:yB->Int->Int->Bool×Int):zS (zoZ zF) (lp (body f79) 3):=zI (id:=18) (hl:=rfl)
theorem zSQ (zF:yB->Int->Int->Bool×Int):zS (zoZ zF) (lp (body f79) 1):=zI (id:=9) (hl:=rfl)
theorem zSO (zF:yB->Int->Int->Bool×Int):zS (zoZ zF) (lp (body f79) 0):=zI (id:=5) (hl:=rfl)
def zBs (zF:yB->Int->Int->Bool×Int) (a:yB) (limit:Int) (zc8:Int):Wy0 (Int):=.i (zc8==0) (.k (IntKind.i64.wrap (limit+1))) (.bn (zAy zF (a.length+limit.toNat +zc8.toNat +Int.toNat 0+Int.toNat 0+1) a limit zc8 0 0) λr10=>.k r10)
def zuJ (zF:yB->Int->Int->Bool×Int) (a:yB) (limit:Int) (zc8:Int):=(zBs zF a limit zc8).fin default
theorem zQk (zF:yB->Int->Int->Bool×Int) (zXo:SdP 79 (zuO zF)):SdP 79 (zuO (zuJ zF)):=
 sT (cx':=(zoZ zF)) (zm ⟨zXo,trivial⟩) call79 func79 (lOK (aC (zSO zF) (aC (zSQ zF) (aC (zSn zF) (aC (zRN zF) aN)))))
def zWp:Nat->(yB->Int->Int->Bool×Int)
 | 0=>λ_ _ _=>(false,default)
 | n+1=>zuJ (zWp n)
def zqJ (n:Nat):yB->Int->Int->Bool×Int:=zWp n
theorem zHQ (n:Nat):zqJ (n+1)=zuJ (zqJ n):=rfl
theorem zRD:∀ n,SdP 79 (zuO (zqJ n))
 | 0=>zbQ call79 (λ_=>rfl)
 | n+1=>by
  have ih:=zRD n;exact zQk _ (ih)
def zJV:yB->Int->Int->Bool×Int:=zqJ 1000
def zHC:Ab.Spec ty:=zuO zJV
theorem zUQ:SdP 79 zHC:=(zRD 1000)
abbrev zDm:=Int×yA×Int×Unit
def zJ0 (limit:Int) (l:yA) (i:Int):Wy zDm Unit (Bool⊕Unit):=.i (decide (i<Int.ofNat l.length)) (.i (decide (0<=i)&&decide (i<Int.ofNat l.length)) (.bn (zJV (l.getD i.toNat default) limit 12) λr0=>.i (decide (r0>limit)) (.k (.inl false)) (.h (limit,l,(IntKind.i64.wrap (i+1)),()) ())) .d) (.k (.inr ()))
def zS5 (x:zDm) (y:Unit):=zJ0 x.1 x.2.1 x.2.2.1
def zKq (n:Nat) (limit:Int) (l:yA) (i:Int):=zA (zS5) (.inl default) n (limit,l,i,()) ()
def z3v:LL ty zDm:=za zj (za (lSl 51) (za zj zr))
def z2l (x:zDm) (y:Unit):Nat:=(Int.toNat x.1+x.2.1.length+Int.toNat x.2.2.1+1)
def zTP:=zc6 base 20 [(79,zHC)] [] [(2,(kpL [0,1,5]))] [(2,1,[]),(2,0,(kpL [4]))] [(2,spW z3v z2k (zS5) (.inl default) znr z2l)] []
theorem z2j:zS zTP (lp (body f36) 0):=zI (id:=2) (hl:=rfl)
def zWc (limit:Int) (l:yA):Wy0 (Bool):=.bn (zKq (limit.toNat +l.length+Int.toNat 0+1) limit l 0) λr2=>.i (isL r2) (.k (getL r2)) (.k true)
def zBQ (limit:Int) (l:yA):=(zWc limit l).fin default
def z4U:AL base (Int×yA×Unit):=zg (zh zhY) (zg (zh (vSl 51)) zC)
def zOQ:=zi z4U λx=>((zBQ x.1 x.2.1).1,zSj (zBQ x.1 x.2.1).2)
theorem zXU:SdP 36 zOQ:=
 sT (cx':=zTP) (zm ⟨zUQ,trivial⟩) call36 func36 (lOK (aC z2j aN))
abbrev znk:=Int×Int×List Relation×Int×Int×Unit
abbrev zDB:=Bool⊕(Int×Int×List Relation×Int)
abbrev zCH:=Int×Int×List Relation×Int×Unit
def zJk (rows:Int) (weight:Int) (l:List Relation) (i:Int) (k:Int):Wy znk Unit zDB:=.i (decide (0<=i)&&decide (i<Int.ofNat l.length)) (.i (decide (k<Int.ofNat (l.getD i.toNat default).Columns.length)) (.i (decide (0<=i)&&decide (i<Int.ofNat l.length)) (.i (decide (0<=k)&&decide (k<Int.ofNat (l.getD i.toNat default).Columns.length)) (.i (decide (Int.ofNat ((l.getD i.toNat default).Columns.getD k.toNat default).Name.size>100)) (.k (.inl false)) (.h (rows,weight,l,i,(IntKind.i64.wrap (k+1)),()) ())) .d) .d) (.k (.inr (rows,weight,l,i)))) .d
def zI5 (x:znk) (y:Unit):=zJk x.1 x.2.1 x.2.2.1 x.2.2.2.1 x.2.2.2.2.1
def zUo (n:Nat) (rows:Int) (weight:Int) (l:List Relation) (i:Int) (k:Int):=zA (zI5) (.inl default) n (rows,weight,l,i,k,()) ()
def z2m (r:zDB):LTree ty:=.ite (isL r) (.done .ret [.lit (.bool (getL r))] []) (.done (.exit 2) [.lit (.int .i64 (getR r).1),.lit (.int .i64 (getR r).2.1),.sl 25 (getR r).2.2.1,.lit (.int .i64 (getR r).2.2.2)] [])
def z2M:LL ty znk:=za zj (za zj (za (lSl 25) (za zj (za zj zr))))
def zGP (rows:Int) (weight:Int) (l:List Relation) (i:Int) (k:Int):Wy znk Unit zDB:=.i (decide (0<=i)&&decide (i<Int.ofNat l.length)) (.i (decide (k<Int.ofNat (l.getD i.toNat default).Rows.length)) (.i (decide (0<=i)&&decide (i<Int.ofNat l.length)) (.i (decide (0<=k)&&decide (k<Int.ofNat (l.getD i.toNat default).Rows.length)) (.bn (zw7 ((l.getD i.toNat default).Rows.getD k.toNat default).Values 20) λr1=>.i (!r1) (.k (.inl false)) (.i (decide (0<=i)&&decide (i<Int.ofNat l.length)) (.i (decide (0<=k)&&decide (k<Int.ofNat (l.getD i.toNat default).Rows.length)) (.bn (zBQ weight [((l.getD i.toNat default).Rows.getD k.toNat default).Ann]) λr0=>.i (!r0) (.k (.inl false)) (.h (rows,weight,l,i,(IntKind.i64.wrap (k+1)),()) ())) .d) .d)) .d) .d) (.k (.inr (rows,weight,l,i)))) .d
def zGM (x:znk) (y:Unit):=zGP x.1 x.2.1 x.2.2.1 x.2.2.2.1 x.2.2.2.2.1
def zQ6 (n:Nat) (rows:Int) (weight:Int) (l:List Relation) (i:Int) (k:Int):=zA (zGM) (.inl default) n (rows,weight,l,i,k,()) ()
def zZS (r:zDB):LTree ty:=.ite (isL r) (.done .ret [.lit (.bool (getL r))] []) (.done (.exit 4) [.lit (.int .i64 (getR r).1),.lit (.int .i64 (getR r).2.1),.sl 25 (getR r).2.2.1,.lit (.int .i64 (getR r).2.2.2)] [])
def zJ3 (rows:Int) (weight:Int) (l:List Relation) (i:Int):Wy zCH Unit (Bool⊕Unit):=.i (decide (i<Int.ofNat l.length)) (.i (decide (0<=i)&&decide (i<Int.ofNat l.length)) (.i (decide (Int.ofNat (l.getD i.toNat default).Rows.length>rows)) (.k (.inl false)) (.i (decide (0<=i)&&decide (i<Int.ofNat l.length)) (.i (decide (Int.ofNat (l.getD i.toNat default).Columns.length>20)) (.k (.inl false)) (.bn (zUo (rows.toNat +weight.toNat +l.length+i.toNat +Int.toNat 0+1000) rows weight l i 0) λr5=>.i (isL r5) (.k (.inl (getL r5))) (.bn (zQ6 ((getR r5).1.toNat +(getR r5).2.1.toNat +(getR r5).2.2.1.length+(getR r5).2.2.2.toNat +Int.toNat 0+1000) (getR r5).1 (getR r5).2.1 (getR r5).2.2.1 (getR r5).2.2.2 0) λr4=>.i (isL r4) (.k (.inl (getL r4))) (.h ((getR r4).1,(getR r4).2.1,(getR r4).2.2.1,(IntKind.i64.wrap ((getR r4).2.2.2+1)),()) ())))) .d)) .d) (.k (.inr ()))
def zJ5 (x:zCH) (y:Unit):=zJ3 x.1 x.2.1 x.2.2.1 x.2.2.2.1
def zTm (n:Nat) (rows:Int) (weight:Int) (l:List Relation) (i:Int):=zA (zJ5) (.inl default) n (rows,weight,l,i,()) ()
def z3U:LL ty zCH:=za zj (za zj (za (lSl 25) (za zj zr)))
def z1T (x:znk) (y:Unit):Nat:=(Int.toNat x.1+Int.toNat x.2.1+x.2.2.1.length+Int.toNat x.2.2.2.1+Int.toNat x.2.2.2.2.1+1000)
def z2f (x:zCH) (y:Unit):Nat:=(Int.toNat x.1+Int.toNat x.2.1+x.2.2.1.length+Int.toNat x.2.2.2.1+1000)
def zC3:=zc6 base 90 [(18,zI1),(36,zOQ)] [] [(2,(kpL [0,1,2,7])),(7,(kpL [0,1,2,7,8])),(12,(kpL [0,1,2,7,9]))] [(2,1,[]),(2,0,(kpL [6])),(7,3,(kpL [0,1,2,7])),(7,0,(kpL [6])),(12,5,(kpL [0,1,2,7])),(12,0,(kpL [6]))] [(7,spW z2M z2k (zI5) (.inl default) z2m z1T),(12,spW z2M z2k (zGM) (.inl default) zZS z1T),(2,spW z3U z2k (zJ5) (.inl default) znr z2f)] []
theorem z15:zS zC3 (lp (body f11) 1):=zI (id:=7) (hl:=rfl)
theorem z0F:zS zC3 (lp (body f11) 2):=zI (id:=12) (hl:=rfl)
theorem z14:zS zC3 (lp (body f11) 0):=zI (id:=2) (hl:=rfl)
def zWe (rows:Int) (weight:Int) (l:List Relation):Wy0 (Bool):=.bn (zTm (rows.toNat +weight.toNat +l.length+Int.toNat 0+1000) rows weight l 0) λr8=>.i (isL r8) (.k (getL r8)) (.k true)
def zCk (rows:Int) (weight:Int) (l:List Relation):=(zWe rows weight l).fin default
def z4P:AL base (Int×Int×List Relation×Unit):=zg (zh zhY) (zg (zh zhY) (zg (zh (vSl 25)) zC))
def zND:=zi z4P λx=>((zCk x.1 x.2.1 x.2.2.1).1,zSj (zCk x.1 x.2.1 x.2.2.1).2)
theorem zY9:SdP 11 zND:=
 sT (cx':=zC3) (zm ⟨zVS,zXU,trivial⟩) call11 func11 (lOK (aC z14 (aC z15 (aC z0F aN))))
abbrev zp6:=yH×yH×Int×Unit
def zlF (a:yH) (b:yH) (i:Int):Wy zp6 Unit (Bool⊕Unit):=.i (decide (i<Int.ofNat a.length)) (.i (decide (0<=i)&&decide (i<Int.ofNat a.length)) (.i (decide (0<=i)&&decide (i<Int.ofNat b.length)) (.i (!((a.getD i.toNat default).Name.toList==(b.getD i.toNat default).Name.toList&&((a.getD i.toNat default).Type_==(b.getD i.toNat default).Type_&&true))) (.k (.inl false)) (.h (a,b,(IntKind.i64.wrap (i+1)),()) ())) .d) .d) (.k (.inr ()))
def zwh (x:zp6) (y:Unit):=zlF x.1 x.2.1 x.2.2.1
def zDK (n:Nat) (a:yH) (b:yH) (i:Int):=zA (zwh) (.inl default) n (a,b,i,()) ()
def zPH:LL ty zp6:=za (lSl 75) (za (lSl 75) (za zj zr))
def zNx (x:zp6) (y:Unit):Nat:=(x.1.length+x.2.1.length+Int.toNat x.2.2.1+1)
def zCZ:=zc6 base 26 [] [] [(4,(kpL [0,1,5]))] [(4,1,[]),(4,0,(kpL [4]))] [(4,spW zPH z2k (zwh) (.inl default) znr zNx)] []
theorem zO3:zS zCZ (lp (body f23) 0):=zI (id:=4) (hl:=rfl)
def zD1 (a:yH) (b:yH):Wy0 (Bool):=.i (Int.ofNat a.length != Int.ofNat b.length) (.k false) (.bn (zDK (a.length+b.length+Int.toNat 0+1) a b 0) λr0=>.i (isL r0) (.k (getL r0)) (.k true))
def zlK (a:yH) (b:yH):=(zD1 a b).fin default
def zAS:=zi zye λx=>((zlK x.1 x.2.1).1,zSj (zlK x.1 x.2.1).2)
theorem zK9:SdP 23 zAS:=
 sT (cx':=zCZ) (zm trivial) call23 func23 (lOK (aC zO3 aN))
def zKG:=zbN base 10 []
def zKT (c:Column) (d:Column):Wy0 (Bool):=.k (c.Type_==d.Type_)
def zn5 (c:Column) (d:Column):=(zKT c d).fin default
def zK4:AL base (Column×Column×Unit):=zg (zh (zda 75)) (zg (zh (zda 75)) zC)
def zov:=zi zK4 λx=>((zn5 x.1 x.2.1).1,zSj (zn5 x.1 x.2.1).2)
theorem zvo:SdP 120 zov:=
 sT (cx':=zKG) (zm trivial) call120 func120 (lOK aN)
abbrev zcc:=yH×Unit×yH×Int×Int×Unit
def zbn (s2:yH) (t15:yH) (t16:Int) (t17:Int):Wy zcc Unit (Bool⊕Unit):=.i (decide (t17<t16)) (.i (decide (0<=t17)&&decide (t17<Int.ofNat t15.length)) (.i (decide (0<=t17)&&decide (t17<Int.ofNat s2.length)) (.i (!(zn5 (t15.getD t17.toNat default) (s2.getD t17.toNat default)).2) (.k (.inl false)) (.h (s2,(),t15,t16,(IntKind.i64.wrap (t17+1)),()) ())) .d) .d) (.k (.inr ()))
def zcG (x:zcc) (y:Unit):=zbn x.1 x.2.2.1 x.2.2.2.1 x.2.2.2.2.1
def zeG (n:Nat) (s2:yH) (t15:yH) (t16:Int) (t17:Int):=zA (zcG) (.inl default) n (s2,(),t15,t16,t17,()) ()
def zkp:LL ty zcc:=za (lSl 75) (za (lFn 120 (zr)) (za (lSl 75) (za zj (za zj zr))))
def zke (x:zcc) (y:Unit):Nat:=(x.1.length+x.2.2.1.length+Int.toNat x.2.2.2.1+Int.toNat x.2.2.2.2.1+1000)
def zeF:=zc6 base 32 [(120,zov)] [] [(4,(kpL [1,2,15,16,17]))] [(4,1,[]),(4,0,(kpL [6]))] [(4,spW zkp z2k (zcG) (.inl default) znr zke)] []
theorem zkh:zS zeF (lp (body f119) 0):=zI (id:=4) (hl:=rfl)
def zeJ (s1:yH) (s2:yH):Wy0 (Bool):=.i (Int.ofNat s1.length != Int.ofNat s2.length) (.k false) (.bn (zeG (s2.length+s1.length+(Int.ofNat s1.length).toNat +Int.toNat 0+1000) s2 s1 (Int.ofNat s1.length) 0) λr0=>.i (isL r0) (.k (getL r0)) (.k true))
def zbY (s1:yH) (s2:yH):=(zeJ s1 s2).fin default
def zkw:AL base (yH×yH×Unit×Unit):=zg (zh (vSl 75)) (zg (zh (vSl 75)) (zg (zh (vFn 120 zcX)) zC))
def zep:=zi zkw λx=>((zbY x.1 x.2.1).1,zSj (zbY x.1 x.2.1).2)
theorem zjF:SdP 119 zep:=
 sT (cx':=zeF) (zm ⟨zvo,trivial⟩) call119 func119 (lOK (aC zkh aN))
def zNQ:=zbN base 8 [(119,zep),(120,zov)]
def zDv (a:yH) (b:yH):Wy0 (Bool):=.bn (zbY a b) λr0=>.k r0
def znI (a:yH) (b:yH):=(zDv a b).fin default
def zzX:=zi zye λx=>((znI x.1 x.2.1).1,zSj (znI x.1 x.2.1).2)
theorem zKn:SdP 65 zzX:=
 sT (cx':=zNQ) (zm ⟨zjF,zvo,trivial⟩) call65 func65 (lOK aN)
def zCo:=zbN base 27 []
def ztw (n_:Int):Wy0 (yF):=.i (decide (n_<0)) .d (.i (decide (IntKind.i64.wrap (n_ - IntKind.i64.wrap (0 - 0))>0)) (.i (decide (0<IntKind.i64.wrap (n_ - IntKind.i64.wrap (0 - 0)))&&(decide (IntKind.i64.wrap (n_ - IntKind.i64.wrap (0 - 0))*Int.ofNat 48<=Int.ofNat zG)&&(decide (IntKind.i64.wrap (n_ - IntKind.i64.wrap (0 - 0))<=Int.ofNat zG)&& !Nat.beq 2 0))) (.k (List.take (Int.toNat 0 - Int.toNat 0) (List.replicate (IntKind.i64.wrap (n_ - IntKind.i64.wrap (0 - 0))).toNat (Row.mk [] [])))) .d) (.k []))
def zf0 (n_:Int):=(ztw n_).fin default
def zBB (r:yF):ARes ty:=⟨[.own 54 r],[]⟩
def zqi:=zi zyb λx=>((zf0 x.2.1).1,zBB (zf0 x.2.1).2)
theorem zAa:SdP 121 zqi:=
 sT (cx':=zCo) (zm trivial) call121 func121 (lOK aN) (sg:=⟨[.own 54],[]⟩)
abbrev zik:=List (yF)×Int×List (yF)×Int×Int×Unit
abbrev zt7:=List (yF)×Int
abbrev zim:=Unit×List (yF)×Int×Int×Unit
abbrev zin:=yF×Unit
def zez (slices:List (yF)) (size:Int) (t9:List (yF)) (t10:Int) (t11:Int):Wy zik Unit zt7:=.i (decide (t11<t10)) (.i (decide (0<=t11)&&decide (t11<Int.ofNat t9.length)) (.i (decide (IntKind.i64.wrap (size+Int.ofNat (List.length (t9.getD t11.toNat default)))<0)) .d (.h (slices,(IntKind.i64.wrap (size+Int.ofNat (List.length (t9.getD t11.toNat default)))),t9,t10,(IntKind.i64.wrap (t11+1)),()) ())) .d) (.k (slices,size))
def zkg (x:zik) (y:Unit):=zez x.1 x.2.1 x.2.2.1 x.2.2.2.1 x.2.2.2.2.1
def zqp (n:Nat) (slices:List (yF)) (size:Int) (t9:List (yF)) (t10:Int) (t11:Int):=zA (zkg) default n (slices,size,t9,t10,t11,()) ()
def zAc (r:zt7):LTree ty:=.done (.exit 0) [.sl 23 r.1,.lit (.int .i64 r.2)] []
def zAG:LL ty zik:=za (lSl 23) (za zj (za (lSl 23) (za zj (za zj zr))))
def zek (t25:List (yF)) (t26:Int) (t27:Int) (newslice:yF):Wy zim zin (yF):=.i (decide (t27<t26)) (.i (decide (0<=t27)&&decide (t27<Int.ofNat t25.length)) (.i (decide ((newslice.length+List.length (t25.getD t27.toNat default))*48<=zG)) (.h ((),t25,t26,(IntKind.i64.wrap (t27+1)),()) ((newslice++t25.getD t27.toNat default),())) .d) .d) (.k newslice)
def zjD (x:zim) (y:zin):=zek x.2.1 x.2.2.1 x.2.2.2.1 y.1
def zpd (n:Nat) (t25:List (yF)) (t26:Int) (t27:Int) (newslice:yF):=zA (zjD) default n ((),t25,t26,t27,()) (newslice,())
def zzv (r:yF):LTree ty:=.done (.exit 2) [.own 144] [.arr 54 r false]
def zAp:LL ty zim:=za (zeZ 144) (za (lSl 23) (za zj (za zj zr)))
def zAs:BL ty zin:=ze2 54 false (zbD)
def zAb (x:zik) (y:Unit):Nat:=(x.1.length+Int.toNat x.2.1+x.2.2.1.length+Int.toNat x.2.2.2.1+Int.toNat x.2.2.2.2.1+1000)
def zzE (x:zim) (y:zin):Nat:=(x.2.1.length+Int.toNat x.2.2.1+Int.toNat x.2.2.2.1+y.1.length+1000)
def zj6:=zc6 base 36 [(121,zqi)] [] [(3,(kpL [0,3,9,10,11])),(11,(kpL [6,25,26,27]))] [(3,1,(kpL [0,3])),(11,3,(kpL [6]))] [(3,spW zAG z2k (zkg) default zAc zAb),(11,spW zAp zAs (zjD) default zzv zzE)] [121]
theorem zAh:zS zj6 (lp (body f66) 0):=zI (id:=3) (hl:=rfl)
theorem zzq:zS zj6 (lp (body f66) 1):=zI (id:=11) (hl:=rfl)
def zq5 (slices:List (yF)):Wy0 (yF):=.bn (zqp (slices.length+Int.toNat 0+slices.length+(Int.ofNat slices.length).toNat +Int.toNat 0+1000) slices 0 slices (Int.ofNat slices.length) 0) λr2=>.bn (zf0 r2.2) λr1=>.bn (zpd (r2.1.length+(Int.ofNat r2.1.length).toNat +Int.toNat 0+r1.length+1000) r2.1 (Int.ofNat r2.1.length) 0 r1) λr0=>.k r0
def zd7 (slices:List (yF)):=(zq5 slices).fin default
def zBh:AL base (List (yF)×Unit):=zg (zh (vSl 23)) zC
def zom:=zi zBh λx=>((zd7 x.1).1,zBB (zd7 x.1).2)
theorem zza:SdP 66 zom:=
 sT (cx':=zj6) (zm ⟨zAa,trivial⟩) call66 func66 (lOK (aC zAh (aC zzq aN))) (sg:=⟨[.own 54],[]⟩)
def zYh:=zbN zbp 34 [(14,zmc),(28,zsn),(65,zzX),(66,zom)]
def zOw (a:Relation) (b:Relation):Wy0 (Relation×Int):=.bn (zhi a) λr4=>.i (!r4) (.k ((⟨[],[]⟩:Relation),1)) (.bn (zhi b) λr3=>.i (!r3) (.k ((⟨[],[]⟩:Relation),1)) (.bn (znI a.Columns b.Columns) λr2=>.i (!r2) (.k ((⟨[],[]⟩:Relation),7)) (.bn (zd7 [a.Rows,b.Rows]) λr1=>.bn (znt (Relation.mk a.Columns r1)) λr0=>.k (r0.1,r0.2))))
def zj9 (a:Relation) (b:Relation):=(zOw a b).fin default
def z0C:AL zbp (Relation×Relation×Unit):=zg (zh (zda 25)) (zg (zh (zda 25)) zC)
def zHG:=zi z0C λx=>((zj9 x.1 x.2.1).1,zNg (zj9 x.1 x.2.1).2)
theorem zTH:Sound Tryz.prog zbp 26 zHG:=
 sU (cx':=zYh) (zm ⟨zqa.nodr,zyy,zKn.nodr,zza.nodr,trivial⟩) call26 func26 (lOK aN) (sg:=⟨[.pure,.pure],[]⟩)
def zVJ:=zbN base 6 [(61,zgy)]
def zJr (columns:yH):Wy0 (Relation):=.bn (zce columns) λr0=>.k (⟨r0,[]⟩:Relation)
def zuA (columns:yH):=(zJr columns).fin default
def zEe:=zi zKV λx=>((zuA x.1).1,zXt (zuA x.1).2)
theorem zPR:SdP 27 zEe:=
 sT (cx':=zVJ) (zm ⟨zk7,trivial⟩) call27 func27 (lOK aN)
abbrev zqf:=Unit×Unit×Unit×Unit×Unit
abbrev zfA:=Relation×Relation×Relation×Relation×Unit
abbrev zpV:=Unit×Unit×Unit×Unit×Int×Unit
abbrev zfs:=Unit×Unit×Unit×Unit
abbrev zeq:=Relation×Relation×Relation×Unit
def zoK (a:Relation) (c:Relation) (x_:Relation) (u:Relation):Wy zqf zfA (Bool):=.bn (zj9 x_ c) λr2=>.bn (zj9 a u) λr1=>.i (r2.2 != 0) (.k true) (.i (r1.2 != 0) (.k true) (.bn (zfZ r2.1 r1.1) λr0=>.k r0))
def zoE (x:zqf) (y:zfA):=zoK y.1 y.2.1 y.2.2.1 y.2.2.2.1
def zwx (n:Nat) (a:Relation) (c:Relation) (x_:Relation) (u:Relation):=zA (zoE) default n ((),(),(),(),()) (a,c,x_,u,())
def zGp (r:Bool):LTree ty:=.done .ret [.lit (.bool r)] []
def zHv:LL ty zqf:=za (zfi 544 0) (za (zfi 545 0) (za (zfi 546 0) (za (zfi 547 0) zr)))
def zG3:BL ty zfA:=ziu (zg7 (λx=>(⟨x.1,x.2.1⟩:Relation)) (λx=>(x.Columns,x.Rows,())) (λ_=>rfl) (za (lSl 75) (za (lSl 54) zr))) false (ziu (zg7 (λx=>(⟨x.1,x.2.1⟩:Relation)) (λx=>(x.Columns,x.Rows,())) (λ_=>rfl) (za (lSl 75) (za (lSl 54) zr))) false (ziu (zg7 (λx=>(⟨x.1,x.2.1⟩:Relation)) (λx=>(x.Columns,x.Rows,())) (λ_=>rfl) (za (lSl 75) (za (lSl 54) zr))) false (ziu (zg7 (λx=>(⟨x.1,x.2.1⟩:Relation)) (λx=>(x.Columns,x.Rows,())) (λ_=>rfl) (za (lSl 75) (za (lSl 54) zr))) false (zbD))))
def zoG (e:Int) (a:Relation) (b:Relation) (c:Relation) (x_:Relation):Wy zpV zfA (Bool):=.bn (zj9 b c) λr7=>.i (e != 0) (.k true) (.i (r7.2 != 0) (.k true) (.bn (zwx 1 a c x_ r7.1) λr6=>.k r6))
def zox (x:zpV) (y:zfA):=zoG x.2.2.2.2.1 y.1 y.2.1 y.2.2.1 y.2.2.2.1
def zoR (n:Nat) (e:Int) (a:Relation) (b:Relation) (c:Relation) (x_:Relation):=zA (zox) default n ((),(),(),(),e,()) (a,b,c,x_,())
def zHk:LL ty zpV:=za (zfi 544 0) (za (zfi 545 0) (za (zfi 546 0) (za (zfi 547 0) (za zj zr))))
def zpP (a:Relation) (b:Relation) (c:Relation):Wy zfs zeq (Bool):=.bn (zj9 a b) λr18=>.bn (zj9 b a) λr17=>.bn (zuA a.Columns) λr16=>.bn (zj9 a r16) λr15=>.i (r18.2 != r17.2) (.k false) (.i (r18.2==0) (.bn (zfZ r18.1 r17.1) λr12=>.i (!r12) (.k false) (.i (r15.2 != 0) (.k false) (.bn (zfZ r15.1 a) λr11=>.i (!r11) (.k false) (.bn (zoR 1 r18.2 a b c r18.1) λr10=>.k r10)))) (.i (r15.2 != 0) (.k false) (.bn (zfZ r15.1 a) λr14=>.i (!r14) (.k false) (.bn (zoR 1 r18.2 a b c r18.1) λr13=>.k r13))))
def zpO (x:zfs) (y:zeq):=zpP y.1 y.2.1 y.2.2.1
def zxK (n:Nat) (a:Relation) (b:Relation) (c:Relation):=zA (zpO) default n ((),(),(),()) (a,b,c,())
def zIm:LL ty zfs:=za (zfi 544 0) (za (zfi 545 0) (za (zfi 546 0) zr))
def zIM:BL ty zeq:=ziu (zg7 (λx=>(⟨x.1,x.2.1⟩:Relation)) (λx=>(x.Columns,x.Rows,())) (λ_=>rfl) (za (lSl 75) (za (lSl 54) zr))) false (ziu (zg7 (λx=>(⟨x.1,x.2.1⟩:Relation)) (λx=>(x.Columns,x.Rows,())) (λ_=>rfl) (za (lSl 75) (za (lSl 54) zr))) false (ziu (zg7 (λx=>(⟨x.1,x.2.1⟩:Relation)) (λx=>(x.Columns,x.Rows,())) (λ_=>rfl) (za (lSl 75) (za (lSl 54) zr))) false (zbD)))
def zpW (a:Relation) (b:Relation) (c:Relation):Wy zfs zeq (Bool):=.bn (zCk 8 20 [a,b,c]) λr34=>.i (!r34) (.k true) (.bn (zhi a) λr33=>.i (!r33) (.k true) (.bn (zhi b) λr32=>.i (!r32) (.k true) (.bn (zhi c) λr31=>.i (!r31) (.k true) (.bn (zlK a.Columns b.Columns) λr30=>.i (!r30) (.k true) (.bn (zlK a.Columns c.Columns) λr29=>.i (!r29) (.k true) (.bn (zxK 1 a b c) λr28=>.k r28))))))
def zpE (x:zfs) (y:zeq):=zpW y.1 y.2.1 y.2.2.1
def zxV (n:Nat) (a:Relation) (b:Relation) (c:Relation):=zA (zpE) default n ((),(),(),()) (a,b,c,())
def zhQ:=z6Z zbp 136 [(10,zKe),(11,zND),(14,zmc),(16,zxD),(23,zAS),(26,zHG),(27,zEe)] [] [(3,(kpL [3,4,5])),(5,(kpL [3,4,5])),(10,(kpL [3,4,5,7,8])),(13,(kpL [3,5,7,13]))] [(3,0,(kpL [6])),(5,0,(kpL [6])),(10,0,(kpL [6])),(13,0,(kpL [6]))] [] [] [(13,spW zHv zG3 (zoE) default zGp λx y=>(1)),(10,spW zHk zG3 (zox) default zGp λx y=>(1)),(5,spW zIm zIM (zpO) default zGp λx y=>(1)),(3,spW zIm zIM (zpE) default zGp λx y=>(1))]
theorem zGi:zKB zhQ (jn (body f5) 13):=zPb (id:=13) (hl:=rfl)
theorem zGs:zKB zhQ (jn (body f5) 10):=zPb (id:=10) (hl:=rfl)
theorem zG4:zKB zhQ (jn (body f5) 5):=zPb (id:=5) (hl:=rfl)
theorem zGZ:zKB zhQ (jn (body f5) 3):=zPb (id:=3) (hl:=rfl)
def zyW (a:Relation) (b:Relation) (c:Relation):Wy0 (Bool):=.bn (zxV 1 a b c) λr42=>.k r42
def zhc (a:Relation) (b:Relation) (c:Relation):=(zyW a b c).fin default
def zJA:AL zbp zeq:=zg (zh (zda 25)) (zg (zh (zda 25)) (zg (zh (zda 25)) zC))
def znd:=zi zJA λx=>((zhc x.1 x.2.1 x.2.2.1).1,zSj (zhc x.1 x.2.1 x.2.2.1).2)
theorem zEL:Sound Tryz.prog zbp 5 znd:=
 zZQ (cx':=zhQ) zBb zPA zbaX (zbaa ⟨zV0,zY9.nodr,zqa.nodr,zCP.nodr,zK9.nodr,zTH,zPR.nodr,trivial⟩) call5 func5 (c:=body f5) (by kernel_rfl) (z1M (l:=[]) (by kernel_rfl) trivial (js:=[jn (body f5) 3,jn (body f5) 5,jn (body f5) 10,jn (body f5) 13]) (by kernel_rfl) ⟨zGZ,zG4,zGs,zGi,trivial⟩) (sg:=⟨[.pure],[]⟩)
def trV (v:Value):TT:=.l [.i v.Kind,.i v.Int,trB v.Text]
mutual
def zd4:At->TT
 | ⟨k,r,a,f,i,o,b⟩=>.l [.i k,.i r.Table,.i r.Seq,.l (zww a),.i f,.l (zic i),.i o,trV b]
def zrg:Fc->TT
 | ⟨x,e⟩=>.l [zd4 x,.i e]
def zbo:yC->List TT
 | []=>[]
 | x::r=>zrg x::zbo r
def zyr:Term->TT
 | ⟨c,fs⟩=>.l [.l (zbo fs),.i c]
def zdw:yB->List TT
 | []=>[]
 | x::r=>zyr x::zdw r
def zww:yA->List TT
 | []=>[]
 | x::r=>.l (zdw x)::zww r
def z7:Wd->TT
 | ⟨v,a⟩=>.l [trV v,.l (zdw a)]
def zic:yD->List TT
 | []=>[]
 | x::r=>z7 x::zic r
end
theorem zw3:∀ l,zbo l=l.map zrg
 | []=>by rw [zbo]; rfl
 | x::r=>by rw [zbo,zw3 r]; rfl
theorem zGk:∀ l,zdw l=l.map zyr
 | []=>by rw [zdw]; rfl
 | x::r=>by rw [zdw,zGk r]; rfl
theorem zCV:∀ l,zww l=l.map λx=>.l (zdw x)
 | []=>by rw [zww]; rfl
 | x::r=>by rw [zww,zCV r]; rfl
theorem zm4:∀ l,zic l=l.map z7
 | []=>by rw [zic]; rfl
 | x::r=>by rw [zic,zm4 r]; rfl
theorem zG8:∀ a b:List UInt8,(a.map λx=>TT.i (x.toNat:Int))=(b.map λx=>TT.i (x.toNat:Int))->a=b
 | [],[]=>λ_=>rfl
 | [],_::_=>λh=>by simp at h
 | _::_,[]=>λh=>by simp at h
 | x::a,y::b=>λh=>by
  simp only [List.map,qj,TT.i.injEq] at h;rw [zG8 a b h.2,UInt8.toNat_inj.1 (Int.ofNat.inj h.1)]
theorem zZw {a b:Value} (h:trV a=trV b):a=b:=by
 obtain ⟨k,n,s⟩:=a; obtain ⟨k',n',s'⟩:=b;simp only [trV,trB,TT.l.injEq,qj,TT.i.injEq,and_true] at h;obtain ⟨rfl,rfl,h⟩:=h;have:=zG8 _ _ h;obtain ⟨⟨l⟩⟩:=s; obtain ⟨⟨l'⟩⟩:=s';simp only at this; subst this; rfl
mutual
theorem zZh:∀ a b:At,zd4 a=zd4 b->a=b
 | ⟨k,r,a,f,i,o,v⟩,⟨k',r',a',f',i',o',v'⟩=>λh=>by
  simp only [zd4,TT.l.injEq,qj,TT.i.injEq,and_true] at h;obtain ⟨rfl,h1,h2,h3,rfl,h4,rfl,h5⟩:=h;obtain ⟨t,s⟩:=r; obtain ⟨t',s'⟩:=r';simp only at h1 h2; subst h1 h2;rw [zYG a a' h3,zV7 i i' h4,zZw h5]
theorem z3L:∀ a b:Fc,zrg a=zrg b->a=b
 | ⟨x,e⟩,⟨x',e'⟩=>λh=>by
  simp only [zrg,TT.l.injEq,qj,TT.i.injEq,and_true] at h;rw [zZh x x' h.1,h.2]
theorem zBc:∀ a b:yC,zbo a=zbo b->a=b
 | [],[]=>λ_=>rfl
 | [],_::_=>λh=>by simp [zbo] at h
 | _::_,[]=>λh=>by simp [zbo] at h
 | x::a,y::b=>λh=>by
  simp only [zbo,qj] at h;rw [z3L x y h.1,zBc a b h.2]
theorem z6n:∀ a b:Term,zyr a=zyr b->a=b
 | ⟨c,l⟩,⟨c',l'⟩=>λh=>by
  simp only [zyr,TT.l.injEq,qj,TT.i.injEq,and_true] at h;rw [zBc l l' h.1,h.2]
theorem zFY:∀ a b:yB,zdw a=zdw b->a=b
 | [],[]=>λ_=>rfl
 | [],_::_=>λh=>by simp [zdw] at h
 | _::_,[]=>λh=>by simp [zdw] at h
 | x::a,y::b=>λh=>by
  simp only [zdw,qj] at h;rw [z6n x y h.1,zFY a b h.2]
theorem zYG:∀ a b:yA,zww a=zww b->a=b
 | [],[]=>λ_=>rfl
 | [],_::_=>λh=>by simp [zww] at h
 | _::_,[]=>λh=>by simp [zww] at h
 | x::a,y::b=>λh=>by
  simp only [zww,qj,TT.l.injEq] at h;rw [zFY x y h.1,zYG a b h.2]
theorem zYs:∀ a b:Wd,z7 a=z7 b->a=b
 | ⟨c,l⟩,⟨c',l'⟩=>λh=>by
  simp only [z7,TT.l.injEq,qj,and_true] at h;rw [zZw h.1,zFY l l' h.2]
theorem zV7:∀ a b:yD,zic a=zic b->a=b
 | [],[]=>λ_=>rfl
 | [],_::_=>λh=>by simp [zic] at h
 | _::_,[]=>λh=>by simp [zic] at h
 | x::a,y::b=>λh=>by
  simp only [zic,qj] at h;rw [zYs x y h.1,zV7 a b h.2]
end
def zdb (P:yB->Prop) (x:At):Prop:=
 (x.Ag.length<=1000000/\x.Items.length<=1000000/\x.Bd.Text.size<=1000000000000)/\(∀ a∈x.Ag,P a)/\∀ w∈x.Items,w.Value.Text.size<=1000000000000/\P w.Ann
def zhd (P:yB->Prop) (l:yC):Prop:=l.length<=1000000/\∀ f∈l,zdb P f.At
def zo:Nat->yB->Prop
 | 0,_=>False
 | n+1,a=>a.length<=1000000/\∀ t∈a,zhd (zo n) t.Fs
theorem zdb.imp {P Q:yB->Prop} (h:∀ a,P a->Q a) {x:At} (hx:zdb P x):zdb Q x:=⟨hx.1,λa ha=>h a (hx.2.1 a ha),λw hw=>⟨(hx.2.2 w hw).1,h _ (hx.2.2 w hw).2⟩⟩
theorem zo.succ:∀ (n:Nat) (a:yB),zo n a->zo (n+1) a
 | 0,_,h=>h.elim
 | n+1,a,h=>⟨h.1,λt ht=>⟨(h.2 t ht).1,λf hf=>((h.2 t ht).2 f hf).imp (zo.succ n)⟩⟩
theorem zo.mono {n m:Nat} {a:yB} (h:zo n a) (hm:n<=m):zo m a:=by
 obtain ⟨k,rfl⟩:=Nat.exists_eq_add_of_le hm;clear hm;induction k with
 | zero=>exact h
 | succ k ih=>exact zo.succ _ _ ih
end Go.Proofs.YtoknknbmfmddbaaGreatDoor
end
