/- Texts of this claim, joined (the program, its functions in plain words, and what they compute). -/
import Derived.Test.YtddkaehkimnklaaGreatDoorGC1
import Derived.Test.YtddkaehkimnklaaGreatDoorGA3
import Derived.Test.YtddkaehkimnklaaGreatDoorGC4
import Derived.Test.YtddkaehkimnklaaGreatDoorGB1
set_option autoImplicit false
set_option linter.unusedVariables false
set_option linter.unusedSectionVars false
set_option linter.unusedSimpArgs false
set_option maxRecDepth 1000000
set_option maxHeartbeats 0
noncomputable section
namespace Go.Proofs.YtddkaehkimnklaaGreatDoor
open Go Go.Ab
abbrev ttTref37insert0:=List Value×Unit×Int×Unit
abbrev ttTref37insert1:=List Value×Int×Value
def zrO (l:List Value) (i:Int) (v:Value):Wy ttTref37insert0 (Value×Unit) ttTref37insert1:=.i (decide (i<Int.ofNat l.length)) (.i (decide (0≤i)&&decide (i<Int.ofNat l.length)) (.bn (ziK (l.getD i.toNat default) v) fun r0=>.i (decide (r0≤0)) (.h (l,(),(IntKind.i64.wrap (i+1)),()) (v,())) (.k (l,i,v))) .d) (.k (l,i,v))
def zsb (x:ttTref37insert0) (y:Value×Unit):Wy ttTref37insert0 (Value×Unit) ttTref37insert1:=zrO x.1 x.2.2.1 y.1
def zrM (n:Nat) (l:List Value) (i:Int) (v:Value):Bool×ttTref37insert1:=zN (zsb) default n (l,(),i,()) (v,())
def zwg (r:ttTref37insert1):LTree ty:=.done (.exit 0) [.sl 40 r.1,.ptr 132 0,.lit (.int .i64 r.2.1)] [.box (base.enc 40 r.2.2) false]
def zxV:LL ty ttTref37insert0:=za (lSl 40) (za (zct 132 0) (za (lInt .i64) zG))
def zxB:BL ty (Value×Unit):=bBox (zhc (fun x=>(⟨x.1,x.2.1,x.2.2.1⟩:Value)) (fun x=>(x.Kind,x.Int,x.Text,())) (fun _=>rfl) (za (lInt .i64) (za (lInt .i64) (za lStr zG)))) false (bNil)
def zxg:Cx ty:=mkCx base 33 [(16,zn1)] [] [(2,[(0,.keep),(3,.keep),(5,.keep)])] [(2,1,[(0,.keep),(3,.keep),(5,.keep)])] [(2,spW zxV zxB (zsb) default zwg fun x y=>(x.1.length+Int.toNat x.2.2.1+1))] []
theorem zC7:zS zxg (lp (body Tryz.f81) 0):=zL (id:=2) (V:=zxV) (B:=zxB) (W:=zsb) (z:=default) (tr:=zwg) (m:=fun x y=>(x.1.length+Int.toNat x.2.2.1+1))
def zs0 (l:List Value) (v:Value):Wy0 (List Value):=.bn (zrM (l.length+Int.toNat 0+1) l 0 v) fun r2=>.i (decide ((0:Int)≤(0:Int))&&decide (0≤r2.2.1)&&decide (r2.2.1≤Int.ofNat r2.1.length)) (.i (decide ((0+(List.take (r2.2.1.toNat - Int.toNat 0) (List.drop (Int.toNat 0) r2.1)).length)*32≤reach)) (.i (decide ((([]++List.take (r2.2.1.toNat - Int.toNat 0) (List.drop (Int.toNat 0) r2.1)).length+[r2.2.2].length)*32≤reach)) (.i (decide (0≤r2.2.1)&&decide (r2.2.1≤Int.ofNat r2.1.length)&&decide (Int.ofNat r2.1.length≤Int.ofNat r2.1.length)) (.i (decide ((([]++List.take (r2.2.1.toNat - Int.toNat 0) (List.drop (Int.toNat 0) r2.1)++[r2.2.2]).length+(List.take ((Int.ofNat r2.1.length).toNat - r2.2.1.toNat) (List.drop r2.2.1.toNat r2.1)).length)*32≤reach)) (.k ([]++List.take (r2.2.1.toNat - Int.toNat 0) (List.drop (Int.toNat 0) r2.1)++[r2.2.2]++List.take ((Int.ofNat r2.1.length).toNat - r2.2.1.toNat) (List.drop r2.2.1.toNat r2.1))) .d) .d) .d) .d) .d
def zoa (l:List Value) (v:Value):Bool×List Value:=(zs0 l v).fin default
def zvW (r:List Value):ARes ty:=⟨[.own 40 r],[]⟩
def zy2:AL base (List Value×Value×Unit):=zf (zg (vSl 40)) (zf (zg (vAgg 40)) aNil)
def zuO:Ab.Spec ty:=zm zy2 fun x=>((zoa x.1 x.2.1).1,zvW (zoa x.1 x.2.1).2)
theorem zBB:Sound Tryz.prog base 81 zuO:=
 zu (cx':=zxg) zH zn zD (zx ⟨zsG,trivial⟩) Tryz.call81 Tryz.func81 (c:=body Tryz.f81) (by kernel_rfl) (zh (l:=[lp (body Tryz.f81) 0]) (by kernel_rfl) ⟨zC7,trivial⟩) (sg:=⟨[.own 40],[]⟩) (A:=zy2) (res:=zvW) (W:=fun x=>zs0 x.1 x.2.1) (z:=default)
abbrev ttTref37column0:=List Row×Int×Unit×Unit×Int×Unit
abbrev ttTref37column1:=(Int×Int×Int×ByteArray×Int×Int×ByteArray×Unit×Unit)×List Value×Unit
abbrev ttTref37column2:=Int×Int×Int×ByteArray×Int×Int×ByteArray×List Value
abbrev ttTref37column3:=Unit×Unit×Unit×Int×Int×Unit
abbrev ttTref37column4:=(Int×Int×Int×ByteArray×Int×Int×ByteArray×Unit×Unit)×List Value×(Int×Int×Int×ByteArray×Int×Int×ByteArray×Unit×Unit)×Unit
abbrev ttTref37column5:=Int×Int×Int×Int×ByteArray×Int×Int×ByteArray×List Value×Int×Int×Int×ByteArray×Int×Int×ByteArray
abbrev ttTref37column6:=(Int×Int×Int×ByteArray×Int×Int×ByteArray×Unit×Unit)×List Value×(Int×Int×Int×ByteArray×Int×Int×ByteArray×Unit×Unit)×List Value×Unit
abbrev ttTref37column7:=Int×Int×Int×ByteArray×Int×Int×ByteArray×Int×Int×Int×ByteArray×Int×Int×ByteArray×List Value
def zrB (rows:List Row) (k:Int) (i:Int) (t4_0:Int) (t4_1:Int) (t4_2:Int) (t4_3:ByteArray) (t4_4:Int) (t4_5:Int) (t4_6:ByteArray) (l:List Value):Wy ttTref37column0 ttTref37column1 ttTref37column2:=.i (decide (i<Int.ofNat rows.length)) (.i (decide (0≤i)&&decide (i<Int.ofNat rows.length)) (.i (decide (0≤k)&&decide (k<Int.ofNat (rows.getD i.toNat default).Values.length)) (.bn (zoa l ((rows.getD i.toNat default).Values.getD k.toNat default)) fun r2=>.h (rows,k,(),(),(IntKind.i64.wrap (i+1)),()) ((t4_0,t4_1,t4_2,t4_3,t4_4,t4_5,t4_6,(),()),(r2),())) .d) .d) (.k (t4_0,t4_1,t4_2,t4_3,t4_4,t4_5,t4_6,l))
def znl (x:ttTref37column0) (y:ttTref37column1):Wy ttTref37column0 ttTref37column1 ttTref37column2:=zrB x.1 x.2.1 x.2.2.2.2.1 y.1.1 y.1.2.1 y.1.2.2.1 y.1.2.2.2.1 y.1.2.2.2.2.1 y.1.2.2.2.2.2.1 y.1.2.2.2.2.2.2.1 y.2.1
def zr2 (n:Nat) (rows:List Row) (k:Int) (i:Int) (t4_0:Int) (t4_1:Int) (t4_2:Int) (t4_3:ByteArray) (t4_4:Int) (t4_5:Int) (t4_6:ByteArray) (l:List Value):Bool×ttTref37column2:=zN (znl) default n (rows,k,(),(),i,()) ((t4_0,t4_1,t4_2,t4_3,t4_4,t4_5,t4_6,(),()),l,())
def zwc (r:ttTref37column2):LTree ty:=.done (.exit 0) [.ptr 344 0,.own 345] [.box ([.lit (.int .i64 r.1),.lit (.int .i64 r.2.1),.lit (.int .i64 r.2.2.1),.lit (.string r.2.2.2.1),.lit (.int .i64 r.2.2.2.2.1),.lit (.int .i64 r.2.2.2.2.2.1),.lit (.string r.2.2.2.2.2.2.1),.lit (.slice none 0 0)]) false,.arr 40 r.2.2.2.2.2.2.2 false]
def zxu:LL ty ttTref37column0:=za (lSl 38) (za (lInt .i64) (za (zct 344 0) (za (lOwn 345) (za (lInt .i64) zG))))
def zxT:BL ty ttTref37column1:=bBox (za (lInt .i64) (za (lInt .i64) (za (lInt .i64) (za lStr (za (lInt .i64) (za (lInt .i64) (za lStr (za lNil zG)))))))) false (bArr 40 false (bNil))
def zqg (n_:Int) (i:Int) (t4_0:Int) (t4_1:Int) (t4_2:Int) (t4_3:ByteArray) (t4_4:Int) (t4_5:Int) (t4_6:ByteArray) (l:List Value) (c_0:Int) (c_1:Int) (c_2:Int) (c_3:ByteArray) (c_4:Int) (c_5:Int) (c_6:ByteArray):Wy ttTref37column3 ttTref37column4 ttTref37column5:=.i (decide (i<n_)) (.i (i==0) (.h ((),(),(),n_,(IntKind.i64.wrap (i+1)),()) ((t4_0,t4_1,t4_2,t4_3,t4_4,t4_5,t4_6,(),()),l,((IntKind.i64.wrap (c_0+1)),c_1,c_2,c_3,c_4,c_5,c_6,(),()),())) (.i (decide (0≤i)&&decide (i<Int.ofNat l.length)) (.i (decide (0≤IntKind.i64.wrap (i - 1))&&decide (IntKind.i64.wrap (i - 1)<Int.ofNat l.length)) (.i (!((l.getD i.toNat default).Kind==(l.getD (IntKind.i64.wrap (i - 1)).toNat default).Kind&&((l.getD i.toNat default).Int==(l.getD (IntKind.i64.wrap (i - 1)).toNat default).Int&&((l.getD i.toNat default).Text.toList==(l.getD (IntKind.i64.wrap (i - 1)).toNat default).Text.toList&&true)))) (.h ((),(),(),n_,(IntKind.i64.wrap (i+1)),()) ((t4_0,t4_1,t4_2,t4_3,t4_4,t4_5,t4_6,(),()),l,((IntKind.i64.wrap (c_0+1)),c_1,c_2,c_3,c_4,c_5,c_6,(),()),())) (.h ((),(),(),n_,(IntKind.i64.wrap (i+1)),()) ((t4_0,t4_1,t4_2,t4_3,t4_4,t4_5,t4_6,(),()),l,(c_0,c_1,c_2,c_3,c_4,c_5,c_6,(),()),()))) .d) .d)) (.k (n_,t4_0,t4_1,t4_2,t4_3,t4_4,t4_5,t4_6,l,c_0,c_1,c_2,c_3,c_4,c_5,c_6))
def zme (x:ttTref37column3) (y:ttTref37column4):Wy ttTref37column3 ttTref37column4 ttTref37column5:=zqg x.2.2.2.1 x.2.2.2.2.1 y.1.1 y.1.2.1 y.1.2.2.1 y.1.2.2.2.1 y.1.2.2.2.2.1 y.1.2.2.2.2.2.1 y.1.2.2.2.2.2.2.1 y.2.1 y.2.2.1.1 y.2.2.1.2.1 y.2.2.1.2.2.1 y.2.2.1.2.2.2.1 y.2.2.1.2.2.2.2.1 y.2.2.1.2.2.2.2.2.1 y.2.2.1.2.2.2.2.2.2.1
def zqc (n:Nat) (n_:Int) (i:Int) (t4_0:Int) (t4_1:Int) (t4_2:Int) (t4_3:ByteArray) (t4_4:Int) (t4_5:Int) (t4_6:ByteArray) (l:List Value) (c_0:Int) (c_1:Int) (c_2:Int) (c_3:ByteArray) (c_4:Int) (c_5:Int) (c_6:ByteArray):Bool×ttTref37column5:=zN (zme) default n ((),(),(),n_,i,()) ((t4_0,t4_1,t4_2,t4_3,t4_4,t4_5,t4_6,(),()),l,(c_0,c_1,c_2,c_3,c_4,c_5,c_6,(),()),())
def zuU (r:ttTref37column5):LTree ty:=.done (.exit 2) [.ptr 344 0,.own 345,.ptr 346 0,.lit (.int .i64 r.1)] [.box ([.lit (.int .i64 r.2.1),.lit (.int .i64 r.2.2.1),.lit (.int .i64 r.2.2.2.1),.lit (.string r.2.2.2.2.1),.lit (.int .i64 r.2.2.2.2.2.1),.lit (.int .i64 r.2.2.2.2.2.2.1),.lit (.string r.2.2.2.2.2.2.2.1),.lit (.slice none 0 0)]) false,.arr 40 r.2.2.2.2.2.2.2.2.1 false,.box ([.lit (.int .i64 r.2.2.2.2.2.2.2.2.2.1),.lit (.int .i64 r.2.2.2.2.2.2.2.2.2.2.1),.lit (.int .i64 r.2.2.2.2.2.2.2.2.2.2.2.1),.lit (.string r.2.2.2.2.2.2.2.2.2.2.2.2.1),.lit (.int .i64 r.2.2.2.2.2.2.2.2.2.2.2.2.2.1),.lit (.int .i64 r.2.2.2.2.2.2.2.2.2.2.2.2.2.2.1),.lit (.string r.2.2.2.2.2.2.2.2.2.2.2.2.2.2.2),.lit (.slice none 0 0)]) false]
def zvJ:LL ty ttTref37column3:=za (zct 344 0) (za (lOwn 345) (za (zct 346 0) (za (lInt .i64) (za (lInt .i64) zG))))
def zws:BL ty ttTref37column4:=bBox (za (lInt .i64) (za (lInt .i64) (za (lInt .i64) (za lStr (za (lInt .i64) (za (lInt .i64) (za lStr (za lNil zG)))))))) false (bArr 40 false (bBox (za (lInt .i64) (za (lInt .i64) (za (lInt .i64) (za lStr (za (lInt .i64) (za (lInt .i64) (za lStr (za lNil zG)))))))) false (bNil)))
def zqb (n_:Int) (i:Int) (t4_0:Int) (t4_1:Int) (t4_2:Int) (t4_3:ByteArray) (t4_4:Int) (t4_5:Int) (t4_6:ByteArray) (l:List Value) (c_0:Int) (c_1:Int) (c_2:Int) (c_3:ByteArray) (c_4:Int) (c_5:Int) (c_6:ByteArray) (b3:List Value):Wy ttTref37column3 ttTref37column6 ttTref37column7:=.i (decide (i≤8)) (.i (decide (0≤IntKind.i64.wrap (IntKind.i64.wrap ((IntKind.i64.wrap (IntKind.i64.wrap (i*n_)+7)).tdiv 8) - 1))&&decide (IntKind.i64.wrap (IntKind.i64.wrap ((IntKind.i64.wrap (IntKind.i64.wrap (i*n_)+7)).tdiv 8) - 1)<Int.ofNat l.length)) (.i (decide ((b3.length+[l.getD (IntKind.i64.wrap (IntKind.i64.wrap ((IntKind.i64.wrap (IntKind.i64.wrap (i*n_)+7)).tdiv 8) - 1)).toNat default].length)*32≤reach)) (.h ((),(),(),n_,(IntKind.i64.wrap (i+1)),()) ((t4_0,t4_1,t4_2,t4_3,t4_4,t4_5,t4_6,(),()),l,(c_0,c_1,c_2,c_3,c_4,c_5,c_6,(),()),(b3++[l.getD (IntKind.i64.wrap (IntKind.i64.wrap ((IntKind.i64.wrap (IntKind.i64.wrap (i*n_)+7)).tdiv 8) - 1)).toNat default]),())) .d) .d) (.k (t4_0,t4_1,t4_2,t4_3,t4_4,t4_5,t4_6,c_0,c_1,c_2,c_3,c_4,c_5,c_6,b3))
def zl4 (x:ttTref37column3) (y:ttTref37column6):Wy ttTref37column3 ttTref37column6 ttTref37column7:=zqb x.2.2.2.1 x.2.2.2.2.1 y.1.1 y.1.2.1 y.1.2.2.1 y.1.2.2.2.1 y.1.2.2.2.2.1 y.1.2.2.2.2.2.1 y.1.2.2.2.2.2.2.1 y.2.1 y.2.2.1.1 y.2.2.1.2.1 y.2.2.1.2.2.1 y.2.2.1.2.2.2.1 y.2.2.1.2.2.2.2.1 y.2.2.1.2.2.2.2.2.1 y.2.2.1.2.2.2.2.2.2.1 y.2.2.2.1
def zp8 (n:Nat) (n_:Int) (i:Int) (t4_0:Int) (t4_1:Int) (t4_2:Int) (t4_3:ByteArray) (t4_4:Int) (t4_5:Int) (t4_6:ByteArray) (l:List Value) (c_0:Int) (c_1:Int) (c_2:Int) (c_3:ByteArray) (c_4:Int) (c_5:Int) (c_6:ByteArray) (b3:List Value):Bool×ttTref37column7:=zN (zl4) default n ((),(),(),n_,i,()) ((t4_0,t4_1,t4_2,t4_3,t4_4,t4_5,t4_6,(),()),l,(c_0,c_1,c_2,c_3,c_4,c_5,c_6,(),()),b3,())
def zvb (r:ttTref37column7):LTree ty:=.done (.exit 4) [.ptr 344 0,.ptr 345 0] [.box ([.lit (.int .i64 r.1),.lit (.int .i64 r.2.1),.lit (.int .i64 r.2.2.1),.lit (.string r.2.2.2.1),.lit (.int .i64 r.2.2.2.2.1),.lit (.int .i64 r.2.2.2.2.2.1),.lit (.string r.2.2.2.2.2.2.1),.lit (.slice none 0 0)]) false,.box ([.lit (.int .i64 r.2.2.2.2.2.2.2.1),.lit (.int .i64 r.2.2.2.2.2.2.2.2.1),.lit (.int .i64 r.2.2.2.2.2.2.2.2.2.1),.lit (.string r.2.2.2.2.2.2.2.2.2.2.1),.lit (.int .i64 r.2.2.2.2.2.2.2.2.2.2.2.1),.lit (.int .i64 r.2.2.2.2.2.2.2.2.2.2.2.2.1),.lit (.string r.2.2.2.2.2.2.2.2.2.2.2.2.2.1),.own 346]) false,.arr 40 r.2.2.2.2.2.2.2.2.2.2.2.2.2.2 false]
def zwh:LL ty ttTref37column3:=za (zct 344 0) (za (lOwn 345) (za (zct 346 0) (za (lInt .i64) (za (lInt .i64) zG))))
def zwt:BL ty ttTref37column6:=bBox (za (lInt .i64) (za (lInt .i64) (za (lInt .i64) (za lStr (za (lInt .i64) (za (lInt .i64) (za lStr (za lNil zG)))))))) false (bArr 40 false (bBox (za (lInt .i64) (za (lInt .i64) (za (lInt .i64) (za lStr (za (lInt .i64) (za (lInt .i64) (za lStr (za (lOwn 347) zG)))))))) false (bArr 40 false (bNil))))
def zwM (x:ttTref37column0) (y:ttTref37column1):Nat:=(x.1.length+Int.toNat x.2.1+Int.toNat x.2.2.2.2.1+Int.toNat y.1.1+Int.toNat y.1.2.1+Int.toNat y.1.2.2.1+y.1.2.2.2.1.size+Int.toNat y.1.2.2.2.2.1+Int.toNat y.1.2.2.2.2.2.1+y.1.2.2.2.2.2.2.1.size+y.2.1.length+1000)
def zu2 (x:ttTref37column3) (y:ttTref37column4):Nat:=(Int.toNat x.2.2.2.1+Int.toNat x.2.2.2.2.1+Int.toNat y.1.1+Int.toNat y.1.2.1+Int.toNat y.1.2.2.1+y.1.2.2.2.1.size+Int.toNat y.1.2.2.2.2.1+Int.toNat y.1.2.2.2.2.2.1+y.1.2.2.2.2.2.2.1.size+y.2.1.length+Int.toNat y.2.2.1.1+Int.toNat y.2.2.1.2.1+Int.toNat y.2.2.1.2.2.1+y.2.2.1.2.2.2.1.size+Int.toNat y.2.2.1.2.2.2.2.1+Int.toNat y.2.2.1.2.2.2.2.2.1+y.2.2.1.2.2.2.2.2.2.1.size+1000)
def zuJ (x:ttTref37column3) (y:ttTref37column6):Nat:=(Int.toNat x.2.2.2.1+Int.toNat x.2.2.2.2.1+Int.toNat y.1.1+Int.toNat y.1.2.1+Int.toNat y.1.2.2.1+y.1.2.2.2.1.size+Int.toNat y.1.2.2.2.2.1+Int.toNat y.1.2.2.2.2.2.1+y.1.2.2.2.2.2.2.1.size+y.2.1.length+Int.toNat y.2.2.1.1+Int.toNat y.2.2.1.2.1+Int.toNat y.2.2.1.2.2.1+y.2.2.1.2.2.2.1.size+Int.toNat y.2.2.1.2.2.2.2.1+Int.toNat y.2.2.1.2.2.2.2.2.1+y.2.2.1.2.2.2.2.2.2.1.size+y.2.2.2.1.length+1000)
def zm8:Cx ty:=mkCx base 86 [(81,zuO)] [] [(3,[(0,.keep),(1,.keep),(4,.keep),(5,.keep),(6,.keep)]),(11,[(4,.keep),(5,.keep),(7,.keep),(8,.keep),(9,.keep)]),(17,[(4,.keep),(5,.keep),(7,.boxOwn [(7,40)]),(8,.keep),(10,.keep)])] [(3,1,[(4,.keep),(5,.keep)]),(11,3,[(4,.keep),(5,.keep),(7,.keep),(8,.keep)]),(17,5,[(4,.keep),(7,.keep)])] [(3,spW zxu zxT (znl) default zwc zwM),(11,spW zvJ zws (zme) default zuU zu2),(17,spW zwh zwt (zl4) default zvb zuJ)] []
theorem zDb:zS zm8 (lp (body Tryz.f40) 0):=zL (id:=3) (V:=zxu) (B:=zxT) (W:=znl) (z:=default) (tr:=zwc) (m:=zwM)
theorem zCq:zS zm8 (lp (body Tryz.f40) 1):=zL (id:=11) (V:=zvJ) (B:=zws) (W:=zme) (z:=default) (tr:=zuU) (m:=zu2)
theorem zCy:zS zm8 (lp (body Tryz.f40) 2):=zL (id:=17) (V:=zwh) (B:=zwt) (W:=zl4) (z:=default) (tr:=zvb) (m:=zuJ)
def zsV (rows:List Row) (k:Int):Wy0 (ColumnStats):=.bn (zr2 (rows.length+k.toNat +Int.toNat 0+Int.toNat 0+Int.toNat 0+Int.toNat 0+(ByteArray.mk #[]).size+Int.toNat 0+Int.toNat 0+(ByteArray.mk #[]).size+0+1000) rows k 0 0 0 0 (ByteArray.mk #[]) 0 0 (ByteArray.mk #[]) []) fun r6=>.i (Int.ofNat r6.2.2.2.2.2.2.2.length==0) (.k (⟨0,(⟨0,0,ByteArray.mk #[]⟩:Value),(⟨0,0,ByteArray.mk #[]⟩:Value),[]⟩:ColumnStats)) (.bn (zqc ((Int.ofNat r6.2.2.2.2.2.2.2.length).toNat +Int.toNat 0+r6.1.toNat +r6.2.1.toNat +r6.2.2.1.toNat +r6.2.2.2.1.size+r6.2.2.2.2.1.toNat +r6.2.2.2.2.2.1.toNat +r6.2.2.2.2.2.2.1.size+r6.2.2.2.2.2.2.2.length+Int.toNat 0+Int.toNat 0+Int.toNat 0+(ByteArray.mk #[]).size+Int.toNat 0+Int.toNat 0+(ByteArray.mk #[]).size+1000) (Int.ofNat r6.2.2.2.2.2.2.2.length) 0 r6.1 r6.2.1 r6.2.2.1 r6.2.2.2.1 r6.2.2.2.2.1 r6.2.2.2.2.2.1 r6.2.2.2.2.2.2.1 r6.2.2.2.2.2.2.2 0 0 0 (ByteArray.mk #[]) 0 0 (ByteArray.mk #[])) fun r5=>.i (decide ((0:Int)≤(0:Int))&&decide (0<Int.ofNat r5.2.2.2.2.2.2.2.2.1.length)) (.i (decide (0≤IntKind.i64.wrap (r5.1 - 1))&&decide (IntKind.i64.wrap (r5.1 - 1)<Int.ofNat r5.2.2.2.2.2.2.2.2.1.length)) (.bn (zp8 (r5.1.toNat +Int.toNat 1+r5.2.1.toNat +r5.2.2.1.toNat +r5.2.2.2.1.toNat +r5.2.2.2.2.1.size+r5.2.2.2.2.2.1.toNat +r5.2.2.2.2.2.2.1.toNat +r5.2.2.2.2.2.2.2.1.size+r5.2.2.2.2.2.2.2.2.1.length+r5.2.2.2.2.2.2.2.2.2.1.toNat +(r5.2.2.2.2.2.2.2.2.1.getD (Int.toNat 0) default).Kind.toNat +(r5.2.2.2.2.2.2.2.2.1.getD (Int.toNat 0) default).Int.toNat +(r5.2.2.2.2.2.2.2.2.1.getD (Int.toNat 0) default).Text.size+(r5.2.2.2.2.2.2.2.2.1.getD (IntKind.i64.wrap (r5.1 - 1)).toNat default).Kind.toNat +(r5.2.2.2.2.2.2.2.2.1.getD (IntKind.i64.wrap (r5.1 - 1)).toNat default).Int.toNat +(r5.2.2.2.2.2.2.2.2.1.getD (IntKind.i64.wrap (r5.1 - 1)).toNat default).Text.size+0+1000) r5.1 1 r5.2.1 r5.2.2.1 r5.2.2.2.1 r5.2.2.2.2.1 r5.2.2.2.2.2.1 r5.2.2.2.2.2.2.1 r5.2.2.2.2.2.2.2.1 r5.2.2.2.2.2.2.2.2.1 r5.2.2.2.2.2.2.2.2.2.1 (r5.2.2.2.2.2.2.2.2.1.getD (Int.toNat 0) default).Kind (r5.2.2.2.2.2.2.2.2.1.getD (Int.toNat 0) default).Int (r5.2.2.2.2.2.2.2.2.1.getD (Int.toNat 0) default).Text (r5.2.2.2.2.2.2.2.2.1.getD (IntKind.i64.wrap (r5.1 - 1)).toNat default).Kind (r5.2.2.2.2.2.2.2.2.1.getD (IntKind.i64.wrap (r5.1 - 1)).toNat default).Int (r5.2.2.2.2.2.2.2.2.1.getD (IntKind.i64.wrap (r5.1 - 1)).toNat default).Text []) fun r4=>.k (⟨r4.2.2.2.2.2.2.2.1,(⟨r4.2.2.2.2.2.2.2.2.1,r4.2.2.2.2.2.2.2.2.2.1,r4.2.2.2.2.2.2.2.2.2.2.1⟩:Value),(⟨r4.2.2.2.2.2.2.2.2.2.2.2.1,r4.2.2.2.2.2.2.2.2.2.2.2.2.1,r4.2.2.2.2.2.2.2.2.2.2.2.2.2.1⟩:Value),r4.2.2.2.2.2.2.2.2.2.2.2.2.2.2⟩:ColumnStats)) .d) .d)
def znO (rows:List Row) (k:Int):Bool×ColumnStats:=(zsV rows k).fin default
def zvR (r:ColumnStats):ARes ty:=⟨[.pure (.agg (base.enc 43 r))],[]⟩
def zzs:AL base (List Row×Int×Unit):=zf (zg (vSl 38)) (zf (zg (vInt .i64)) aNil)
def zu5:Ab.Spec ty:=zm zzs fun x=>((znO x.1 x.2.1).1,zvR (znO x.1 x.2.1).2)
theorem zBk:Sound Tryz.prog base 40 zu5:=
 zu (cx':=zm8) zH zn zD (zx ⟨zBB,trivial⟩) Tryz.call40 Tryz.func40 (c:=body Tryz.f40) (by kernel_rfl) (zh (l:=[lp (body Tryz.f40) 0,lp (body Tryz.f40) 1,lp (body Tryz.f40) 2]) (by kernel_rfl) ⟨zDb,zCq,zCy,trivial⟩) (sg:=⟨[.pure],[]⟩) (A:=zzs) (res:=zvR) (W:=fun x=>zsV x.1 x.2.1) (z:=default)
abbrev ttTref37Gather0:=Unit×Unit×Int×Unit
abbrev ttTref37Gather1:=Table×(Int×Int×Unit×Unit)×Unit
abbrev ttTref37Gather2:=(Int×Int)⊕(Table×Int×Int)
abbrev ttTref37Gather3:=Unit×Unit×Unit×Int×Unit
abbrev ttTref37Gather4:=Table×(Int×Int×Unit×Unit)×(Int×Int×Unit×Unit)×List ColumnStats×Unit
abbrev ttTref37Gather5:=Int×Int×Int×Int×List ColumnStats
def zkb (i:Int) (t:Table) (t2_0:Int) (t2_1:Int):Wy ttTref37Gather0 ttTref37Gather1 ttTref37Gather2:=.i (decide (i<Int.ofNat t.Rows.length)) (.i (decide (0≤i)&&decide (i<Int.ofNat t.Rows.length)) (.bn (zr0 t.Columns (t.Rows.getD i.toNat default).Values) fun r2=>.i (!r2) (.k (.inl (0,0))) (.h ((),(),(IntKind.i64.wrap (i+1)),()) (t,(t2_0,t2_1,(),()),()))) .d) (.k (.inr (t,t2_0,t2_1)))
def zm3 (x:ttTref37Gather0) (y:ttTref37Gather1):Wy ttTref37Gather0 ttTref37Gather1 ttTref37Gather2:=zkb x.2.2.1 y.1 y.2.1.1 y.2.1.2.1
def zxW (n:Nat) (i:Int) (t:Table) (t2_0:Int) (t2_1:Int):Bool×ttTref37Gather2:=zN (zm3) (.inl default) n ((),(),i,()) (t,(t2_0,t2_1,(),()),())
def zww (r:ttTref37Gather2):LTree ty:=.ite (isL r) (.done .ret [.ptr 232 0] [.box ([.lit (.int .i64 ((getL r).1)),.lit (.int .i64 ((getL r).2)),.lit (.slice none 0 0)]) false]) (.done (.exit 0) [.ptr 232 0,.ptr 233 0] [.box (base.enc 25 (getR r).1) false,.box ([.lit (.int .i64 (getR r).2.1),.lit (.int .i64 (getR r).2.2),.lit (.slice none 0 0)]) false])
def zxY:LL ty ttTref37Gather0:=za (zct 232 0) (za (zct 233 0) (za (lInt .i64) zG))
def zxt:BL ty ttTref37Gather1:=bBox (zhc (fun x=>(⟨x.1,x.2.1,x.2.2.1,x.2.2.2.1⟩:Table)) (fun x=>(x.ID,x.Name,x.Columns,x.Rows,())) (fun _=>rfl) (za (lInt .i64) (za lStr (za (lSl 67) (za (lSl 38) zG))))) false (bBox (za (lInt .i64) (za (lInt .i64) (za lNil zG))) false (bNil))
def zqa (k:Int) (t:Table) (t2_0:Int) (t2_1:Int) (s_0:Int) (s_1:Int) (b3:List ColumnStats):Wy ttTref37Gather3 ttTref37Gather4 ttTref37Gather5:=.i (decide (k<Int.ofNat t.Columns.length)) (.bn (znO t.Rows k) fun r4=>.i (decide ((b3.length+[r4].length)*96≤reach)) (.h ((),(),(),(IntKind.i64.wrap (k+1)),()) (t,(t2_0,t2_1,(),()),(s_0,s_1,(),()),(b3++[r4]),())) .d) (.k (t2_0,t2_1,s_0,s_1,b3))
def zl8 (x:ttTref37Gather3) (y:ttTref37Gather4):Wy ttTref37Gather3 ttTref37Gather4 ttTref37Gather5:=zqa x.2.2.2.1 y.1 y.2.1.1 y.2.1.2.1 y.2.2.1.1 y.2.2.1.2.1 y.2.2.2.1
def zqd (n:Nat) (k:Int) (t:Table) (t2_0:Int) (t2_1:Int) (s_0:Int) (s_1:Int) (b3:List ColumnStats):Bool×ttTref37Gather5:=zN (zl8) default n ((),(),(),k,()) (t,(t2_0,t2_1,(),()),(s_0,s_1,(),()),b3,())
def zu4 (r:ttTref37Gather5):LTree ty:=.done (.exit 2) [.ptr 232 0,.ptr 233 0] [.box ([.lit (.int .i64 r.1),.lit (.int .i64 r.2.1),.lit (.slice none 0 0)]) false,.box ([.lit (.int .i64 r.2.2.1),.lit (.int .i64 r.2.2.2.1),.own 234]) false,.arr 43 r.2.2.2.2 false]
def zvZ:LL ty ttTref37Gather3:=za (zct 232 0) (za (zct 233 0) (za (zct 234 0) (za (lInt .i64) zG)))
def zv5:BL ty ttTref37Gather4:=bBox (zhc (fun x=>(⟨x.1,x.2.1,x.2.2.1,x.2.2.2.1⟩:Table)) (fun x=>(x.ID,x.Name,x.Columns,x.Rows,())) (fun _=>rfl) (za (lInt .i64) (za lStr (za (lSl 67) (za (lSl 38) zG))))) false (bBox (za (lInt .i64) (za (lInt .i64) (za lNil zG))) false (bBox (za (lInt .i64) (za (lInt .i64) (za (lOwn 235) zG))) false (bArr 43 false (bNil))))
def zv0 (x:ttTref37Gather0) (y:ttTref37Gather1):Nat:=(Int.toNat x.2.2.1+y.1.Columns.length+y.1.Rows.length+Int.toNat y.2.1.1+Int.toNat y.2.1.2.1+1000)
def zuR (x:ttTref37Gather3) (y:ttTref37Gather4):Nat:=(Int.toNat x.2.2.2.1+y.1.Columns.length+y.1.Rows.length+Int.toNat y.2.1.1+Int.toNat y.2.1.2.1+Int.toNat y.2.2.1.1+Int.toNat y.2.2.1.2.1+y.2.2.2.1.length+1000)
def zsi:Cx ty:=mkCx base 58 [(38,ztE),(39,zxv),(40,zu5)] [] [(4,[(1,.keep),(2,.keep),(3,.keep)]),(10,[(1,.keep),(2,.keep),(4,.boxOwn [(2,43)]),(5,.keep)])] [(4,1,[(1,.keep),(2,.keep)]),(4,0,[(2,.keep)]),(10,3,[(2,.keep),(4,.keep)])] [(4,spW zxY zxt (zm3) (.inl default) zww zv0),(10,spW zvZ zv5 (zl8) default zu4 zuR)] []
theorem zC6:zS zsi (lp (body Tryz.f14) 0):=zL (id:=4) (V:=zxY) (B:=zxt) (W:=zm3) (z:=.inl default) (tr:=zww) (m:=zv0)
theorem zCs:zS zsi (lp (body Tryz.f14) 1):=zL (id:=10) (V:=zvZ) (B:=zv5) (W:=zl8) (z:=default) (tr:=zu4) (m:=zuR)
def zsO (t:Table):Wy0 (Stats):=.bn (zmI t.Columns) fun r8=>.i (!r8) (.k (⟨0,0,[]⟩:Stats)) (.i (decide (Int.ofNat t.Rows.length>1000000)) (.k (⟨0,0,[]⟩:Stats)) (.bn (zxW (Int.toNat 0+t.Columns.length+t.Rows.length+Int.toNat 0+Int.toNat 0+1000) 0 t 0 0) fun r7=>.i (isL r7) (.k (⟨(getL r7).1,(getL r7).2,[]⟩:Stats)) (.bn (zqd (Int.toNat 0+(getR r7).1.Columns.length+(getR r7).1.Rows.length+(getR r7).2.1.toNat +(getR r7).2.2.toNat +(getR r7).1.ID.toNat +(Int.ofNat (getR r7).1.Rows.length).toNat +0+1000) 0 (getR r7).1 (getR r7).2.1 (getR r7).2.2 (getR r7).1.ID (Int.ofNat (getR r7).1.Rows.length) []) fun r6=>.k (⟨r6.2.2.1,r6.2.2.2.1,r6.2.2.2.2⟩:Stats))))
def zob (t:Table):Bool×Stats:=(zsO t).fin default
def zwF (r:Stats):ARes ty:=⟨[.pure (.agg (base.enc 30 r))],[]⟩
def zzm:AL base (Table×Unit):=zf (zg (vAgg 25)) aNil
def zuW:Ab.Spec ty:=zm zzm fun x=>((zob x.1).1,zwF (zob x.1).2)
theorem zBD:Sound Tryz.prog base 14 zuW:=
 zu (cx':=zsi) zH zn zD (zx ⟨zA6,zDq,zBk,trivial⟩) Tryz.call14 Tryz.func14 (c:=body Tryz.f14) (by kernel_rfl) (zh (l:=[lp (body Tryz.f14) 0,lp (body Tryz.f14) 1]) (by kernel_rfl) ⟨zC6,zCs,trivial⟩) (sg:=⟨[.pure],[]⟩) (A:=zzm) (res:=zwF) (W:=fun x=>zsO x.1) (z:=default)
def zA7:Cx ty:=mkCx base 31 [(33,zr8)] [] [] [] [] []
def zoe (a:ColumnStats) (b:ColumnStats):Wy0 (Bool):=.i (a.Distinct==b.Distinct) (.i (a.Min.Kind==b.Min.Kind&&(a.Min.Int==b.Min.Int&&(a.Min.Text.toList==b.Min.Text.toList&&true))) (.i (a.Max.Kind==b.Max.Kind&&(a.Max.Int==b.Max.Int&&(a.Max.Text.toList==b.Max.Text.toList&&true))) (.bn (zsa a.Bounds b.Bounds) fun r0=>.k r0) (.k false)) (.k false)) (.k false)
def zjL (a:ColumnStats) (b:ColumnStats):Bool×Bool:=(zoe a b).fin default
def zry (r:Bool):ARes ty:=⟨[.pure (.lit (.bool r))],[]⟩
def ztY:AL base (ColumnStats×ColumnStats×Unit):=zf (zg (vAgg 43)) (zf (zg (vAgg 43)) aNil)
def zqD:Ab.Spec ty:=zm ztY fun x=>((zjL x.1 x.2.1).1,zry (zjL x.1 x.2.1).2)
theorem zx7:Sound Tryz.prog base 37 zqD:=
 zu (cx':=zA7) zH zn zD (zx ⟨zvK,trivial⟩) Tryz.call37 Tryz.func37 (c:=body Tryz.f37) (by kernel_rfl) (zh (l:=[]) (by kernel_rfl) trivial) (sg:=⟨[.pure],[]⟩) (A:=ztY) (res:=zry) (W:=fun x=>zoe x.1 x.2.1) (z:=default)
abbrev ttTref37Same0:=Unit×Unit×Int×Unit
abbrev ttTref37Same1:=Stats×Stats×Unit
def zmu (i:Int) (a:Stats) (b:Stats):Wy ttTref37Same0 ttTref37Same1 (Bool⊕Unit):=.i (decide (i<Int.ofNat a.Columns.length)) (.i (decide (0≤i)&&decide (i<Int.ofNat a.Columns.length)) (.i (decide (0≤i)&&decide (i<Int.ofNat b.Columns.length)) (.bn (zjL (a.Columns.getD i.toNat default) (b.Columns.getD i.toNat default)) fun r0=>.i (!r0) (.k (.inl false)) (.h ((),(),(IntKind.i64.wrap (i+1)),()) (a,b,()))) .d) .d) (.k (.inr ()))
def zp6 (x:ttTref37Same0) (y:ttTref37Same1):Wy ttTref37Same0 ttTref37Same1 (Bool⊕Unit):=zmu x.2.2.1 y.1 y.2.1
def zAu (n:Nat) (i:Int) (a:Stats) (b:Stats):Bool×(Bool⊕Unit):=zN (zp6) (.inl default) n ((),(),i,()) (a,b,())
def zzt (r:Bool⊕Unit):LTree ty:=.ite (isL r) (.done .ret [.lit (.bool (getL r))] []) (.done (.exit 0) [] [])
def zAk:LL ty ttTref37Same0:=za (zct 184 0) (za (zct 185 0) (za (lInt .i64) zG))
def zAw:BL ty ttTref37Same1:=bBox (zhc (fun x=>(⟨x.1,x.2.1,x.2.2.1⟩:Stats)) (fun x=>(x.Table,x.Rows,x.Columns,())) (fun _=>rfl) (za (lInt .i64) (za (lInt .i64) (za (lSl 43) zG)))) false (bBox (zhc (fun x=>(⟨x.1,x.2.1,x.2.2.1⟩:Stats)) (fun x=>(x.Table,x.Rows,x.Columns,())) (fun _=>rfl) (za (lInt .i64) (za (lInt .i64) (za (lSl 43) zG)))) false (bNil))
def zyW (x:ttTref37Same0) (y:ttTref37Same1):Nat:=(Int.toNat x.2.2.1+y.1.Columns.length+y.2.1.Columns.length+1)
def zAB:Cx ty:=mkCx base 46 [(37,zqD)] [] [(4,[(2,.keep),(3,.keep),(5,.keep)])] [(4,1,[]),(4,0,[(4,.keep)])] [(4,spW zAk zAw (zp6) (.inl default) zzt zyW)] []
theorem zEK:zS zAB (lp (body Tryz.f13) 0):=zL (id:=4) (V:=zAk) (B:=zAw) (W:=zp6) (z:=.inl default) (tr:=zzt) (m:=zyW)
def zvL (a:Stats) (b:Stats):Wy0 (Bool):=.i (a.Table != b.Table) (.k false) (.i (a.Rows != b.Rows) (.k false) (.i (Int.ofNat a.Columns.length != Int.ofNat b.Columns.length) (.k false) (.bn (zAu (Int.toNat 0+a.Columns.length+b.Columns.length+1) 0 a b) fun r2=>.i (isL r2) (.k (getL r2)) (.k true))))
def zrQ (a:Stats) (b:Stats):Bool×Bool:=(zvL a b).fin default
def zyU (r:Bool):ARes ty:=⟨[.pure (.lit (.bool r))],[]⟩
def zB0:AL base ttTref37Same1:=zf (zg (vAgg 30)) (zf (zg (vAgg 30)) aNil)
def zxS:Ab.Spec ty:=zm zB0 fun x=>((zrQ x.1 x.2.1).1,zyU (zrQ x.1 x.2.1).2)
theorem zDj:Sound Tryz.prog base 13 zxS:=
 zu (cx':=zAB) zH zn zD (zx ⟨zx7,trivial⟩) Tryz.call13 Tryz.func13 (c:=body Tryz.f13) (by kernel_rfl) (zh (l:=[lp (body Tryz.f13) 0]) (by kernel_rfl) ⟨zEK,trivial⟩) (sg:=⟨[.pure],[]⟩) (A:=zB0) (res:=zyU) (W:=fun x=>zvL x.1 x.2.1) (z:=default)
def zji (t:Table):Wy (Unit×Unit) (Table×Unit) (Bool):=.bn (ziV t) fun r3=>.bn (zob t) fun r2=>.bn (zrQ r3 r2) fun r1=>.i (r1) (.bn (zgN r3) fun r0=>.k r0) (.k false)
def zg2 (x:Unit×Unit) (y:Table×Unit):Wy (Unit×Unit) (Table×Unit) (Bool):=zji y.1
def zm5 (n:Nat) (t:Table):Bool×Bool:=zN (zg2) default n ((),()) (t,())
def zmL (r:Bool):LTree ty:=.done .ret [.lit (.bool r)] []
def znu:LL ty (Unit×Unit):=za (zct 76 0) zG
def znr:BL ty (Table×Unit):=bBox (zhc (fun x=>(⟨x.1,x.2.1,x.2.2.1,x.2.2.2.1⟩:Table)) (fun x=>(x.ID,x.Name,x.Columns,x.Rows,())) (fun _=>rfl) (za (lInt .i64) (za lStr (za (lSl 67) (za (lSl 38) zG))))) false (bNil)
def zjf (t:Table):Wy (Unit×Unit) (Table×Unit) (Bool):=.bn (zt2 t) fun r9=>.i (!r9) (.k true) (.bn (zm5 1 t) fun r8=>.k r8)
def zg1 (x:Unit×Unit) (y:Table×Unit):Wy (Unit×Unit) (Table×Unit) (Bool):=zjf y.1
def znn (n:Nat) (t:Table):Bool×Bool:=zN (zg1) default n ((),()) (t,())
def zmz (r:Bool):LTree ty:=.done .ret [.lit (.bool r)] []
def znc:LL ty (Unit×Unit):=za (zct 76 0) zG
def zmY:BL ty (Table×Unit):=bBox (zhc (fun x=>(⟨x.1,x.2.1,x.2.2.1,x.2.2.2.1⟩:Table)) (fun x=>(x.ID,x.Name,x.Columns,x.Rows,())) (fun _=>rfl) (za (lInt .i64) (za lStr (za (lSl 67) (za (lSl 38) zG))))) false (bNil)
def zjb:Cx ty:=zIw base0 19 [(10,zwC),(11,zza),(12,zkr),(13,zxS),(14,zuW),(15,zgU)] [] [(3,[(1,.keep)]),(5,[(1,.keep)])] [(3,0,[(2,.keep)]),(5,0,[(2,.keep)])] [] [] [(5,spW znu znr (zg2) default zmL fun x y=>(1)),(3,spW znc zmY (zg1) default zmz fun x y=>(1))]
theorem zuB:zBm zjb (jn (body Tryz.f3) 5):=zGa (id:=5) (V:=znu) (B:=znr) (W:=zg2) (z:=default) (tr:=zmL) (m:=fun x y=>(1))
theorem zut:zBm zjb (jn (body Tryz.f3) 3):=zGa (id:=3) (V:=znc) (B:=zmY) (W:=zg1) (z:=default) (tr:=zmz) (m:=fun x y=>(1))
def zjJ (t:Table):Wy0 (Bool):=.bn (znn 1 t) fun r12=>.k r12
def zeq (t:Table):Bool×Bool:=(zjJ t).fin default
def ziD (r:Bool):ARes ty:=⟨[.pure (.lit (.bool r))],[]⟩
def zoh:AL base0 (Table×Unit):=zf (zg (vAgg 25)) aNil
def zh8:Ab.Spec ty:=zm zoh fun x=>((zeq x.1).1,ziD (zeq x.1).2)
theorem zsP:Sound Tryz.prog base0 3 zh8:=
 zu (cx':=zjb) zH zs3 zKr (zJM ⟨zCt,zD2.nodr,zoQ.nodr,zDj.nodr,zBD.nodr,zhZ.nodr,trivial⟩) Tryz.call3 Tryz.func3 (c:=body Tryz.f3) (by kernel_rfl) (zFR (l:=[]) (by kernel_rfl) trivial (js:=[jn (body Tryz.f3) 3,jn (body Tryz.f3) 5]) (by kernel_rfl) ⟨zut,zuB,trivial⟩) (sg:=⟨[.pure],[]⟩) (A:=zoh) (res:=ziD) (W:=fun x=>zjJ x.1) (z:=default)
def trV (v:Value):TT:=.l [.i v.Kind,.i v.Int,trB v.Text]
mutual
def zEk:Atom→TT
 | ⟨k,r,a,f,i,o,b⟩=>.l [.i k,.i r.Table,.i r.Seq,.l (zv8 a),.i f,.l (zsU i),.i o,trV b]
def zAb:Factor→TT
 | ⟨x,e⟩=>.l [zEk x,.i e]
def znP:List Factor→List TT
 | []=>[]
 | x::r=>zAb x::znP r
def zDR:Term→TT
 | ⟨c,fs⟩=>.l [.l (znP fs),.i c]
def zxL:List Term→List TT
 | []=>[]
 | x::r=>zDR x::zxL r
def zv8:List (List Term)→List TT
 | []=>[]
 | x::r=>.l (zxL x)::zv8 r
def zEo:Weighted→TT
 | ⟨v,a⟩=>.l [trV v,.l (zxL a)]
def zsU:List Weighted→List TT
 | []=>[]
 | x::r=>zEo x::zsU r
end
theorem zul:∀ a b:List UInt8,(a.map fun x=>TT.i (x.toNat:Int))=(b.map fun x=>TT.i (x.toNat:Int))→a=b
 | [],[]=>fun _=>rfl
 | [],_::_=>fun h=>by simp at h
 | _::_,[]=>fun h=>by simp at h
 | x::a,y::b=>fun h=>by
  simp only [List.map,List.cons.injEq,TT.i.injEq] at h
  rw [zul a b h.2,UInt8.toNat_inj.1 (Int.ofNat.inj h.1)]
theorem zET {a b:Value} (h:trV a=trV b):a=b:=by
 obtain ⟨k,n,s⟩:=a; obtain ⟨k',n',s'⟩:=b
 simp only [trV,trB,TT.l.injEq,List.cons.injEq,TT.i.injEq,and_true] at h
 obtain ⟨rfl,rfl,h⟩:=h
 have:=zul _ _ h
 obtain ⟨⟨l⟩⟩:=s; obtain ⟨⟨l'⟩⟩:=s'
 simp only at this; subst this; rfl
mutual
theorem zIn:∀ a b:Atom,zEk a=zEk b→a=b
 | ⟨k,r,a,f,i,o,v⟩,⟨k',r',a',f',i',o',v'⟩=>fun h=>by
  simp only [zEk,TT.l.injEq,List.cons.injEq,TT.i.injEq,and_true] at h
  obtain ⟨rfl,h1,h2,h3,rfl,h4,rfl,h5⟩:=h
  obtain ⟨t,s⟩:=r; obtain ⟨t',s'⟩:=r'
  simp only at h1 h2; subst h1 h2
  rw [zEj a a' h3,zCG i i' h4,zET h5]
theorem zGW:∀ a b:Factor,zAb a=zAb b→a=b
 | ⟨x,e⟩,⟨x',e'⟩=>fun h=>by
  simp only [zAb,TT.l.injEq,List.cons.injEq,TT.i.injEq,and_true] at h
  rw [zIn x x' h.1,h.2]
theorem zAn:∀ a b:List Factor,znP a=znP b→a=b
 | [],[]=>fun _=>rfl
 | [],_::_=>fun h=>by simp [znP] at h
 | _::_,[]=>fun h=>by simp [znP] at h
 | x::a,y::b=>fun h=>by
  simp only [znP,List.cons.injEq] at h
  rw [zGW x y h.1,zAn a b h.2]
theorem zIo:∀ a b:Term,zDR a=zDR b→a=b
 | ⟨c,l⟩,⟨c',l'⟩=>fun h=>by
  simp only [zDR,TT.l.injEq,List.cons.injEq,TT.i.injEq,and_true] at h
  rw [zAn l l' h.1,h.2]
theorem zB5:∀ a b:List Term,zxL a=zxL b→a=b
 | [],[]=>fun _=>rfl
 | [],_::_=>fun h=>by simp [zxL] at h
 | _::_,[]=>fun h=>by simp [zxL] at h
 | x::a,y::b=>fun h=>by
  simp only [zxL,List.cons.injEq] at h
  rw [zIo x y h.1,zB5 a b h.2]
theorem zEj:∀ a b:List (List Term),zv8 a=zv8 b→a=b
 | [],[]=>fun _=>rfl
 | [],_::_=>fun h=>by simp [zv8] at h
 | _::_,[]=>fun h=>by simp [zv8] at h
 | x::a,y::b=>fun h=>by
  simp only [zv8,List.cons.injEq,TT.l.injEq] at h
  rw [zB5 x y h.1,zEj a b h.2]
theorem zIk:∀ a b:Weighted,zEo a=zEo b→a=b
 | ⟨c,l⟩,⟨c',l'⟩=>fun h=>by
  simp only [zEo,TT.l.injEq,List.cons.injEq,and_true] at h
  rw [zET h.1,zB5 l l' h.2]
theorem zCG:∀ a b:List Weighted,zsU a=zsU b→a=b
 | [],[]=>fun _=>rfl
 | [],_::_=>fun h=>by simp [zsU] at h
 | _::_,[]=>fun h=>by simp [zsU] at h
 | x::a,y::b=>fun h=>by
  simp only [zsU,List.cons.injEq] at h
  rw [zIk x y h.1,zCG a b h.2]
end
def zzw (P:List Term→Prop) (x:Atom):Prop:=
 (x.Args.length≤1000000∧x.Items.length≤1000000∧x.Bound.Text.size≤1000000000000)∧(∀ a∈x.Args,P a)∧∀ w∈x.Items,w.Value.Text.size≤1000000000000∧P w.Ann
def zHw (P:List Term→Prop) (l:List Factor):Prop:=l.length≤1000000∧∀ f∈l,zzw P f.Atom
def zjA:Nat→List Term→Prop
 | 0,_=>False
 | n+1,a=>a.length≤1000000∧∀ t∈a,zHw (zjA n) t.Factors
theorem zzw.imp {P Q:List Term→Prop} (h:∀ a,P a→Q a) {x:Atom} (hx:zzw P x):zzw Q x:=⟨hx.1,fun a ha=>h a (hx.2.1 a ha),fun w hw=>⟨(hx.2.2 w hw).1,h _ (hx.2.2 w hw).2⟩⟩
theorem zjA.succ:∀ (n:Nat) (a:List Term),zjA n a→zjA (n+1) a
 | 0,_,h=>h.elim
 | n+1,a,h=>⟨h.1,fun t ht=>⟨(h.2 t ht).1,fun f hf=>((h.2 t ht).2 f hf).imp (zjA.succ n)⟩⟩
theorem zjA.mono {n m:Nat} {a:List Term} (h:zjA n a) (hm:n≤m):zjA m a:=by
 obtain ⟨k,rfl⟩:=Nat.exists_eq_add_of_le hm
 clear hm
 induction k with
 | zero=>exact h
 | succ k ih=>exact zjA.succ _ _ ih
theorem zCb (x y:Int):zc8 x y=(true,cmpI x y):=by
 unfold zc8 zpb zj7 zro cmpI
 by_cases h1:x<y
 ·simp [h1,Wy.fin_i,Wy.fin_k]
 ·by_cases h2:y<x <;>simp [h1,h2,Wy.fin_i,Wy.fin_k]
theorem zzD (x y:Int):zhn x y=(true,cmpI x y):=by
 unfold zhn zmR ziq zpc cmpI
 by_cases h1:x<y
 ·simp [h1,Wy.fin_i,Wy.fin_k]
 ·by_cases h2:y<x <;>simp [h1,h2,Wy.fin_i,Wy.fin_k]
def zsW:List Int→Int
 | []=>0
 | x::r=>if x=0 then zsW r else x
theorem zHU (l:List Int) (hl:l.length≤1000000):∀ (n i:Nat),l.length<i+n→i≤l.length→∃ r,zuh n 0 l l.length i=(true,r)∧(r=.inl (zsW (l.drop i))∨(r=.inr 0∧zsW (l.drop i)=0))
 | 0,i,h,h2=>by omega
 | n+1,i,h,h2=>by
  show ∃ r,(zuw 0 l l.length i).ev (fun x y=>zuh n x.1 x.2.1 x.2.2.1 x.2.2.2.1) (fun r=>(true,r)) (false,.inl default)=(true,r)∧_
  unfold zuw
  by_cases hi:i<l.length
  ·simp only [Wy.ev_i,Wy.ev_k,Wy.ev_h,Int.ofNat_eq_natCast,zwv,zEL,decide_true,decide_false,Bool.and_self,Bool.true_and,Bool.and_true,cond_true,cond_false,Int.toNat_natCast,Bool.not_true,Bool.not_false,hi]
   obtain ⟨r,h1,h3⟩:=zHU l hl n (i+1) (by omega) (by omega)
   rw [ziz hi,zbt (by omega),h1]
   generalize l.getD i default=x
   by_cases hx:x=0
   ·have e:(x != 0)=false:=by simp [hx]
    simp only [e,cond_false,zsW,hx,if_true]
    exact ⟨r,rfl,h3⟩
   ·have e:(x != 0)=true:=by simp [hx]
    simp only [e,cond_true,zsW,hx,if_false]
    exact ⟨_,rfl,.inl rfl⟩
  ·simp only [Wy.ev_i,Wy.ev_k,Wy.ev_h,Int.ofNat_eq_natCast,zwv,zEL,decide_true,decide_false,Bool.and_self,Bool.true_and,Bool.and_true,cond_true,cond_false,Int.toNat_natCast,Bool.not_true,Bool.not_false,hi,zit hi]
   exact ⟨_,rfl,.inr ⟨rfl,rfl⟩⟩
theorem zFC (l:List Int) (hl:l.length≤1000000):zjh l=(true,zsW l):=by
 unfold zjh zv4
 obtain ⟨r,h1,h2⟩:=zHU l hl (Int.toNat 0+l.length+(Int.ofNat l.length).toNat +Int.toNat 0+1000) 0 (by simp; omega) (by omega)
 rw [show ((0:Nat):Int)=(0:Int) from rfl] at h1
 rw [Wy.fin_bn,show Int.ofNat l.length=(l.length:Int) from rfl] at *
 rw [h1]
 rw [List.drop_zero] at h2
 rcases h2 with rfl | ⟨rfl,h2⟩
 ·rfl
 ·rw [h2]; rfl
theorem zCC (s:ByteArray):∀ (n i:Nat) (r:List UInt8),s.size≤i+n→ByteArray.toList.loop s i r=r.reverse++s.data.toList.drop i
 | 0,i,r,h=>by
  rw [ByteArray.toList.loop,if_neg (by omega),List.drop_eq_nil_of_le (by rw [← Lib.size_eq]; omega),List.append_nil]
 | n+1,i,r,h=>by
  rw [ByteArray.toList.loop]
  by_cases hi:i<s.size
  ·have hi':i<s.data.toList.length:=by rw [← Lib.size_eq]; exact hi
   rw [if_pos hi,zCC s n (i+1) _ (by omega),List.drop_eq_getElem_cons hi',List.reverse_cons,List.append_assoc]
   congr 1
   have:s.get! i=s.data.toList[i]:=by
    have h':i<s.data.size:=hi
    show s.data[i]! =s.data.toList[i]
    rw [getElem!_pos s.data i h']; rfl
   rw [this]; rfl
  ·rw [if_neg hi,List.drop_eq_nil_of_le (by rw [← Lib.size_eq]; omega),List.append_nil]
theorem toList_eq (s:ByteArray):s.toList=s.data.toList:=by
 rw [ByteArray.toList,zCC s s.size 0 [] (by omega)]; rfl
theorem zB6 {s t:ByteArray} (h:s.data.toList=t.data.toList):s=t:=by
 cases s; cases t
 congr 1
 exact Array.toList_inj.1 h
theorem zIR (s t:ByteArray):(s.toList==t.toList)=decide (s.data.toList=t.data.toList):=by
 rw [toList_eq,toList_eq]
 cases hb:(s.data.toList==t.data.toList) with
 | true=>rw [decide_eq_true (beq_iff_eq.1 hb)]
 | false=>rw [decide_eq_false (fun h=>by rw [beq_iff_eq.2 h] at hb; cases hb)]
theorem ztm (s t:ByteArray):(s.toList==t.toList)=decide (s=t):=by
 rw [zIR]
 by_cases h:s=t
 ·rw [decide_eq_true h,decide_eq_true (by rw [h])]
 ·rw [decide_eq_false h,decide_eq_false fun e=>h (zB6 e)]
theorem bne0 (z w:Int):(z != w)= !decide (z=w):=by by_cases h:z=w <;>simp [h]
theorem zAC:∀ a b:List UInt8,Op.bytesLess a b=decide (Lib.compareBytes a b<0)
 | [],[]=>by simp [Op.bytesLess,Lib.compareBytes]
 | _::_,[]=>by simp [Op.bytesLess,Lib.compareBytes]
 | [],_::_=>by simp [Op.bytesLess,Lib.compareBytes]
 | x::a,y::b=>by
  simp only [Op.bytesLess,Lib.compareBytes]
  by_cases p:x<y
  ·simp [p]
  ·by_cases q:y<x
   ·have hne:¬ x=y:=fun e=>by subst e; exact p q
    simp [p,q,hne]
   ·have he:x=y:=UInt8.toNat_inj.1 (by rw [UInt8.lt_iff_toNat_lt] at p q; omega)
    subst he
    simp [p,zAC a b]
theorem zDd (a b:Value):ziK a b=(true,cmpT (trV a) (trV b)):=by
 unfold ziK zrz zmi zwK
 rw [ztm,toList_eq,toList_eq,zAC,zHE]
 simp only [trV,cmpT,cmpL,cmpI]
 simp only [Wy.fin_i,Wy.fin_bn,Wy.fin_k,cond_true,bne0]
 by_cases h1:a.Kind=b.Kind
 ·by_cases h2:a.Int=b.Int
  ·by_cases h3:a.Text=b.Text
   ·simp [h1,h2,h3,zFg]
   ·have h4:cmpT (trB a.Text) (trB b.Text)≠0:=fun e=>by
     have:=zul _ _ (TT.l.inj (zvx _ _ e))
     exact h3 (zB6 this)
    have h5:=zGe (trB a.Text) (trB b.Text)
    simp only [trB,cmpT] at h4 h5
    simp only [trB,cmpT]
    rcases h5 with h5 | h5 | h5
    ·simp [h1,h2,h3,h5]
    ·exact absurd h5 h4
    ·simp [h1,h2,h3,h5]
  ·by_cases h3:a.Int<b.Int
   ·simp [h1,h2,h3]
   ·simp [h1,h2,h3,show b.Int<a.Int by omega]
 ·by_cases h3:a.Kind<b.Kind
  ·simp [h1,h3]
  ·simp [h1,h3,show b.Kind<a.Kind by omega]
theorem zDi (a b:Value):zbd a b=(true,cmpT (trV a) (trV b)):=by
 unfold zbd zrr
 have h:(strings_Compare a.Text b.Text).2=cmpT (trB a.Text) (trB b.Text):=by rw [← zHE]; rfl
 simp only [zCb,zzD,Wy.fin_bn,cond_true,h]
 rw [zFC _ (by simp)]
 simp only [Wy.fin_k,cond_true,trV,cmpT,cmpL,zsW]
 rfl
theorem zhM {z:Int} (h0: -4611686018427387904≤z) (h:z<4611686018427387904):IntKind.i64.wrap z=z:=zEI (by omega) (by omega)
def allN (c:Nat→Bool):Nat→Nat→Bool
 | 0,_=>true
 | n+1,i=>c i&&allN c n (i+1)
theorem zzV {c:Nat→Bool}:∀ {n i},allN c n i=true↔∀ k,i≤k→k<i+n→c k=true
 | 0,i=>⟨fun _ k h1 h2=>by omega,fun _=>rfl⟩
 | n+1,i=>by
  simp only [allN,Bool.and_eq_true,zzV (n:=n)]
  constructor
  ·rintro ⟨h1,h2⟩ k h3 h4
   by_cases e:k=i
   ·rw [e]; exact h1
   ·exact h2 k (by omega) (by omega)
  ·intro h
   exact ⟨h i (by omega) (by omega),fun k h1 h2=>h k (by omega) (by omega)⟩
theorem zGn {τ:Type} [Inhabited τ] (p:τ→Bool) (l:List τ):∀ n i,i+n=l.length→allN (fun k=>p (l.getD k default)) n i=(l.drop i).all p
 | 0,i,h=>by rw [zit (by omega)]; rfl
 | n+1,i,h=>by
  rw [ziz (by omega),List.all_cons]
  simp only [allN,zGn p l n (i+1) (by omega)]
theorem zFA {τ:Type} [Inhabited τ] (p:τ→Bool) (l:List τ):allN (fun k=>p (l.getD k default)) l.length 0=l.all p:=by
 rw [zGn p l _ _ (by omega),List.drop_zero]
section
variable {α β ρ:Type}
theorem zHf {W:α→β→Wy α β ρ} {z:ρ} (N:Nat) (ex:Nat→α) (ey:Nat→β) (c:Nat→Bool) (no yes:ρ)
  (h:∀ i,i<N→∀ (H:α→β→Bool×ρ) K D,(W (ex i) (ey i)).ev H K D=bif c i then H (ex (i+1)) (ey (i+1)) else K no)
  (he:∀ (H:α→β→Bool×ρ) K D,(W (ex N) (ey N)).ev H K D=K yes):
  ∀ n i,N<i+n→i≤N→zN W z n (ex i) (ey i)=(true,bif allN c (N - i) i then yes else no)
 | 0,i,h1,h2=>by omega
 | n+1,i,h1,h2=>by
  show (W (ex i) (ey i)).ev (zN W z n) (fun r=>(true,r)) (false,z)=_
  by_cases hi:i<N
  ·rw [h i hi,show N - i=(N - (i+1))+1 by omega]
   simp only [allN]
   cases c i with
   | false=>rfl
   | true=>rw [cond_true,zHf N ex ey c no yes h he n (i+1) (by omega) (by omega)]; rfl
  ·have:i=N:=by omega
   subst this
   rw [he,Nat.sub_self]; rfl
theorem zxp {W:α→β→Wy α β ρ} {z:ρ} (N:Nat) (ex:Nat→α) (ey:Nat→β) (c:Nat→Bool) (no yes:ρ)
  (h:∀ i,i<N→∀ (H:α→β→Bool×ρ) K D,(W (ex i) (ey i)).ev H K D=bif c i then H (ex (i+1)) (ey (i+1)) else K no)
  (he:∀ (H:α→β→Bool×ρ) K D,(W (ex N) (ey N)).ev H K D=K yes) (n:Nat) (hn:N<n):zN W z n (ex 0) (ey 0)=(true,bif allN c N 0 then yes else no):=by
 have:=zHf (z:=z) N ex ey c no yes h he n 0 (by omega) (by omega)
 simpa using this
end
def ixf {α:Type} (p:α→Bool):List α→Nat→Int
 | [],_=> -1
 | x::r,i=>bif p x then (i:Int) else ixf p r (i+1)
theorem zHO {α:Type} (p:α→Bool):∀ (l:List α) (i:Nat),decide (ixf p l i≥(0:Int))=l.any p
 | [],i=>by simp [ixf]
 | x::r,i=>by
  rw [List.any_cons]
  cases h:p x with
  | true=>simp [ixf,h]
  | false=>simpa [ixf,h] using zHO p r (i+1)
section
variable {α γ:Type} [Inhabited α]
def zIs (p:γ→α→Bool×Bool) (s:List α) (g:γ) (t7:Int) (t8:Int):Wy (List α×γ×Int×Int×Unit) (Unit) (Int⊕Unit):=.i (decide (t8<t7)) (.i (decide ((0:Int)≤t8)&&decide (t8<Int.ofNat s.length)) (.bn (p g (s.getD t8.toNat default)) fun r0=>.i (r0) (.k (.inl t8)) (.h (s,g,t7,(IntKind.i64.wrap (t8+(1:Int))),()) ())) .d) (.k (.inr ()))
def zLL (p:γ→α→Bool×Bool) (x:List α×γ×Int×Int×Unit) (y:Unit):Wy (List α×γ×Int×Int×Unit) (Unit) (Int⊕Unit):=zIs p x.1 x.2.1 x.2.2.1 x.2.2.2.1
def zIM (p:γ→α→Bool×Bool) (n:Nat) (s:List α) (g:γ) (t7:Int) (t8:Int):Bool×(Int⊕Unit):=zN (zLL p) (.inl default) n (s,g,t7,t8,()) ()
def IG (p:γ→α→Bool×Bool) (n:Nat) (g:γ) (s:List α):Bool×Int:=(.bn (zIM p n s g (Int.ofNat s.length) (0:Int)) fun r2=>.i (isL r2) (.k (getL r2)) (.k (-1:Int)):Wy0 Int).fin default
theorem zH5 (p:γ→α→Bool×Bool) (P:α→Bool) (g:γ) (s:List α) (hs:s.length≤1000000000) (hp:∀ x∈s,p g x=(true,P x)):∀ (n i:Nat),s.length<i+n→i≤s.length→
  ∃ r,zIM p n s g s.length i=(true,r)∧((r=.inl (ixf P (s.drop i) i))∨(r=.inr ()∧ixf P (s.drop i) i= -1))
 | 0,i,h,h2=>by omega
 | n+1,i,h,h2=>by
  show ∃ r,(zIs p s g s.length i).ev (fun x y=>zIM p n x.1 x.2.1 x.2.2.1 x.2.2.2.1) (fun r=>(true,r)) (false,.inl default)=(true,r)∧_
  unfold zIs
  by_cases hi:i<s.length
  ·simp only [Wy.ev_i,Wy.ev_k,Wy.ev_h,Wy.ev_bn,Wy.ev_d,tT,hi,hp _ (zhR hi)]
   rw [ziz hi,zbt (by omega)]
   simp only [ixf]
   cases P (s.getD i default) with
   | true=>exact ⟨_,rfl,.inl rfl⟩
   | false=>exact zH5 p P g s hs hp n (i+1) (by omega) (by omega)
  ·simp only [Wy.ev_i,Wy.ev_k,Wy.ev_h,Wy.ev_bn,Wy.ev_d,tT,hi,zit hi]
   exact ⟨_,rfl,.inr ⟨rfl,rfl⟩⟩
theorem zF1 (p:γ→α→Bool×Bool) (P:α→Bool) (n:Nat) (g:γ) (s:List α) (hs:s.length≤1000000000) (hp:∀ x∈s,p g x=(true,P x)) (hn:s.length<n):IG p n g s=(true,ixf P s 0):=by
 unfold IG
 obtain ⟨r,h1,h2⟩:=zH5 p P g s hs hp n 0 (by omega) (by omega)
 rw [show ((0:Nat):Int)=(0:Int) from rfl] at h1
 rw [Wy.fin_bn,show Int.ofNat s.length=(s.length:Int) from rfl,h1]
 rw [List.drop_zero] at h2
 rcases h2 with rfl | ⟨rfl,h2⟩
 ·rfl
 ·rw [h2]; rfl
theorem ztk {α:Type} {s:List α} {P:α→Bool} {q:Bool×Int} (h:q=(true,ixf P s 0)):((.bn q fun r0=>.k (decide (r0≥(0:Int))):Wy0 Bool).fin default)=(true,s.any P):=by
 rw [h,Wy.fin_bn,cond_true,Wy.fin_k,zHO]
end
theorem beqd (a b:Int):(a==b)=decide (a=b):=by by_cases h:a=b <;>simp [h]
theorem beqn (a b:Nat):(a==b)=decide (a=b):=by by_cases h:a=b <;>simp [h]
theorem i0 (l:Nat):((l:Int)==0)=(l==0):=by
 rw [beqd,beqn]; congr 1; simp
def valV (v:Value):Bool:=(v.Kind==0&&v.Text.size==0)||(v.Kind==1&&v.Int==0&&decide (v.Text.size≤255))||(v.Kind==2&&v.Text.size==0&&(v.Int==0||v.Int==1))
theorem zGm (s:ByteArray):(s.toList==(ByteArray.mk #[]).toList)=(s.size==0):=by
 rw [ztm]
 by_cases h:s.size=0
 ·have:s=ByteArray.mk #[]:=zB6 (by
   have:s.data.toList.length=0:=by simpa using h
   rw [List.length_eq_zero_iff.1 this])
  subst this; rfl
 ·have:¬ s=ByteArray.mk #[]:=fun e=>h (by rw [e]; rfl)
  simp [h,this]
theorem ztf (v:Value):zgq v=(true,valV v):=by
 unfold zgq zus valV
 simp only [zGm,Wy.fin_i,Wy.fin_k,beqd,beqn]
 have e:decide (Int.ofNat v.Text.size≤(255:Int))=decide (v.Text.size≤255):=zkh _ 255
 rw [e]
 by_cases h0:v.Kind=0
 ·simp [h0]
 ·by_cases h1:v.Kind=1
  ·by_cases h2:v.Int=0 <;>simp [h1,h2]
  ·by_cases h2:v.Kind=2
   ·by_cases h3:v.Int=0
    ·simp [h2,h3]
    ·by_cases h4:v.Int=1 <;>simp [h2,h3,h4]
   ·simp [h0,h1,h2]
theorem zEG (v:Value):zpC v=(true,valV v):=by
 unfold zpC zui valV
 simp only [zGm,Wy.fin_i,Wy.fin_k,beqd,beqn]
 have e:decide (Int.ofNat v.Text.size≤(255:Int))=decide (v.Text.size≤255):=zkh _ 255
 rw [e]
 by_cases h0:v.Kind=0
 ·simp [h0]
 ·by_cases h1:v.Kind=1
  ·by_cases h2:v.Int=0 <;>simp [h1,h2]
  ·by_cases h2:v.Kind=2
   ·by_cases h3:v.Int=0
    ·by_cases h4:v.Text.size=0 <;>simp [h2,h3,h4]
    ·by_cases h4:v.Text.size=0 <;>simp [h2,h3,h4]
   ·simp [h0,h1,h2]
theorem zBS (c:Nat→Bool):∀ n i,allN c (n+1) i=(allN c n i&&c (i+n))
 | 0,i=>by simp [allN]
 | n+1,i=>by
  rw [allN,zBS c n (i+1),allN,show i+1+n=i+(n+1) by omega,Bool.and_assoc]
def cmpV (a b:Value):Int:=cmpT (trV a) (trV b)
theorem zn9 (a b:Value):cmpV b a= - cmpV a b:=zxN _ _
theorem zxF (a b:Value):cmpV a b=0↔a=b:=⟨fun h=>zET (zvx _ _ h),fun h=>by subst h; exact zFg _⟩
theorem ordV:Ord3 cmpV where
 eq:=zxF
 swap x y:=by rw [zn9 x y]; omega
 trans x y z h1 h2:=by
  have h3:cmpV x z≤0:=zzy _ _ _ (Int.le_of_lt h1) (Int.le_of_lt h2)
  by_cases h4:cmpV x z=0
  ·have:=(zxF x z).1 h4; subst this
   have:=zn9 x y; omega
  ·omega
theorem value_Compare_eq' (a b:Value):zbd a b=(true,cmpV a b):=zDi a b
theorem ref01_Compare_eq' (a b:Value):ziK a b=(true,cmpV a b):=zDd a b
theorem zFL {x y z:Value} (h1:cmpV x y≤0) (h2:cmpV y z≤0):cmpV x z≤0:=zzy _ _ _ h1 h2
def cntV (v:Value):List Value→Nat
 | []=>0
 | x::r=>if cmpV x v≤0 then cntV v r+1 else 0
theorem zHQ (v:Value):∀ l,cntV v l≤l.length
 | []=>Nat.le_refl _
 | x::r=>by
  have:=zHQ v r
  simp only [cntV,List.length_cons]; split <;>omega
def insV (v:Value):List Value→List Value
 | []=>[v]
 | x::r=>if cmpV x v≤0 then x::insV v r else v::x::r
theorem zGK (v:Value):∀ l,l.take (cntV v l)++[v]++l.drop (cntV v l)=insV v l
 | []=>rfl
 | x::r=>by
  simp only [cntV,insV]
  split
  ·rw [List.take_succ_cons,List.drop_succ_cons, ← zGK v r]; simp
  ·simp
theorem zxi (v:Value):∀ l,(insV v l).Perm (v::l)
 | []=>.refl _
 | x::r=>by
  simp only [insV]
  split
  ·exact ((zxi v r).cons x).trans (.swap v x r)
  ·exact .refl _
theorem zHk (v:Value) (l:List Value):(insV v l).length=l.length+1:=(zxi v l).length_eq
abbrev AscV (l:List Value):Prop:=l.Pairwise fun x y=>cmpV x y≤0
theorem zF9 (v:Value):∀ l,AscV l→AscV (insV v l)
 | [],_=>by simp [insV]
 | x::r,h=>by
  have h:=List.pairwise_cons.1 h
  simp only [insV]
  split
  ·rename_i hx
   refine List.pairwise_cons.2 ⟨fun z hz=> ?_,zF9 v r h.2⟩
   rcases List.mem_cons.1 ((zxi v r).mem_iff.1 hz) with rfl | hz
   ·exact hx
   ·exact h.1 z hz
  ·rename_i hx
   have hv:cmpV v x≤0:=by have:=zn9 x v; omega
   refine List.pairwise_cons.2 ⟨fun z hz=> ?_,List.pairwise_cons.2 h⟩
   rcases List.mem_cons.1 hz with rfl | hz
   ·exact hv
   ·exact zFL hv (h.1 z hz)
theorem zHR:∀ (l o:List Value),AscV o→AscV (l.foldl (fun o x=>insV x o) o)∧(l.foldl (fun o x=>insV x o) o).Perm (l++o)
 | [],o,h=>⟨h,.refl _⟩
 | x::r,o,h=>by
  obtain ⟨h1,h2⟩:=zHR r (insV x o) (zF9 x o h)
  refine ⟨h1,h2.trans ?_⟩
  refine ((zxi x o).append_left r).trans ?_
  exact List.perm_middle
def srtV (l:List Value):List Value:=zi5 zbd l
theorem zCe {l:List Value} (h:l.length<4611686018427387904):SortOK zbd l:=zIV ordV h fun x _ y _=>value_Compare_eq' x y
theorem zH0 {l:List Value}:Asc zbd l↔AscV l:=by
 have:(fun x y:Value=>¬ (zbd y x).2<0)=fun x y=>cmpV x y≤0:=by
  funext x y
  rw [value_Compare_eq',zn9 x y]
  exact propext ⟨fun h=>by simp only at h; omega,fun h=>by simp only; omega⟩
 unfold Asc AscV
 rw [this]
theorem zxX (l:List Value):(srtV l).Perm l:=zl2 _ l
theorem zGI {l:List Value} (h:l.length<4611686018427387904):AscV (srtV l):=zH0.1 (zBw (zCe h).ntrans (zCe h).asymm l fun _ h=>h)
theorem zyh (l:List Value):(srtV l).length=l.length:=(zxX l).length_eq
theorem zHj {l l':List Value} (h:l.length<4611686018427387904) (hp:l'.Perm l) (hs:AscV l'):l'=srtV l:=(zCe h).unique hp (zH0.2 hs)
theorem zH9 {l:List Value} (h:l.length<4611686018427387904):l.foldl (fun o x=>insV x o) []=srtV l:=by
 obtain ⟨h1,h2⟩:=zHR l [] .nil
 rw [List.append_nil] at h2
 exact zHj h h2 h1
theorem zCB (v:Value) (l:List Value) (hl:l.length≤1000000):∀ (n i:Nat),l.length<i+n→i≤l.length→zrM n l i v=(true,(l,((i+cntV v (l.drop i):Nat):Int),v))
 | 0,i,h,h2=>by omega
 | n+1,i,h,h2=>by
  show (zrO l i v).ev (fun x y=>zrM n x.1 x.2.2.1 y.1) (fun r=>(true,r)) (false,default)=_
  unfold zrO
  by_cases hi:i<l.length
  ·simp only [Wy.ev_i,Wy.ev_k,Wy.ev_h,Wy.ev_bn,Wy.ev_d,tT,hi,ref01_Compare_eq']
   rw [ziz hi,zbt (by omega),zCB v l hl n (i+1) (by omega) (by omega)]
   simp only [cntV]
   by_cases hx:cmpV (l.getD i default) v≤0
   ·rw [decide_eq_true hx,if_pos hx]
    show (true,_)=(true,_)
    rw [show i+1+cntV v (l.drop (i+1))=i+(cntV v (l.drop (i+1))+1) by omega]
   ·rw [decide_eq_false hx,if_neg hx]; rfl
  ·simp only [Wy.ev_i,Wy.ev_k,Wy.ev_h,Wy.ev_bn,Wy.ev_d,tT,hi,zit hi,cntV]
   rfl
theorem zvy {n:Nat} (h:n≤1000001):n*32≤reach:=zn7 (by omega) (by omega)
theorem zJl (l:List Value) (v:Value) (hl:l.length≤1000000):zoa l v=(true,insV v l):=by
 have hc:=zHQ v l
 unfold zoa zs0
 have h0:=zCB v l hl (l.length+Int.toNat (0:Int)+(1:Nat)) 0 (by omega) (by omega)
 rw [show ((0:Nat):Int)=(0:Int) from rfl,List.drop_zero,Nat.zero_add] at h0
 rw [Wy.fin_bn,h0]
 have e1:(decide ((0:Int)≤(0:Int))&&decide ((0:Int)≤((cntV v l:Nat):Int))&&decide (((cntV v l:Nat):Int)≤Int.ofNat l.length))=true:=by
  simp only [Bool.and_eq_true,decide_eq_true_eq]
  refine ⟨⟨by omega,by omega⟩, ?_⟩
  show ((cntV v l:Nat):Int)≤(l.length:Int)
  omega
 have e2:(decide ((0:Int)≤((cntV v l:Nat):Int))&&decide (((cntV v l:Nat):Int)≤Int.ofNat l.length)&&decide (Int.ofNat l.length≤Int.ofNat l.length))=true:=by
  simp only [Bool.and_eq_true,decide_eq_true_eq]
  refine ⟨⟨by omega, ?_⟩,Int.le_refl _⟩
  show ((cntV v l:Nat):Int)≤(l.length:Int)
  omega
 have z0:Int.toNat (0:Int)=0:=rfl
 have zl:(Int.ofNat l.length).toNat=l.length:=rfl
 have e3:List.take (l.length - cntV v l) (List.drop (cntV v l) l)=l.drop (cntV v l):=List.take_of_length_le (by rw [List.length_drop]; omega)
 simp only [cond_true,Wy.fin_i,e1,e2,z0,zl,Int.toNat_natCast,Nat.sub_zero,List.drop_zero,List.nil_append,e3]
 rw [decide_eq_true (zvy (n:=0+(List.take (cntV v l) l).length) (by rw [List.length_take]; omega))]
 rw [decide_eq_true (zvy (n:=(List.take (cntV v l) l).length+[v].length) (by rw [List.length_take]; simp; omega))]
 rw [decide_eq_true (zvy (n:=(List.take (cntV v l) l++[v]).length+(List.drop (cntV v l) l).length) (by rw [List.length_append,List.length_take,List.length_drop]; simp; omega))]
 simp only [cond_true]
 rw [zGK]
 rfl
def zty (l:List Value):Nat:=(adj (fun a b=>decide (a=b)) l).length
theorem zGj {α:Type} {l l':List α} (h:l.Nodup) (h':l'.Nodup) (hm:∀ x,x∈l↔x∈l'):l.length=l'.length:=
 Nat.le_antisymm (zeW h fun x hx=>(hm x).1 hx) (zeW h' fun x hx=>(hm x).2 hx)
theorem adjV (l:List Value) (h:AscV l):(adj (fun a b=>decide (a=b)) l).Nodup∧∀ x,x∈adj (fun a b=>decide (a=b)) l↔x∈l:=by
 cases l with
 | nil=>exact ⟨.nil,fun _=>Iff.rfl⟩
 | cons x r=>
  have hs:(x::r).Pairwise (fun a b=>¬ cmpV b a<0):=h.imp fun {a b} hab=>by have:=zn9 a b; omega
  have:=zCD ordV (p:=fun a b=>decide (a=b)) (fun x y=>decide_eq_true_iff) r x hs
  refine ⟨zIm ordV this.1,fun z=>⟨fun hz=> ?_,fun hz=> ?_⟩⟩
  ·rcases List.mem_cons.1 hz with rfl | hz
   ·simp
   ·exact List.mem_cons_of_mem _ (zx2 _ r x z hz)
  ·rcases List.mem_cons.1 hz with rfl | hz
   ·exact List.mem_cons_self
   ·rcases this.2 z hz with rfl | h
    ·exact List.mem_cons_self
    ·exact List.mem_cons_of_mem _ h
theorem zJn {l d:List Value} (hl:l.length<4611686018427387904) (hd:d.Nodup) (hm:∀ x,x∈d↔x∈l):d.length=zty (srtV l):=by
 obtain ⟨h1,h2⟩:=adjV (srtV l) (zGI hl)
 exact zGj hd h1 fun x=>(hm x).trans (((zxX l).mem_iff).symm.trans (h2 x).symm)
end Go.Proofs.YtddkaehkimnklaaGreatDoor
namespace Go.Proofs.YtddkaehkimnklaaGreatDoor
open Go Go.Ab
end Go.Proofs.YtddkaehkimnklaaGreatDoor
namespace Go.Proofs.YtddkaehkimnklaaGreatDoor
open Go Go.Ab
end Go.Proofs.YtddkaehkimnklaaGreatDoor
/- Conditions as trees that are small: the reference's counts end. -/
namespace Go.Proofs.YtddkaehkimnklaaGreatDoor
open Go Go.Ab
def zvu:Nat→Scalar→Prop
 | 0,_=>False
 | n+1,e=>e.Args.length≤1000000∧∀ x∈e.Args,zvu n x
theorem zvu.succ:∀ (n:Nat) (e:Scalar),zvu n e→zvu (n+1) e
 | 0,_,h=>h.elim
 | n+1,e,h=>⟨h.1,fun x hx=>zvu.succ n x (h.2 x hx)⟩
theorem zvu.mono {n m:Nat} {e:Scalar} (h:zvu n e) (hm:n≤m):zvu m e:=by
 obtain ⟨k,rfl⟩:=Nat.exists_eq_add_of_le hm
 clear hm
 induction k with
 | zero=>exact h
 | succ k ih=>exact zvu.succ _ _ ih
end Go.Proofs.YtddkaehkimnklaaGreatDoor
namespace Go.Proofs.YtddkaehkimnklaaGreatDoor
open Go Go.Ab
def zV:Value:=⟨0,0,ByteArray.mk #[]⟩
theorem veq (a b:Value):(a.Kind==b.Kind&&(a.Int==b.Int&&(a.Text.toList==b.Text.toList&&true)))=decide (a=b):=by
 obtain ⟨k,n,s⟩:=a; obtain ⟨k',n',s'⟩:=b
 simp only [ztm,beqd,Bool.and_true,Value.mk.injEq]
 by_cases h1:k=k' <;>by_cases h2:n=n' <;>by_cases h3:s=s' <;>simp [h1,h2,h3]
theorem zLG (a:Value):(a.Kind==(0:Int)&&(a.Int==(0:Int)&&(a.Text.toList==(ByteArray.mk #[]).toList&&true)))=decide (a=zV):=veq a zV
def zir (k:Int) (b:Value):Bool:=valV b&&decide (b.Kind=k)
def srtB (l:List Value) (k:Nat):Bool:=decide (k=0)||decide (cmpV (l.getD (k - 1) default) (l.getD k default)≤0)
def okC (c:ColumnStats) (rows:Int):Bool:=
 if rows=0 then decide (c.Distinct=0)&&(decide (c.Min=zV)&&(decide (c.Max=zV)&&decide (c.Bounds.length=0)))
 else decide (1≤c.Distinct)&&(decide (c.Distinct≤rows)&&(valV c.Min&&(valV c.Max&&(decide (c.Min.Kind=c.Max.Kind)&&(decide (cmpV c.Min c.Max≤0)&&(decide (c.Bounds.length=8)&&(decide (c.Bounds.getD 7 default=c.Max)&&
  (c.Bounds.all (zir c.Min.Kind)&&(decide (cmpV c.Min (c.Bounds.getD 0 default)≤0)&&allN (srtB c.Bounds) c.Bounds.length 0)))))))))
def okS (s:Stats):Bool:=decide (0≤s.Rows)&&(decide (s.Rows≤1000000)&&(decide (s.Columns.length≤16)&&s.Columns.all fun c=>okC c s.Rows))
end Go.Proofs.YtddkaehkimnklaaGreatDoor
end
