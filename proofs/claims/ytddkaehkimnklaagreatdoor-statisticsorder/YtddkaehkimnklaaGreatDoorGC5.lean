/- Texts of this claim, joined (the program, its functions in plain words, and what they compute). -/
import Derived.Test.YtddkaehkimnklaaGreatDoorGC1
import Derived.Test.YtddkaehkimnklaaGreatDoorGA3
import Derived.Test.YtddkaehkimnklaaGreatDoorGC4
import Derived.Test.YtddkaehkimnklaaGreatDoorGB1
set_option autoImplicit false
set_option linter.unusedVariables false
set_option linter.unusedSectionVars false
set_option linter.unusedSimpArgs false
set_option maxRecDepth 1000000
set_option maxHeartbeats 0
noncomputable section
namespace Go.Proofs.YtddkaehkimnklaaGreatDoor
open Go Go.Ab
abbrev ttTlaw37StatisticsOrder0:=Int×Unit×Unit×Unit×Int×Unit
abbrev ttTlaw37StatisticsOrder1:=Table×Stats×(Int×ByteArray×List Column×Unit×Unit)×List Row×Unit
abbrev ttTlaw37StatisticsOrder2:=Table×Stats×Int×ByteArray×List Column×List Row
abbrev ttTlaw37StatisticsOrder3:=Unit×Unit×Int×Int×Int×Unit×Bool×Int×Unit
abbrev ttTlaw37StatisticsOrder4:=Table×Stats×Value×Unit
abbrev ttTlaw37StatisticsOrder5:=Int×Int×Int×Bool×Table×Stats×Value
abbrev ttTlaw37StatisticsOrder6:=Unit×Unit×Int×Int×Int×Unit
abbrev ttTlaw37StatisticsOrder7:=Table×Stats×Unit
abbrev ttTlaw37StatisticsOrder8:=Bool⊕(Int×Int×Table×Stats)
abbrev ttTlaw37StatisticsOrder9:=Unit×Unit×Int×Unit
abbrev ttTlaw37StatisticsOrder10:=Unit×Unit×Unit
abbrev ttTlaw37StatisticsOrder11:=Int×Unit×Unit
def zjG (turn:Int) (i:Int) (t:Table) (s:Stats) (u_0:Int) (u_1:ByteArray) (u_2:List Column) (b3:List Row):Wy ttTlaw37StatisticsOrder0 ttTlaw37StatisticsOrder1 ttTlaw37StatisticsOrder2:=.i (decide (i<Int.ofNat t.Rows.length)) (.i (!decide (Int.ofNat t.Rows.length=0)) (.i (decide (0≤(IntKind.i64.wrap (i+IntKind.i64.wrap turn)).tmod (Int.ofNat t.Rows.length))&&decide ((IntKind.i64.wrap (i+IntKind.i64.wrap turn)).tmod (Int.ofNat t.Rows.length)<Int.ofNat t.Rows.length)) (.i (decide ((b3.length+[t.Rows.getD ((IntKind.i64.wrap (i+IntKind.i64.wrap turn)).tmod (Int.ofNat t.Rows.length)).toNat default].length)*48≤reach)) (.h (turn,(),(),(),(IntKind.i64.wrap (i+1)),()) (t,s,(u_0,u_1,u_2,(),()),(b3++[t.Rows.getD ((IntKind.i64.wrap (i+IntKind.i64.wrap turn)).tmod (Int.ofNat t.Rows.length)).toNat default]),())) .d) .d) .d) (.k (t,s,u_0,u_1,u_2,b3))
def zhj (x:ttTlaw37StatisticsOrder0) (y:ttTlaw37StatisticsOrder1):Wy ttTlaw37StatisticsOrder0 ttTlaw37StatisticsOrder1 ttTlaw37StatisticsOrder2:=zjG x.1 x.2.2.2.2.1 y.1 y.2.1 y.2.2.1.1 y.2.2.1.2.1 y.2.2.1.2.2.1 y.2.2.2.1
def zjF (n:Nat) (turn:Int) (i:Int) (t:Table) (s:Stats) (u_0:Int) (u_1:ByteArray) (u_2:List Column) (b3:List Row):Bool×ttTlaw37StatisticsOrder2:=zM (zhj) default n (turn,(),(),(),i,()) (t,s,(u_0,u_1,u_2,(),()),b3,())
def znb (r:ttTlaw37StatisticsOrder2):LTree ty:=.done (.exit 0) [.ptr 568 0,.ptr 569 0,.ptr 570 0] [.box (base.enc 25 r.1) false,.box (base.enc 30 r.2.1) false,.box ([.lit (.int .i64 r.2.2.1),.lit (.string r.2.2.2.1),.sl 67 r.2.2.2.2.1,.own 571]) false,.arr 38 r.2.2.2.2.2 false]
def zob:LL ty ttTlaw37StatisticsOrder0:=za (lInt .u8) (za (zb2 568 0) (za (zb2 569 0) (za (zb2 570 0) (za (lInt .i64) zD))))
def zoe:BL ty ttTlaw37StatisticsOrder1:=bBox (zdo (fun x=>(⟨x.1,x.2.1,x.2.2.1,x.2.2.2.1⟩:Table)) (fun x=>(x.ID,x.Name,x.Columns,x.Rows,())) (fun _=>rfl) (za (lInt .i64) (za lStr (za (lSl 67) (za (lSl 38) zD))))) false (bBox (zdo (fun x=>(⟨x.1,x.2.1,x.2.2.1⟩:Stats)) (fun x=>(x.Table,x.Rows,x.Columns,())) (fun _=>rfl) (za (lInt .i64) (za (lInt .i64) (za (lSl 43) zD)))) false (bBox (za (lInt .i64) (za lStr (za (lSl 67) (za (lOwn 571) zD)))) false (bArr 38 false (bNil))))
def ziX (k:Int) (n_:Int) (i:Int) (first:Bool) (j:Int) (t:Table) (s:Stats) (v:Value):Wy ttTlaw37StatisticsOrder3 ttTlaw37StatisticsOrder4 ttTlaw37StatisticsOrder5:=.i (decide (j<i)) (.i (first) (.i (decide (0≤j)&&decide (j<Int.ofNat t.Rows.length)) (.i (decide (0≤k)&&decide (k<Int.ofNat (t.Rows.getD j.toNat default).Values.length)) (.h ((),(),k,n_,i,(),(!(((t.Rows.getD j.toNat default).Values.getD k.toNat default).Kind==v.Kind&&(((t.Rows.getD j.toNat default).Values.getD k.toNat default).Int==v.Int&&(((t.Rows.getD j.toNat default).Values.getD k.toNat default).Text.toList==v.Text.toList&&true)))),(IntKind.i64.wrap (j+1)),()) (t,s,v,())) .d) .d) (.h ((),(),k,n_,i,(),false,(IntKind.i64.wrap (j+1)),()) (t,s,v,()))) (.k (k,n_,i,first,t,s,v))
def zgY (x:ttTlaw37StatisticsOrder3) (y:ttTlaw37StatisticsOrder4):Wy ttTlaw37StatisticsOrder3 ttTlaw37StatisticsOrder4 ttTlaw37StatisticsOrder5:=ziX x.2.2.1 x.2.2.2.1 x.2.2.2.2.1 x.2.2.2.2.2.2.1 x.2.2.2.2.2.2.2.1 y.1 y.2.1 y.2.2.1
def zi5 (n:Nat) (k:Int) (n_:Int) (i:Int) (first:Bool) (j:Int) (t:Table) (s:Stats) (v:Value):Bool×ttTlaw37StatisticsOrder5:=zM (zgY) default n ((),(),k,n_,i,(),first,j,()) (t,s,v,())
def zmO (r:ttTlaw37StatisticsOrder5):LTree ty:=.done (.exit 6) [.ptr 568 0,.ptr 569 0,.lit (.int .i64 r.1),.lit (.int .i64 r.2.1),.lit (.int .i64 r.2.2.1),.ptr 570 0,.lit (.bool r.2.2.2.1)] [.box (base.enc 25 r.2.2.2.2.1) false,.box (base.enc 30 r.2.2.2.2.2.1) false,.box (base.enc 40 r.2.2.2.2.2.2) false]
def zni:LL ty ttTlaw37StatisticsOrder3:=za (zb2 568 0) (za (zb2 569 0) (za (lInt .i64) (za (lInt .i64) (za (lInt .i64) (za (zb2 570 0) (za zKI (za (lInt .i64) zD)))))))
def znU:BL ty ttTlaw37StatisticsOrder4:=bBox (zdo (fun x=>(⟨x.1,x.2.1,x.2.2.1,x.2.2.2.1⟩:Table)) (fun x=>(x.ID,x.Name,x.Columns,x.Rows,())) (fun _=>rfl) (za (lInt .i64) (za lStr (za (lSl 67) (za (lSl 38) zD))))) false (bBox (zdo (fun x=>(⟨x.1,x.2.1,x.2.2.1⟩:Stats)) (fun x=>(x.Table,x.Rows,x.Columns,())) (fun _=>rfl) (za (lInt .i64) (za (lInt .i64) (za (lSl 43) zD)))) false (bBox (zdo (fun x=>(⟨x.1,x.2.1,x.2.2.1⟩:Value)) (fun x=>(x.Kind,x.Int,x.Text,())) (fun _=>rfl) (za (lInt .i64) (za (lInt .i64) (za lStr zD)))) false (bNil)))
def zja (k:Int) (n_:Int) (i:Int) (t:Table) (s:Stats):Wy ttTlaw37StatisticsOrder6 ttTlaw37StatisticsOrder7 ttTlaw37StatisticsOrder8:=.i (decide (i<Int.ofNat t.Rows.length)) (.i (decide (0≤i)&&decide (i<Int.ofNat t.Rows.length)) (.i (decide (0≤k)&&decide (k<Int.ofNat (t.Rows.getD i.toNat default).Values.length)) (.bn (zi5 (k.toNat +n_.toNat +i.toNat +Int.toNat 0+t.Columns.length+t.Rows.length+s.Columns.length+1000) k n_ i true 0 t s ((t.Rows.getD i.toNat default).Values.getD k.toNat default)) fun r4=>.i (r4.2.2.2.1) (.i (decide (0≤r4.1)&&decide (r4.1<Int.ofNat r4.2.2.2.2.2.1.Columns.length)) (.bn (zfp r4.2.2.2.2.2.2 (r4.2.2.2.2.2.1.Columns.getD r4.1.toNat default).Min) fun r1=>.i (decide (r1<0)) (.k (.inl false)) (.i (decide (0≤r4.1)&&decide (r4.1<Int.ofNat r4.2.2.2.2.2.1.Columns.length)) (.bn (zfp r4.2.2.2.2.2.2 (r4.2.2.2.2.2.1.Columns.getD r4.1.toNat default).Max) fun r0=>.i (decide (r0>0)) (.k (.inl false)) (.h ((),(),(r4.1),(IntKind.i64.wrap (r4.2.1+1)),(IntKind.i64.wrap (r4.2.2.1+1)),()) ((r4.2.2.2.2.1),(r4.2.2.2.2.2.1),()))) .d)) .d) (.i (decide (0≤r4.1)&&decide (r4.1<Int.ofNat r4.2.2.2.2.2.1.Columns.length)) (.bn (zfp r4.2.2.2.2.2.2 (r4.2.2.2.2.2.1.Columns.getD r4.1.toNat default).Min) fun r3=>.i (decide (r3<0)) (.k (.inl false)) (.i (decide (0≤r4.1)&&decide (r4.1<Int.ofNat r4.2.2.2.2.2.1.Columns.length)) (.bn (zfp r4.2.2.2.2.2.2 (r4.2.2.2.2.2.1.Columns.getD r4.1.toNat default).Max) fun r2=>.i (decide (r2>0)) (.k (.inl false)) (.h ((),(),(r4.1),(r4.2.1),(IntKind.i64.wrap (r4.2.2.1+1)),()) ((r4.2.2.2.2.1),(r4.2.2.2.2.2.1),()))) .d)) .d)) .d) .d) (.k (.inr (k,n_,t,s)))
def zg3 (x:ttTlaw37StatisticsOrder6) (y:ttTlaw37StatisticsOrder7):Wy ttTlaw37StatisticsOrder6 ttTlaw37StatisticsOrder7 ttTlaw37StatisticsOrder8:=zja x.2.2.1 x.2.2.2.1 x.2.2.2.2.1 y.1 y.2.1
def ziZ (n:Nat) (k:Int) (n_:Int) (i:Int) (t:Table) (s:Stats):Bool×ttTlaw37StatisticsOrder8:=zM (zg3) (.inl default) n ((),(),k,n_,i,()) (t,s,())
def zmD (r:ttTlaw37StatisticsOrder8):LTree ty:=.ite (isL r) (.done .ret [.lit (.bool (getL r))] []) (.done (.exit 4) [.ptr 568 0,.ptr 569 0,.lit (.int .i64 (getR r).1),.lit (.int .i64 (getR r).2.1)] [.box (base.enc 25 (getR r).2.2.1) false,.box (base.enc 30 (getR r).2.2.2) false])
def znF:LL ty ttTlaw37StatisticsOrder6:=za (zb2 568 0) (za (zb2 569 0) (za (lInt .i64) (za (lInt .i64) (za (lInt .i64) zD))))
def znC:BL ty ttTlaw37StatisticsOrder7:=bBox (zdo (fun x=>(⟨x.1,x.2.1,x.2.2.1,x.2.2.2.1⟩:Table)) (fun x=>(x.ID,x.Name,x.Columns,x.Rows,())) (fun _=>rfl) (za (lInt .i64) (za lStr (za (lSl 67) (za (lSl 38) zD))))) false (bBox (zdo (fun x=>(⟨x.1,x.2.1,x.2.2.1⟩:Stats)) (fun x=>(x.Table,x.Rows,x.Columns,())) (fun _=>rfl) (za (lInt .i64) (za (lInt .i64) (za (lSl 43) zD)))) false (bNil))
def zjg (k:Int) (t:Table) (s:Stats):Wy ttTlaw37StatisticsOrder9 ttTlaw37StatisticsOrder7 (Bool⊕Unit):=.i (decide (k<Int.ofNat s.Columns.length)) (.bn (ziZ (k.toNat +Int.toNat 0+Int.toNat 0+t.Columns.length+t.Rows.length+s.Columns.length+1000) k 0 0 t s) fun r10=>.i (isL r10) (.k (.inl (getL r10))) (.i (decide (0≤(getR r10).1)&&decide ((getR r10).1<Int.ofNat (getR r10).2.2.2.Columns.length)) (.i ((getR r10).2.1 != ((getR r10).2.2.2.Columns.getD (getR r10).1.toNat default).Distinct) (.k (.inl false)) (.h ((),(),(IntKind.i64.wrap ((getR r10).1+1)),()) ((getR r10).2.2.1,(getR r10).2.2.2,()))) .d)) (.k (.inr ()))
def zeA (x:ttTlaw37StatisticsOrder9) (y:ttTlaw37StatisticsOrder7):Wy ttTlaw37StatisticsOrder9 ttTlaw37StatisticsOrder7 (Bool⊕Unit):=zjg x.2.2.1 y.1 y.2.1
def ziU (n:Nat) (k:Int) (t:Table) (s:Stats):Bool×(Bool⊕Unit):=zM (zeA) (.inl default) n ((),(),k,()) (t,s,())
def zmA (r:Bool⊕Unit):LTree ty:=.ite (isL r) (.done .ret [.lit (.bool (getL r))] []) (.done (.exit 2) [] [])
def znD:LL ty ttTlaw37StatisticsOrder9:=za (zb2 568 0) (za (zb2 569 0) (za (lInt .i64) zD))
def znE:BL ty ttTlaw37StatisticsOrder7:=bBox (zdo (fun x=>(⟨x.1,x.2.1,x.2.2.1,x.2.2.2.1⟩:Table)) (fun x=>(x.ID,x.Name,x.Columns,x.Rows,())) (fun _=>rfl) (za (lInt .i64) (za lStr (za (lSl 67) (za (lSl 38) zD))))) false (bBox (zdo (fun x=>(⟨x.1,x.2.1,x.2.2.1⟩:Stats)) (fun x=>(x.Table,x.Rows,x.Columns,())) (fun _=>rfl) (za (lInt .i64) (za (lInt .i64) (za (lSl 43) zD)))) false (bNil))
def zi0 (t:Table) (s:Stats):Wy ttTlaw37StatisticsOrder10 ttTlaw37StatisticsOrder7 (Bool):=.bn (ziU (Int.toNat 0+t.Columns.length+t.Rows.length+s.Columns.length+1000) 0 t s) fun r12=>.i (isL r12) (.k (getL r12)) (.k true)
def zg2 (x:ttTlaw37StatisticsOrder10) (y:ttTlaw37StatisticsOrder7):Wy ttTlaw37StatisticsOrder10 ttTlaw37StatisticsOrder7 (Bool):=zi0 y.1 y.2.1
def znf (n:Nat) (t:Table) (s:Stats):Bool×Bool:=zM (zg2) default n ((),(),()) (t,s,())
def zmF (r:Bool):LTree ty:=.done .ret [.lit (.bool r)] []
def znT:LL ty ttTlaw37StatisticsOrder10:=za (zb2 568 0) (za (zb2 569 0) zD)
def zm9:BL ty ttTlaw37StatisticsOrder7:=bBox (zdo (fun x=>(⟨x.1,x.2.1,x.2.2.1,x.2.2.2.1⟩:Table)) (fun x=>(x.ID,x.Name,x.Columns,x.Rows,())) (fun _=>rfl) (za (lInt .i64) (za lStr (za (lSl 67) (za (lSl 38) zD))))) false (bBox (zdo (fun x=>(⟨x.1,x.2.1,x.2.2.1⟩:Stats)) (fun x=>(x.Table,x.Rows,x.Columns,())) (fun _=>rfl) (za (lInt .i64) (za (lInt .i64) (za (lSl 43) zD)))) false (bNil))
def zi9 (t:Table) (s:Stats):Wy ttTlaw37StatisticsOrder10 ttTlaw37StatisticsOrder7 (Bool):=.i (s.Rows != Int.ofNat t.Rows.length) (.k (s.Rows==0)) (.i (s.Rows==0) (.k (s.Rows==0)) (.bn (znf 1 t s) fun r14=>.k r14))
def zgZ (x:ttTlaw37StatisticsOrder10) (y:ttTlaw37StatisticsOrder7):Wy ttTlaw37StatisticsOrder10 ttTlaw37StatisticsOrder7 (Bool):=zi9 y.1 y.2.1
def znl (n:Nat) (t:Table) (s:Stats):Bool×Bool:=zM (zgZ) default n ((),(),()) (t,s,())
def zmB (r:Bool):LTree ty:=.done .ret [.lit (.bool r)] []
def zm8:LL ty ttTlaw37StatisticsOrder10:=za (zb2 568 0) (za (zb2 569 0) zD)
def zm6:BL ty ttTlaw37StatisticsOrder7:=bBox (zdo (fun x=>(⟨x.1,x.2.1,x.2.2.1,x.2.2.2.1⟩:Table)) (fun x=>(x.ID,x.Name,x.Columns,x.Rows,())) (fun _=>rfl) (za (lInt .i64) (za lStr (za (lSl 67) (za (lSl 38) zD))))) false (bBox (zdo (fun x=>(⟨x.1,x.2.1,x.2.2.1⟩:Stats)) (fun x=>(x.Table,x.Rows,x.Columns,())) (fun _=>rfl) (za (lInt .i64) (za (lInt .i64) (za (lSl 43) zD)))) false (bNil))
def zjC (turn:Int) (t:Table):Wy ttTlaw37StatisticsOrder11 (Table×Unit) (Bool):=.bn (zf1 t) fun r20=>.bn (zjF (turn.toNat +Int.toNat 0+t.Columns.length+t.Rows.length+r20.Columns.length+t.ID.toNat +(ByteArray.mk #[]).size+t.Columns.length+0+1000) turn 0 t r20 t.ID (ByteArray.mk #[]) t.Columns []) fun r19=>.bn (zf1 (Table.mk r19.2.2.1 r19.2.2.2.1 r19.2.2.2.2.1 r19.2.2.2.2.2)) fun r18=>.bn (zoJ r19.2.1 r18) fun r17=>.i (!r17) (.k false) (.bn (znl 1 r19.1 r19.2.1) fun r16=>.k r16)
def zhk (x:ttTlaw37StatisticsOrder11) (y:Table×Unit):Wy ttTlaw37StatisticsOrder11 (Table×Unit) (Bool):=zjC x.1 y.1
def zog (n:Nat) (turn:Int) (t:Table):Bool×Bool:=zM (zhk) default n (turn,(),()) (t,())
def znI (r:Bool):LTree ty:=.done .ret [.lit (.bool r)] []
def zou:LL ty ttTlaw37StatisticsOrder11:=za (lInt .u8) (za (zb2 568 0) zD)
def zoq:BL ty (Table×Unit):=bBox (zdo (fun x=>(⟨x.1,x.2.1,x.2.2.1,x.2.2.2.1⟩:Table)) (fun x=>(x.ID,x.Name,x.Columns,x.Rows,())) (fun _=>rfl) (za (lInt .i64) (za lStr (za (lSl 67) (za (lSl 38) zD))))) false (bNil)
def zjK (turn:Int) (t:Table):Wy ttTlaw37StatisticsOrder11 (Table×Unit) (Bool):=.bn (ztM t) fun r27=>.i (!r27) (.k true) (.bn (zog 1 turn t) fun r26=>.k r26)
def zhb (x:ttTlaw37StatisticsOrder11) (y:Table×Unit):Wy ttTlaw37StatisticsOrder11 (Table×Unit) (Bool):=zjK x.1 y.1
def zor (n:Nat) (turn:Int) (t:Table):Bool×Bool:=zM (zhb) default n (turn,(),()) (t,())
def zm7 (r:Bool):LTree ty:=.done .ret [.lit (.bool r)] []
def zn5:LL ty ttTlaw37StatisticsOrder11:=za (lInt .u8) (za (zb2 568 0) zD)
def zoz:BL ty (Table×Unit):=bBox (zdo (fun x=>(⟨x.1,x.2.1,x.2.2.1,x.2.2.2.1⟩:Table)) (fun x=>(x.ID,x.Name,x.Columns,x.Rows,())) (fun _=>rfl) (za (lInt .i64) (za lStr (za (lSl 67) (za (lSl 38) zD))))) false (bNil)
def znL (x:ttTlaw37StatisticsOrder0) (y:ttTlaw37StatisticsOrder1):Nat:=(Int.toNat x.1+Int.toNat x.2.2.2.2.1+y.1.Columns.length+y.1.Rows.length+y.2.1.Columns.length+Int.toNat y.2.2.1.1+y.2.2.1.2.1.size+y.2.2.1.2.2.1.length+y.2.2.2.1.length+1000)
def zmu (x:ttTlaw37StatisticsOrder3) (y:ttTlaw37StatisticsOrder4):Nat:=(Int.toNat x.2.2.1+Int.toNat x.2.2.2.1+Int.toNat x.2.2.2.2.1+Int.toNat x.2.2.2.2.2.2.2.1+y.1.Columns.length+y.1.Rows.length+y.2.1.Columns.length+1000)
def zmE (x:ttTlaw37StatisticsOrder6) (y:ttTlaw37StatisticsOrder7):Nat:=(Int.toNat x.2.2.1+Int.toNat x.2.2.2.1+Int.toNat x.2.2.2.2.1+y.1.Columns.length+y.1.Rows.length+y.2.1.Columns.length+1000)
def zmK (x:ttTlaw37StatisticsOrder9) (y:ttTlaw37StatisticsOrder7):Nat:=(Int.toNat x.2.2.1+y.1.Columns.length+y.1.Rows.length+y.2.1.Columns.length+1000)
def zbH:Cx ty:=zHx base0 142 [(10,zwa),(11,zyc),(12,zkw),(13,zwJ),(16,zn7)] [] [(8,[(1,.keep),(2,.keep),(5,.keep),(6,.boxOwn [(3,38)]),(7,.keep)]),(16,[(2,.keep),(5,.keep),(8,.keep)]),(20,[(2,.keep),(5,.keep),(8,.keep),(9,.keep),(10,.keep)]),(25,[(2,.keep),(5,.keep),(8,.keep),(9,.keep),(10,.keep),(11,.keep),(12,.keep),(13,.keep)]),(3,[(1,.keep),(2,.keep)]),(5,[(1,.keep),(2,.keep)]),(13,[(2,.keep),(5,.keep)]),(15,[(2,.keep),(5,.keep)])] [(8,1,[(2,.keep),(5,.keep),(6,.keep)]),(16,3,[]),(16,0,[(4,.keep)]),(20,5,[(2,.keep),(5,.keep),(8,.keep),(9,.keep)]),(20,0,[(4,.keep)]),(25,7,[(2,.keep),(5,.keep),(8,.keep),(9,.keep),(10,.keep),(11,.keep),(12,.keep)]),(3,0,[(4,.keep)]),(5,0,[(4,.keep)]),(13,0,[(4,.keep)]),(15,0,[(4,.keep)])] [(8,spW zob zoe (zhj) default znb znL),(25,spW zni znU (zgY) default zmO zmu),(20,spW znF znC (zg3) (.inl default) zmD zmE),(16,spW znD znE (zeA) (.inl default) zmA zmK)] [] [(15,spW znT zm9 (zg2) default zmF fun x y=>(1)),(13,spW zm8 zm6 (zgZ) default zmB fun x y=>(1)),(5,spW zou zoq (zhk) default znI fun x y=>(1)),(3,spW zn5 zoz (zhb) default zm7 fun x y=>(1))]
theorem zu4:zU zbH (lp (body Tryz.f4) 0):=zL (id:=8) (V:=zob) (B:=zoe) (W:=zhj) (z:=default) (tr:=znb) (m:=znL)
theorem zut:zU zbH (lp (body Tryz.f4) 3):=zL (id:=25) (V:=zni) (B:=znU) (W:=zgY) (z:=default) (tr:=zmO) (m:=zmu)
theorem zui:zU zbH (lp (body Tryz.f4) 2):=zL (id:=20) (V:=znF) (B:=znC) (W:=zg3) (z:=.inl default) (tr:=zmD) (m:=zmE)
theorem zuw:zU zbH (lp (body Tryz.f4) 1):=zL (id:=16) (V:=znD) (B:=znE) (W:=zeA) (z:=.inl default) (tr:=zmA) (m:=zmK)
theorem zus:zvU zbH (jn (body Tryz.f4) 15):=zza (id:=15) (V:=znT) (B:=zm9) (W:=zg2) (z:=default) (tr:=zmF) (m:=fun x y=>(1))
theorem zun:zvU zbH (jn (body Tryz.f4) 13):=zza (id:=13) (V:=zm8) (B:=zm6) (W:=zgZ) (z:=default) (tr:=zmB) (m:=fun x y=>(1))
theorem zve:zvU zbH (jn (body Tryz.f4) 5):=zza (id:=5) (V:=zou) (B:=zoq) (W:=zhk) (z:=default) (tr:=znI) (m:=fun x y=>(1))
theorem zu2:zvU zbH (jn (body Tryz.f4) 3):=zza (id:=3) (V:=zn5) (B:=zoz) (W:=zhb) (z:=default) (tr:=zm7) (m:=fun x y=>(1))
def zj3 (t:Table) (turn:Int):Wy0 (Bool):=.bn (zor 1 turn t) fun r30=>.k r30
def ze4 (t:Table) (turn:Int):Bool×Bool:=(zj3 t turn).fin default
def zjb (r:Bool):ARes ty:=⟨[.pure (.lit (.bool r))],[]⟩
def zpd:AL base0 (Table×Int×Unit):=zf (zg (vAgg 25)) (zf (zg (vInt .u8)) aNil)
def ziy:Ab.Spec ty:=zn zpd fun x=>((ze4 x.1 x.2.1).1,zjb (ze4 x.1 x.2.1).2)
theorem ztZ:Sound Tryz.prog base0 4 ziy:=
 zx (cx':=zbH) zH zsR zJH (zIu ⟨zBu,zCJ.nodr,zo2.nodr,zB5.nodr,zsJ.nodr,trivial⟩) Tryz.call4 Tryz.func4 (c:=body Tryz.f4) (by kernel_rfl) (zEA (l:=[lp (body Tryz.f4) 0,lp (body Tryz.f4) 1,lp (body Tryz.f4) 2,lp (body Tryz.f4) 3]) (by kernel_rfl) ⟨zu4,zuw,zui,zut,trivial⟩ (js:=[jn (body Tryz.f4) 3,jn (body Tryz.f4) 5,jn (body Tryz.f4) 13,jn (body Tryz.f4) 15]) (by kernel_rfl) ⟨zu2,zve,zun,zus,trivial⟩) (sg:=⟨[.pure],[]⟩) (A:=zpd) (res:=zjb) (W:=fun x=>zj3 x.1 x.2.1) (z:=default)
def trV (v:Value):TT:=.l [.i v.Kind,.i v.Int,trB v.Text]
mutual
def zDb:Atom→TT
 | ⟨k,r,a,f,i,o,b⟩=>.l [.i k,.i r.Table,.i r.Seq,.l (zv2 a),.i f,.l (zsS i),.i o,trV b]
def zzn:Factor→TT
 | ⟨x,e⟩=>.l [zDb x,.i e]
def zoE:List Factor→List TT
 | []=>[]
 | x::r=>zzn x::zoE r
def zCC:Term→TT
 | ⟨c,fs⟩=>.l [.l (zoE fs),.i c]
def zw9:List Term→List TT
 | []=>[]
 | x::r=>zCC x::zw9 r
def zv2:List (List Term)→List TT
 | []=>[]
 | x::r=>.l (zw9 x)::zv2 r
def zCs:Weighted→TT
 | ⟨v,a⟩=>.l [trV v,.l (zw9 a)]
def zsS:List Weighted→List TT
 | []=>[]
 | x::r=>zCs x::zsS r
end
theorem zuz:∀ a b:List UInt8,(a.map fun x=>TT.i (x.toNat:Int))=(b.map fun x=>TT.i (x.toNat:Int))→a=b
 | [],[]=>fun _=>rfl
 | [],_::_=>fun h=>by simp at h
 | _::_,[]=>fun h=>by simp at h
 | x::a,y::b=>fun h=>by
  simp only [List.map,List.cons.injEq,TT.i.injEq] at h
  rw [zuz a b h.2,UInt8.toNat_inj.1 (Int.ofNat.inj h.1)]
theorem zDy {a b:Value} (h:trV a=trV b):a=b:=by
 obtain ⟨k,n,s⟩:=a; obtain ⟨k',n',s'⟩:=b
 simp only [trV,trB,TT.l.injEq,List.cons.injEq,TT.i.injEq,and_true] at h
 obtain ⟨rfl,rfl,h⟩:=h
 have:=zuz _ _ h
 obtain ⟨⟨l⟩⟩:=s; obtain ⟨⟨l'⟩⟩:=s'
 simp only at this; subst this; rfl
mutual
theorem zGR:∀ a b:Atom,zDb a=zDb b→a=b
 | ⟨k,r,a,f,i,o,v⟩,⟨k',r',a',f',i',o',v'⟩=>fun h=>by
  simp only [zDb,TT.l.injEq,List.cons.injEq,TT.i.injEq,and_true] at h
  obtain ⟨rfl,h1,h2,h3,rfl,h4,rfl,h5⟩:=h
  obtain ⟨t,s⟩:=r; obtain ⟨t',s'⟩:=r'
  simp only at h1 h2; subst h1 h2
  rw [zCT a a' h3,zBV i i' h4,zDy h5]
theorem zFP:∀ a b:Factor,zzn a=zzn b→a=b
 | ⟨x,e⟩,⟨x',e'⟩=>fun h=>by
  simp only [zzn,TT.l.injEq,List.cons.injEq,TT.i.injEq,and_true] at h
  rw [zGR x x' h.1,h.2]
theorem zzG:∀ a b:List Factor,zoE a=zoE b→a=b
 | [],[]=>fun _=>rfl
 | [],_::_=>fun h=>by simp [zoE] at h
 | _::_,[]=>fun h=>by simp [zoE] at h
 | x::a,y::b=>fun h=>by
  simp only [zoE,List.cons.injEq] at h
  rw [zFP x y h.1,zzG a b h.2]
theorem zHz:∀ a b:Term,zCC a=zCC b→a=b
 | ⟨c,l⟩,⟨c',l'⟩=>fun h=>by
  simp only [zCC,TT.l.injEq,List.cons.injEq,TT.i.injEq,and_true] at h
  rw [zzG l l' h.1,h.2]
theorem zAC:∀ a b:List Term,zw9 a=zw9 b→a=b
 | [],[]=>fun _=>rfl
 | [],_::_=>fun h=>by simp [zw9] at h
 | _::_,[]=>fun h=>by simp [zw9] at h
 | x::a,y::b=>fun h=>by
  simp only [zw9,List.cons.injEq] at h
  rw [zHz x y h.1,zAC a b h.2]
theorem zCT:∀ a b:List (List Term),zv2 a=zv2 b→a=b
 | [],[]=>fun _=>rfl
 | [],_::_=>fun h=>by simp [zv2] at h
 | _::_,[]=>fun h=>by simp [zv2] at h
 | x::a,y::b=>fun h=>by
  simp only [zv2,List.cons.injEq,TT.l.injEq] at h
  rw [zAC x y h.1,zCT a b h.2]
theorem zG4:∀ a b:Weighted,zCs a=zCs b→a=b
 | ⟨c,l⟩,⟨c',l'⟩=>fun h=>by
  simp only [zCs,TT.l.injEq,List.cons.injEq,and_true] at h
  rw [zDy h.1,zAC l l' h.2]
theorem zBV:∀ a b:List Weighted,zsS a=zsS b→a=b
 | [],[]=>fun _=>rfl
 | [],_::_=>fun h=>by simp [zsS] at h
 | _::_,[]=>fun h=>by simp [zsS] at h
 | x::a,y::b=>fun h=>by
  simp only [zsS,List.cons.injEq] at h
  rw [zG4 x y h.1,zBV a b h.2]
end
def zy9 (P:List Term→Prop) (x:Atom):Prop:=
 (x.Args.length≤1000000∧x.Items.length≤1000000∧x.Bound.Text.size≤1000000000000)∧(∀ a∈x.Args,P a)∧∀ w∈x.Items,w.Value.Text.size≤1000000000000∧P w.Ann
def zF5 (P:List Term→Prop) (l:List Factor):Prop:=l.length≤1000000∧∀ f∈l,zy9 P f.Atom
def zjs:Nat→List Term→Prop
 | 0,_=>False
 | n+1,a=>a.length≤1000000∧∀ t∈a,zF5 (zjs n) t.Factors
theorem zy9.imp {P Q:List Term→Prop} (h:∀ a,P a→Q a) {x:Atom} (hx:zy9 P x):zy9 Q x:=⟨hx.1,fun a ha=>h a (hx.2.1 a ha),fun w hw=>⟨(hx.2.2 w hw).1,h _ (hx.2.2 w hw).2⟩⟩
theorem zjs.succ:∀ (n:Nat) (a:List Term),zjs n a→zjs (n+1) a
 | 0,_,h=>h.elim
 | n+1,a,h=>⟨h.1,fun t ht=>⟨(h.2 t ht).1,fun f hf=>((h.2 t ht).2 f hf).imp (zjs.succ n)⟩⟩
theorem zjs.mono {n m:Nat} {a:List Term} (h:zjs n a) (hm:n≤m):zjs m a:=by
 obtain ⟨k,rfl⟩:=Nat.exists_eq_add_of_le hm
 clear hm
 induction k with
 | zero=>exact h
 | succ k ih=>exact zjs.succ _ _ ih
theorem zBe (x y:Int):zc2 x y=(true,cmpI x y):=by
 unfold zc2 zpo zj8 zrH cmpI
 by_cases h1:x<y
 ·simp [h1,Wy.fin_i,Wy.fin_k]
 ·by_cases h2:y<x <;>simp [h1,h2,Wy.fin_i,Wy.fin_k]
theorem zy1 (x y:Int):zhp x y=(true,cmpI x y):=by
 unfold zhp zmW zio zpy cmpI
 by_cases h1:x<y
 ·simp [h1,Wy.fin_i,Wy.fin_k]
 ·by_cases h2:y<x <;>simp [h1,h2,Wy.fin_i,Wy.fin_k]
def zs1:List Int→Int
 | []=>0
 | x::r=>if x=0 then zs1 r else x
theorem zGl (l:List Int) (hl:l.length≤1000000):∀ (n i:Nat),l.length<i+n→i≤l.length→∃ r,zul n 0 l l.length i=(true,r)∧(r=.inl (zs1 (l.drop i))∨(r=.inr 0∧zs1 (l.drop i)=0))
 | 0,i,h,h2=>by omega
 | n+1,i,h,h2=>by
  show ∃ r,(zuD 0 l l.length i).ev (fun x y=>zul n x.1 x.2.1 x.2.2.1 x.2.2.2.1) (fun r=>(true,r)) (false,.inl default)=(true,r)∧_
  unfold zuD
  by_cases hi:i<l.length
  ·simp only [Wy.ev_i,Wy.ev_k,Wy.ev_h,Int.ofNat_eq_natCast,ztr,zDL,decide_true,decide_false,Bool.and_self,Bool.true_and,Bool.and_true,cond_true,cond_false,Int.toNat_natCast,Bool.not_true,Bool.not_false,hi]
   obtain ⟨r,h1,h3⟩:=zGl l hl n (i+1) (by omega) (by omega)
   rw [zla hi,zbM (by omega),h1]
   generalize l.getD i default=x
   by_cases hx:x=0
   ·have e:(x != 0)=false:=by simp [hx]
    simp only [e,cond_false,zs1,hx,if_true]
    exact ⟨r,rfl,h3⟩
   ·have e:(x != 0)=true:=by simp [hx]
    simp only [e,cond_true,zs1,hx,if_false]
    exact ⟨_,rfl,.inl rfl⟩
  ·simp only [Wy.ev_i,Wy.ev_k,Wy.ev_h,Int.ofNat_eq_natCast,ztr,zDL,decide_true,decide_false,Bool.and_self,Bool.true_and,Bool.and_true,cond_true,cond_false,Int.toNat_natCast,Bool.not_true,Bool.not_false,hi,zmQ hi]
   exact ⟨_,rfl,.inr ⟨rfl,rfl⟩⟩
theorem zEx (l:List Int) (hl:l.length≤1000000):zjh l=(true,zs1 l):=by
 unfold zjh zwc
 obtain ⟨r,h1,h2⟩:=zGl l hl (Int.toNat 0+l.length+(Int.ofNat l.length).toNat +Int.toNat 0+1000) 0 (by simp; omega) (by omega)
 rw [show ((0:Nat):Int)=(0:Int) from rfl] at h1
 rw [Wy.fin_bn,show Int.ofNat l.length=(l.length:Int) from rfl] at *
 rw [h1]
 rw [List.drop_zero] at h2
 rcases h2 with rfl | ⟨rfl,h2⟩
 ·rfl
 ·rw [h2]; rfl
theorem zB2 (s:ByteArray):∀ (n i:Nat) (r:List UInt8),s.size≤i+n→ByteArray.toList.loop s i r=r.reverse++s.data.toList.drop i
 | 0,i,r,h=>by
  rw [ByteArray.toList.loop,if_neg (by omega),List.drop_eq_nil_of_le (by rw [← Lib.size_eq]; omega),List.append_nil]
 | n+1,i,r,h=>by
  rw [ByteArray.toList.loop]
  by_cases hi:i<s.size
  ·have hi':i<s.data.toList.length:=by rw [← Lib.size_eq]; exact hi
   rw [if_pos hi,zB2 s n (i+1) _ (by omega),List.drop_eq_getElem_cons hi',List.reverse_cons,List.append_assoc]
   congr 1
   have:s.get! i=s.data.toList[i]:=by
    have h':i<s.data.size:=hi
    show s.data[i]! =s.data.toList[i]
    rw [getElem!_pos s.data i h']; rfl
   rw [this]; rfl
  ·rw [if_neg hi,List.drop_eq_nil_of_le (by rw [← Lib.size_eq]; omega),List.append_nil]
theorem toList_eq (s:ByteArray):s.toList=s.data.toList:=by
 rw [ByteArray.toList,zB2 s s.size 0 [] (by omega)]; rfl
theorem zA9 {s t:ByteArray} (h:s.data.toList=t.data.toList):s=t:=by
 cases s; cases t
 congr 1
 exact Array.toList_inj.1 h
theorem zGZ (s t:ByteArray):(s.toList==t.toList)=decide (s.data.toList=t.data.toList):=by
 rw [toList_eq,toList_eq]
 cases hb:(s.data.toList==t.data.toList) with
 | true=>rw [decide_eq_true (beq_iff_eq.1 hb)]
 | false=>rw [decide_eq_false (fun h=>by rw [beq_iff_eq.2 h] at hb; cases hb)]
theorem ztC (s t:ByteArray):(s.toList==t.toList)=decide (s=t):=by
 rw [zGZ]
 by_cases h:s=t
 ·rw [decide_eq_true h,decide_eq_true (by rw [h])]
 ·rw [decide_eq_false h,decide_eq_false fun e=>h (zA9 e)]
theorem bne0 (z w:Int):(z != w)= !decide (z=w):=by by_cases h:z=w <;>simp [h]
theorem zzV:∀ a b:List UInt8,Op.bytesLess a b=decide (Lib.compareBytes a b<0)
 | [],[]=>by simp [Op.bytesLess,Lib.compareBytes]
 | _::_,[]=>by simp [Op.bytesLess,Lib.compareBytes]
 | [],_::_=>by simp [Op.bytesLess,Lib.compareBytes]
 | x::a,y::b=>by
  simp only [Op.bytesLess,Lib.compareBytes]
  by_cases p:x<y
  ·simp [p]
  ·by_cases q:y<x
   ·have hne:¬ x=y:=fun e=>by subst e; exact p q
    simp [p,q,hne]
   ·have he:x=y:=UInt8.toNat_inj.1 (by rw [UInt8.lt_iff_toNat_lt] at p q; omega)
    subst he
    simp [p,zzV a b]
theorem zB8 (a b:Value):zfp a b=(true,cmpT (trV a) (trV b)):=by
 unfold zfp zrD zl7 zvR
 rw [ztC,toList_eq,toList_eq,zzV,zGK]
 simp only [trV,cmpT,cmpL,cmpI]
 simp only [Wy.fin_i,Wy.fin_bn,Wy.fin_k,cond_true,bne0]
 by_cases h1:a.Kind=b.Kind
 ·by_cases h2:a.Int=b.Int
  ·by_cases h3:a.Text=b.Text
   ·simp [h1,h2,h3,zDR]
   ·have h4:cmpT (trB a.Text) (trB b.Text)≠0:=fun e=>by
     have:=zuz _ _ (TT.l.inj (zvn _ _ e))
     exact h3 (zA9 this)
    have h5:=zE3 (trB a.Text) (trB b.Text)
    simp only [trB,cmpT] at h4 h5
    simp only [trB,cmpT]
    rcases h5 with h5 | h5 | h5
    ·simp [h1,h2,h3,h5]
    ·exact absurd h5 h4
    ·simp [h1,h2,h3,h5]
  ·by_cases h3:a.Int<b.Int
   ·simp [h1,h2,h3]
   ·simp [h1,h2,h3,show b.Int<a.Int by omega]
 ·by_cases h3:a.Kind<b.Kind
  ·simp [h1,h3]
  ·simp [h1,h3,show b.Kind<a.Kind by omega]
theorem zB4 (a b:Value):zba a b=(true,cmpT (trV a) (trV b)):=by
 unfold zba zr0
 have h:(strings_Compare a.Text b.Text).2=cmpT (trB a.Text) (trB b.Text):=by rw [← zGK]; rfl
 simp only [zBe,zy1,Wy.fin_bn,cond_true,h]
 rw [zEx _ (by simp)]
 simp only [Wy.fin_k,cond_true,trV,cmpT,cmpL,zs1]
 rfl
theorem zgT {z:Int} (h0: -4611686018427387904≤z) (h:z<4611686018427387904):IntKind.i64.wrap z=z:=zDE (by omega) (by omega)
def allN (c:Nat→Bool):Nat→Nat→Bool
 | 0,_=>true
 | n+1,i=>c i&&allN c n (i+1)
theorem zFV {c:Nat→Bool}:∀ {n i},allN c n i=true↔∀ k,i≤k→k<i+n→c k=true
 | 0,i=>⟨fun _ k h1 h2=>by omega,fun _=>rfl⟩
 | n+1,i=>by
  simp only [allN,Bool.and_eq_true,zFV (n:=n)]
  constructor
  ·rintro ⟨h1,h2⟩ k h3 h4
   by_cases e:k=i
   ·rw [e]; exact h1
   ·exact h2 k (by omega) (by omega)
  ·intro h
   exact ⟨h i (by omega) (by omega),fun k h1 h2=>h k (by omega) (by omega)⟩
theorem zFy {τ:Type} [Inhabited τ] (p:τ→Bool) (l:List τ):∀ n i,i+n=l.length→allN (fun k=>p (l.getD k default)) n i=(l.drop i).all p
 | 0,i,h=>by rw [zmQ (by omega)]; rfl
 | n+1,i,h=>by
  rw [zla (by omega),List.all_cons]
  simp only [allN,zFy p l n (i+1) (by omega)]
theorem zH8 {τ:Type} [Inhabited τ] (p:τ→Bool) (l:List τ):allN (fun k=>p (l.getD k default)) l.length 0=l.all p:=by
 rw [zFy p l _ _ (by omega),List.drop_zero]
section
variable {α β ρ:Type}
theorem zE8 {W:α→β→Wy α β ρ} {z:ρ} (N:Nat) (ex:Nat→α) (ey:Nat→β) (c:Nat→Bool) (no yes:ρ)
  (h:∀ i,i<N→∀ (H:α→β→Bool×ρ) K D,(W (ex i) (ey i)).ev H K D=bif c i then H (ex (i+1)) (ey (i+1)) else K no)
  (he:∀ (H:α→β→Bool×ρ) K D,(W (ex N) (ey N)).ev H K D=K yes):
  ∀ n i,N<i+n→i≤N→zM W z n (ex i) (ey i)=(true,bif allN c (N - i) i then yes else no)
 | 0,i,h1,h2=>by omega
 | n+1,i,h1,h2=>by
  show (W (ex i) (ey i)).ev (zM W z n) (fun r=>(true,r)) (false,z)=_
  by_cases hi:i<N
  ·rw [h i hi,show N - i=(N - (i+1))+1 by omega]
   simp only [allN]
   cases c i with
   | false=>rfl
   | true=>rw [cond_true,zE8 N ex ey c no yes h he n (i+1) (by omega) (by omega)]; rfl
  ·have:i=N:=by omega
   subst this
   rw [he,Nat.sub_self]; rfl
theorem zDQ {W:α→β→Wy α β ρ} {z:ρ} (N:Nat) (ex:Nat→α) (ey:Nat→β) (c:Nat→Bool) (no yes:ρ)
  (h:∀ i,i<N→∀ (H:α→β→Bool×ρ) K D,(W (ex i) (ey i)).ev H K D=bif c i then H (ex (i+1)) (ey (i+1)) else K no)
  (he:∀ (H:α→β→Bool×ρ) K D,(W (ex N) (ey N)).ev H K D=K yes) (n:Nat) (hn:N<n):zM W z n (ex 0) (ey 0)=(true,bif allN c N 0 then yes else no):=by
 have:=zE8 (z:=z) N ex ey c no yes h he n 0 (by omega) (by omega)
 simpa using this
end
def ixf {α:Type} (p:α→Bool):List α→Nat→Int
 | [],_=> -1
 | x::r,i=>bif p x then (i:Int) else ixf p r (i+1)
theorem zGH {α:Type} (p:α→Bool):∀ (l:List α) (i:Nat),decide (ixf p l i≥(0:Int))=l.any p
 | [],i=>by simp [ixf]
 | x::r,i=>by
  rw [List.any_cons]
  cases h:p x with
  | true=>simp [ixf,h]
  | false=>simpa [ixf,h] using zGH p r (i+1)
section
variable {α γ:Type} [Inhabited α]
def zHB (p:γ→α→Bool×Bool) (s:List α) (g:γ) (t7:Int) (t8:Int):Wy (List α×γ×Int×Int×Unit) (Unit) (Int⊕Unit):=.i (decide (t8<t7)) (.i (decide ((0:Int)≤t8)&&decide (t8<Int.ofNat s.length)) (.bn (p g (s.getD t8.toNat default)) fun r0=>.i (r0) (.k (.inl t8)) (.h (s,g,t7,(IntKind.i64.wrap (t8+(1:Int))),()) ())) .d) (.k (.inr ()))
def zKE (p:γ→α→Bool×Bool) (x:List α×γ×Int×Int×Unit) (y:Unit):Wy (List α×γ×Int×Int×Unit) (Unit) (Int⊕Unit):=zHB p x.1 x.2.1 x.2.2.1 x.2.2.2.1
def zHe (p:γ→α→Bool×Bool) (n:Nat) (s:List α) (g:γ) (t7:Int) (t8:Int):Bool×(Int⊕Unit):=zM (zKE p) (.inl default) n (s,g,t7,t8,()) ()
def IG (p:γ→α→Bool×Bool) (n:Nat) (g:γ) (s:List α):Bool×Int:=(.bn (zHe p n s g (Int.ofNat s.length) (0:Int)) fun r2=>.i (isL r2) (.k (getL r2)) (.k (-1:Int)):Wy0 Int).fin default
theorem zGE (p:γ→α→Bool×Bool) (P:α→Bool) (g:γ) (s:List α) (hs:s.length≤1000000000) (hp:∀ x∈s,p g x=(true,P x)):∀ (n i:Nat),s.length<i+n→i≤s.length→
  ∃ r,zHe p n s g s.length i=(true,r)∧((r=.inl (ixf P (s.drop i) i))∨(r=.inr ()∧ixf P (s.drop i) i= -1))
 | 0,i,h,h2=>by omega
 | n+1,i,h,h2=>by
  show ∃ r,(zHB p s g s.length i).ev (fun x y=>zHe p n x.1 x.2.1 x.2.2.1 x.2.2.2.1) (fun r=>(true,r)) (false,.inl default)=(true,r)∧_
  unfold zHB
  by_cases hi:i<s.length
  ·simp only [Wy.ev_i,Wy.ev_k,Wy.ev_h,Wy.ev_bn,Wy.ev_d,tT,hi,hp _ (zhg hi)]
   rw [zla hi,zbM (by omega)]
   simp only [ixf]
   cases P (s.getD i default) with
   | true=>exact ⟨_,rfl,.inl rfl⟩
   | false=>exact zGE p P g s hs hp n (i+1) (by omega) (by omega)
  ·simp only [Wy.ev_i,Wy.ev_k,Wy.ev_h,Wy.ev_bn,Wy.ev_d,tT,hi,zmQ hi]
   exact ⟨_,rfl,.inr ⟨rfl,rfl⟩⟩
theorem zI4 (p:γ→α→Bool×Bool) (P:α→Bool) (n:Nat) (g:γ) (s:List α) (hs:s.length≤1000000000) (hp:∀ x∈s,p g x=(true,P x)) (hn:s.length<n):IG p n g s=(true,ixf P s 0):=by
 unfold IG
 obtain ⟨r,h1,h2⟩:=zGE p P g s hs hp n 0 (by omega) (by omega)
 rw [show ((0:Nat):Int)=(0:Int) from rfl] at h1
 rw [Wy.fin_bn,show Int.ofNat s.length=(s.length:Int) from rfl,h1]
 rw [List.drop_zero] at h2
 rcases h2 with rfl | ⟨rfl,h2⟩
 ·rfl
 ·rw [h2]; rfl
theorem zBO {α:Type} {s:List α} {P:α→Bool} {q:Bool×Int} (h:q=(true,ixf P s 0)):((.bn q fun r0=>.k (decide (r0≥(0:Int))):Wy0 Bool).fin default)=(true,s.any P):=by
 rw [h,Wy.fin_bn,cond_true,Wy.fin_k,zGH]
end
theorem beqd (a b:Int):(a==b)=decide (a=b):=by by_cases h:a=b <;>simp [h]
theorem beqn (a b:Nat):(a==b)=decide (a=b):=by by_cases h:a=b <;>simp [h]
theorem i0 (l:Nat):((l:Int)==0)=(l==0):=by
 rw [beqd,beqn]; congr 1; simp
def valV (v:Value):Bool:=(v.Kind==0&&v.Text.size==0)||(v.Kind==1&&v.Int==0&&decide (v.Text.size≤255))||(v.Kind==2&&v.Text.size==0&&(v.Int==0||v.Int==1))
theorem zIG (s:ByteArray):(s.toList==(ByteArray.mk #[]).toList)=(s.size==0):=by
 rw [ztC]
 by_cases h:s.size=0
 ·have:s=ByteArray.mk #[]:=zA9 (by
   have:s.data.toList.length=0:=by simpa using h
   rw [List.length_eq_zero_iff.1 this])
  subst this; rfl
 ·have:¬ s=ByteArray.mk #[]:=fun e=>h (by rw [e]; rfl)
  simp [h,this]
theorem zDN (v:Value):zgw v=(true,valV v):=by
 unfold zgw zug valV
 simp only [zIG,Wy.fin_i,Wy.fin_k,beqd,beqn]
 have e:decide (Int.ofNat v.Text.size≤(255:Int))=decide (v.Text.size≤255):=zoG _ 255
 rw [e]
 by_cases h0:v.Kind=0
 ·simp [h0]
 ·by_cases h1:v.Kind=1
  ·by_cases h2:v.Int=0 <;>simp [h1,h2]
  ·by_cases h2:v.Kind=2
   ·by_cases h3:v.Int=0
    ·simp [h2,h3]
    ·by_cases h4:v.Int=1 <;>simp [h2,h3,h4]
   ·simp [h0,h1,h2]
theorem zEk (c:Nat→Bool):∀ n i,allN c (n+1) i=(allN c n i&&c (i+n))
 | 0,i=>by simp [allN]
 | n+1,i=>by
  rw [allN,zEk c n (i+1),allN,show i+1+n=i+(n+1) by omega,Bool.and_assoc]
def cmpV (a b:Value):Int:=cmpT (trV a) (trV b)
theorem ztW (a b:Value):cmpV b a= - cmpV a b:=zw2 _ _
theorem zwQ (a b:Value):cmpV a b=0↔a=b:=⟨fun h=>zDy (zvn _ _ h),fun h=>by subst h; exact zDR _⟩
theorem ordV:Ord3 cmpV where
 eq:=zwQ
 swap x y:=by rw [ztW x y]; omega
 trans x y z h1 h2:=by
  have h3:cmpV x z≤0:=zCG _ _ _ (Int.le_of_lt h1) (Int.le_of_lt h2)
  by_cases h4:cmpV x z=0
  ·have:=(zwQ x z).1 h4; subst this
   have:=ztW x y; omega
  ·omega
theorem value_Compare_eq' (a b:Value):zba a b=(true,cmpV a b):=zB4 a b
theorem ref01_Compare_eq' (a b:Value):zfp a b=(true,cmpV a b):=zB8 a b
abbrev AscV (l:List Value):Prop:=l.Pairwise fun x y=>cmpV x y≤0
def srtV (l:List Value):List Value:=zi1 zba l
theorem zBn {l:List Value} (h:l.length<4611686018427387904):SortOK zba l:=zIh ordV h fun x _ y _=>value_Compare_eq' x y
theorem zGo {l:List Value}:Asc zba l↔AscV l:=by
 have:(fun x y:Value=>¬ (zba y x).2<0)=fun x y=>cmpV x y≤0:=by
  funext x y
  rw [value_Compare_eq',ztW x y]
  exact propext ⟨fun h=>by simp only at h; omega,fun h=>by simp only; omega⟩
 unfold Asc AscV
 rw [this]
theorem ztI (l:List Value):(srtV l).Perm l:=zmf _ l
theorem zB9 {l:List Value} (h:l.length<4611686018427387904):AscV (srtV l):=zGo.1 (zAE (zBn h).ntrans (zBn h).asymm l fun _ h=>h)
theorem zBL (l:List Value):(srtV l).length=l.length:=(ztI l).length_eq
theorem zGa {l l':List Value} (h:l.length<4611686018427387904) (hp:l'.Perm l) (hs:AscV l'):l'=srtV l:=(zBn h).unique hp (zGo.2 hs)
theorem zHn {l l':List Value} (h:l.length<4611686018427387904) (hp:l'.Perm l):srtV l'=srtV l:=zGa h ((ztI l').trans hp) (zB9 (by rw [hp.length_eq]; exact h))
theorem zGD {n:Nat} (h:n≤1000001):n*32≤reach:=zn9 (by omega) (by omega)
def zAw (l:List Value):Nat:=(adj (fun a b=>decide (a=b)) l).length
theorem zE1 {α:Type} {l l':List α} (h:l.Nodup) (h':l'.Nodup) (hm:∀ x,x∈l↔x∈l'):l.length=l'.length:=
 Nat.le_antisymm (zeR h fun x hx=>(hm x).1 hx) (zeR h' fun x hx=>(hm x).2 hx)
theorem adjV (l:List Value) (h:AscV l):(adj (fun a b=>decide (a=b)) l).Nodup∧∀ x,x∈adj (fun a b=>decide (a=b)) l↔x∈l:=by
 cases l with
 | nil=>exact ⟨.nil,fun _=>Iff.rfl⟩
 | cons x r=>
  have hs:(x::r).Pairwise (fun a b=>¬ cmpV b a<0):=h.imp fun {a b} hab=>by have:=ztW a b; omega
  have:=zBN ordV (p:=fun a b=>decide (a=b)) (fun x y=>decide_eq_true_iff) r x hs
  refine ⟨zHi ordV this.1,fun z=>⟨fun hz=> ?_,fun hz=> ?_⟩⟩
  ·rcases List.mem_cons.1 hz with rfl | hz
   ·simp
   ·exact List.mem_cons_of_mem _ (zxH _ r x z hz)
  ·rcases List.mem_cons.1 hz with rfl | hz
   ·exact List.mem_cons_self
   ·rcases this.2 z hz with rfl | h
    ·exact List.mem_cons_self
    ·exact List.mem_cons_of_mem _ h
theorem zD6 {l d:List Value} (hl:l.length<4611686018427387904) (hd:d.Nodup) (hm:∀ x,x∈d↔x∈l):d.length=zAw (srtV l):=by
 obtain ⟨h1,h2⟩:=adjV (srtV l) (zB9 hl)
 exact zE1 hd h1 fun x=>(hm x).trans (((ztI l).mem_iff).symm.trans (h2 x).symm)
end Go.Proofs.YtddkaehkimnklaaGreatDoor
namespace Go.Proofs.YtddkaehkimnklaaGreatDoor
open Go Go.Ab
end Go.Proofs.YtddkaehkimnklaaGreatDoor
namespace Go.Proofs.YtddkaehkimnklaaGreatDoor
open Go Go.Ab
end Go.Proofs.YtddkaehkimnklaaGreatDoor
/- Conditions as trees that are small: the reference's counts end. -/
namespace Go.Proofs.YtddkaehkimnklaaGreatDoor
open Go Go.Ab
def zu3:Nat→Scalar→Prop
 | 0,_=>False
 | n+1,e=>e.Args.length≤1000000∧∀ x∈e.Args,zu3 n x
theorem zu3.succ:∀ (n:Nat) (e:Scalar),zu3 n e→zu3 (n+1) e
 | 0,_,h=>h.elim
 | n+1,e,h=>⟨h.1,fun x hx=>zu3.succ n x (h.2 x hx)⟩
theorem zu3.mono {n m:Nat} {e:Scalar} (h:zu3 n e) (hm:n≤m):zu3 m e:=by
 obtain ⟨k,rfl⟩:=Nat.exists_eq_add_of_le hm
 clear hm
 induction k with
 | zero=>exact h
 | succ k ih=>exact zu3.succ _ _ ih
end Go.Proofs.YtddkaehkimnklaaGreatDoor
namespace Go.Proofs.YtddkaehkimnklaaGreatDoor
open Go Go.Ab
def zV:Value:=⟨0,0,ByteArray.mk #[]⟩
theorem veq (a b:Value):(a.Kind==b.Kind&&(a.Int==b.Int&&(a.Text.toList==b.Text.toList&&true)))=decide (a=b):=by
 obtain ⟨k,n,s⟩:=a; obtain ⟨k',n',s'⟩:=b
 simp only [ztC,beqd,Bool.and_true,Value.mk.injEq]
 by_cases h1:k=k' <;>by_cases h2:n=n' <;>by_cases h3:s=s' <;>simp [h1,h2,h3]
def zzc (k:Int) (b:Value):Bool:=valV b&&decide (b.Kind=k)
def srtB (l:List Value) (k:Nat):Bool:=decide (k=0)||decide (cmpV (l.getD (k - 1) default) (l.getD k default)≤0)
def okC (c:ColumnStats) (rows:Int):Bool:=
 if rows=0 then decide (c.Distinct=0)&&(decide (c.Min=zV)&&(decide (c.Max=zV)&&decide (c.Bounds.length=0)))
 else decide (1≤c.Distinct)&&(decide (c.Distinct≤rows)&&(valV c.Min&&(valV c.Max&&(decide (c.Min.Kind=c.Max.Kind)&&(decide (cmpV c.Min c.Max≤0)&&(decide (c.Bounds.length=8)&&(decide (c.Bounds.getD 7 default=c.Max)&&
  (c.Bounds.all (zzc c.Min.Kind)&&(decide (cmpV c.Min (c.Bounds.getD 0 default)≤0)&&allN (srtB c.Bounds) c.Bounds.length 0)))))))))
def okS (s:Stats):Bool:=decide (0≤s.Rows)&&(decide (s.Rows≤1000000)&&(decide (s.Columns.length≤16)&&s.Columns.all fun c=>okC c s.Rows))
end Go.Proofs.YtddkaehkimnklaaGreatDoor
end
