/- Texts of this claim, joined (the program, its functions in plain words, and what they compute). -/
import Derived.Test.YtddkaehkimnklaaGreatDoorGC1
import Derived.Test.YtddkaehkimnklaaGreatDoorGA3
import Derived.Test.YtddkaehkimnklaaGreatDoorGC4
import Derived.Test.YtddkaehkimnklaaGreatDoorGB1
set_option autoImplicit false
set_option linter.unusedVariables false
set_option linter.unusedSectionVars false
set_option linter.unusedSimpArgs false
set_option maxRecDepth 1000000
set_option maxHeartbeats 0
noncomputable section
namespace Go.Proofs.YtddkaehkimnklaaGreatDoor
open Go Go.Ab
abbrev ttTref37estimate0:=Unit×Unit×Unit×Unit×Unit
abbrev ttTref37estimate1:=Stats×Scalar×Scalar×Scalar×Unit
abbrev ttTref37estimate2:=Unit×Unit×Unit
abbrev ttTref37estimate3:=Stats×Scalar×Unit
def zmh (zd:Stats→Scalar→Bool×Int) (s:Stats) (e:Scalar) (x_:Scalar) (y_:Scalar):Wy ttTref37estimate0 ttTref37estimate1 (Int):=.i (x_.Kind==1) (.i (y_.Kind==1) (.bn (zkl s e.Op x_.Column y_.Column) fun r0=>.k r0) (.k 333)) (.k 333)
def zi5 (zd:Stats→Scalar→Bool×Int) (x:ttTref37estimate0) (y:ttTref37estimate1):Wy ttTref37estimate0 ttTref37estimate1 (Int):=zmh zd y.1 y.2.1 y.2.2.1 y.2.2.2.1
def zmC (zd:Stats→Scalar→Bool×Int) (n:Nat) (s:Stats) (e:Scalar) (x_:Scalar) (y_:Scalar):Bool×Int:=zN (zi5 zd) default n ((),(),(),(),()) (s,e,x_,y_,())
def zp4 (r:Int):LTree ty:=.done .ret [.lit (.int .i64 r)] []
def zr6:LL ty ttTref37estimate0:=za (z6 676 0) (za (z6 677 0) (za (z6 678 0) (za (z6 679 0) zy)))
def zrA:BL ty ttTref37estimate1:=bBox (zbj (fun x=>(⟨x.1,x.2.1,x.2.2.1⟩:Stats)) (fun x=>(x.Table,x.Rows,x.Columns,())) (fun _=>rfl) (za (lInt .i64) (za (lInt .i64) (za (lSl 43) zy)))) false (bBox (zbj (fun x=>(⟨x.1,x.2.1,⟨x.2.2.1,x.2.2.2.1,x.2.2.2.2.1⟩,x.2.2.2.2.2.1,x.2.2.2.2.2.2.1⟩:Scalar)) (fun x=>(x.Kind,x.Column,x.Value.Kind,x.Value.Int,x.Value.Text,x.Op,x.Args,())) (fun _=>rfl) (za (lInt .i64) (za (lInt .i64) (za (lInt .i64) (za (lInt .i64) (za lStr (za (lInt .i64) (za (lSl 47) zy)))))))) false (bBox (zbj (fun x=>(⟨x.1,x.2.1,⟨x.2.2.1,x.2.2.2.1,x.2.2.2.2.1⟩,x.2.2.2.2.2.1,x.2.2.2.2.2.2.1⟩:Scalar)) (fun x=>(x.Kind,x.Column,x.Value.Kind,x.Value.Int,x.Value.Text,x.Op,x.Args,())) (fun _=>rfl) (za (lInt .i64) (za (lInt .i64) (za (lInt .i64) (za (lInt .i64) (za lStr (za (lInt .i64) (za (lSl 47) zy)))))))) false (bBox (zbj (fun x=>(⟨x.1,x.2.1,⟨x.2.2.1,x.2.2.2.1,x.2.2.2.2.1⟩,x.2.2.2.2.2.1,x.2.2.2.2.2.2.1⟩:Scalar)) (fun x=>(x.Kind,x.Column,x.Value.Kind,x.Value.Int,x.Value.Text,x.Op,x.Args,())) (fun _=>rfl) (za (lInt .i64) (za (lInt .i64) (za (lInt .i64) (za (lInt .i64) (za lStr (za (lInt .i64) (za (lSl 47) zy)))))))) false (bNil))))
def zmr (zd:Stats→Scalar→Bool×Int) (s:Stats) (e:Scalar) (x_:Scalar) (y_:Scalar):Wy ttTref37estimate0 ttTref37estimate1 (Int):=.i (x_.Kind==0) (.i (y_.Kind==1) (.bn (znQ e.Op) fun r3=>.bn (zg1 s r3 y_.Column x_.Value) fun r2=>.k r2) (.bn (zmC zd 1 s (Scalar.mk e.Kind e.Column e.Value e.Op e.Args) (Scalar.mk x_.Kind x_.Column x_.Value x_.Op x_.Args) (Scalar.mk y_.Kind y_.Column y_.Value y_.Op y_.Args)) fun r4=>.k r4)) (.bn (zmC zd 1 s (Scalar.mk e.Kind e.Column e.Value e.Op e.Args) (Scalar.mk x_.Kind x_.Column x_.Value x_.Op x_.Args) (Scalar.mk y_.Kind y_.Column y_.Value y_.Op y_.Args)) fun r5=>.k r5)
def zjl (zd:Stats→Scalar→Bool×Int) (x:ttTref37estimate0) (y:ttTref37estimate1):Wy ttTref37estimate0 ttTref37estimate1 (Int):=zmr zd y.1 y.2.1 y.2.2.1 y.2.2.2.1
def zmw (zd:Stats→Scalar→Bool×Int) (n:Nat) (s:Stats) (e:Scalar) (x_:Scalar) (y_:Scalar):Bool×Int:=zN (zjl zd) default n ((),(),(),(),()) (s,e,x_,y_,())
def zp7 (r:Int):LTree ty:=.done .ret [.lit (.int .i64 r)] []
def zrV:LL ty ttTref37estimate0:=za (z6 676 0) (za (z6 677 0) (za (z6 678 0) (za (z6 679 0) zy)))
def zrH:BL ty ttTref37estimate1:=bBox (zbj (fun x=>(⟨x.1,x.2.1,x.2.2.1⟩:Stats)) (fun x=>(x.Table,x.Rows,x.Columns,())) (fun _=>rfl) (za (lInt .i64) (za (lInt .i64) (za (lSl 43) zy)))) false (bBox (zbj (fun x=>(⟨x.1,x.2.1,⟨x.2.2.1,x.2.2.2.1,x.2.2.2.2.1⟩,x.2.2.2.2.2.1,x.2.2.2.2.2.2.1⟩:Scalar)) (fun x=>(x.Kind,x.Column,x.Value.Kind,x.Value.Int,x.Value.Text,x.Op,x.Args,())) (fun _=>rfl) (za (lInt .i64) (za (lInt .i64) (za (lInt .i64) (za (lInt .i64) (za lStr (za (lInt .i64) (za (lSl 47) zy)))))))) false (bBox (zbj (fun x=>(⟨x.1,x.2.1,⟨x.2.2.1,x.2.2.2.1,x.2.2.2.2.1⟩,x.2.2.2.2.2.1,x.2.2.2.2.2.2.1⟩:Scalar)) (fun x=>(x.Kind,x.Column,x.Value.Kind,x.Value.Int,x.Value.Text,x.Op,x.Args,())) (fun _=>rfl) (za (lInt .i64) (za (lInt .i64) (za (lInt .i64) (za (lInt .i64) (za lStr (za (lInt .i64) (za (lSl 47) zy)))))))) false (bBox (zbj (fun x=>(⟨x.1,x.2.1,⟨x.2.2.1,x.2.2.2.1,x.2.2.2.2.1⟩,x.2.2.2.2.2.1,x.2.2.2.2.2.2.1⟩:Scalar)) (fun x=>(x.Kind,x.Column,x.Value.Kind,x.Value.Int,x.Value.Text,x.Op,x.Args,())) (fun _=>rfl) (za (lInt .i64) (za (lInt .i64) (za (lInt .i64) (za (lInt .i64) (za lStr (za (lInt .i64) (za (lSl 47) zy)))))))) false (bNil))))
def zmf (zd:Stats→Scalar→Bool×Int) (s:Stats) (e:Scalar) (x_:Scalar) (y_:Scalar):Wy ttTref37estimate0 ttTref37estimate1 (Int):=.i (x_.Kind==1) (.i (y_.Kind==0) (.bn (zg1 s e.Op x_.Column y_.Value) fun r10=>.k r10) (.bn (zmw zd 1 s (Scalar.mk e.Kind e.Column e.Value e.Op e.Args) (Scalar.mk x_.Kind x_.Column x_.Value x_.Op x_.Args) (Scalar.mk y_.Kind y_.Column y_.Value y_.Op y_.Args)) fun r11=>.k r11)) (.bn (zmw zd 1 s (Scalar.mk e.Kind e.Column e.Value e.Op e.Args) (Scalar.mk x_.Kind x_.Column x_.Value x_.Op x_.Args) (Scalar.mk y_.Kind y_.Column y_.Value y_.Op y_.Args)) fun r12=>.k r12)
def zjf (zd:Stats→Scalar→Bool×Int) (x:ttTref37estimate0) (y:ttTref37estimate1):Wy ttTref37estimate0 ttTref37estimate1 (Int):=zmf zd y.1 y.2.1 y.2.2.1 y.2.2.2.1
def zfK (zd:Stats→Scalar→Bool×Int) (n:Nat) (s:Stats) (e:Scalar) (x_:Scalar) (y_:Scalar):Bool×Int:=zN (zjf zd) default n ((),(),(),(),()) (s,e,x_,y_,())
def zqV (r:Int):LTree ty:=.done .ret [.lit (.int .i64 r)] []
def zri:LL ty ttTref37estimate0:=za (z6 676 0) (za (z6 677 0) (za (z6 678 0) (za (z6 679 0) zy)))
def zrG:BL ty ttTref37estimate1:=bBox (zbj (fun x=>(⟨x.1,x.2.1,x.2.2.1⟩:Stats)) (fun x=>(x.Table,x.Rows,x.Columns,())) (fun _=>rfl) (za (lInt .i64) (za (lInt .i64) (za (lSl 43) zy)))) false (bBox (zbj (fun x=>(⟨x.1,x.2.1,⟨x.2.2.1,x.2.2.2.1,x.2.2.2.2.1⟩,x.2.2.2.2.2.1,x.2.2.2.2.2.2.1⟩:Scalar)) (fun x=>(x.Kind,x.Column,x.Value.Kind,x.Value.Int,x.Value.Text,x.Op,x.Args,())) (fun _=>rfl) (za (lInt .i64) (za (lInt .i64) (za (lInt .i64) (za (lInt .i64) (za lStr (za (lInt .i64) (za (lSl 47) zy)))))))) false (bBox (zbj (fun x=>(⟨x.1,x.2.1,⟨x.2.2.1,x.2.2.2.1,x.2.2.2.2.1⟩,x.2.2.2.2.2.1,x.2.2.2.2.2.2.1⟩:Scalar)) (fun x=>(x.Kind,x.Column,x.Value.Kind,x.Value.Int,x.Value.Text,x.Op,x.Args,())) (fun _=>rfl) (za (lInt .i64) (za (lInt .i64) (za (lInt .i64) (za (lInt .i64) (za lStr (za (lInt .i64) (za (lSl 47) zy)))))))) false (bBox (zbj (fun x=>(⟨x.1,x.2.1,⟨x.2.2.1,x.2.2.2.1,x.2.2.2.2.1⟩,x.2.2.2.2.2.1,x.2.2.2.2.2.2.1⟩:Scalar)) (fun x=>(x.Kind,x.Column,x.Value.Kind,x.Value.Int,x.Value.Text,x.Op,x.Args,())) (fun _=>rfl) (za (lInt .i64) (za (lInt .i64) (za (lInt .i64) (za (lInt .i64) (za lStr (za (lInt .i64) (za (lSl 47) zy)))))))) false (bNil))))
def zmz (zd:Stats→Scalar→Bool×Int) (s:Stats) (e:Scalar) (x_:Scalar) (y_:Scalar):Wy ttTref37estimate0 ttTref37estimate1 (Int):=.i (decide (e.Op<5)) (.k 333) (.i (decide (e.Op>10)) (.k 333) (.i (x_.Kind==1) (.bn (zlX s x_.Column) fun r19=>.i (!r19) (.k 333) (.i (y_.Kind==1) (.bn (zlX s y_.Column) fun r17=>.i (!r17) (.k 333) (.bn (zfK zd 1 s (Scalar.mk e.Kind e.Column e.Value e.Op e.Args) (Scalar.mk x_.Kind x_.Column x_.Value x_.Op x_.Args) (Scalar.mk y_.Kind y_.Column y_.Value y_.Op y_.Args)) fun r16=>.k r16)) (.bn (zfK zd 1 s (Scalar.mk e.Kind e.Column e.Value e.Op e.Args) (Scalar.mk x_.Kind x_.Column x_.Value x_.Op x_.Args) (Scalar.mk y_.Kind y_.Column y_.Value y_.Op y_.Args)) fun r18=>.k r18))) (.i (y_.Kind==1) (.bn (zlX s y_.Column) fun r21=>.i (!r21) (.k 333) (.bn (zfK zd 1 s (Scalar.mk e.Kind e.Column e.Value e.Op e.Args) (Scalar.mk x_.Kind x_.Column x_.Value x_.Op x_.Args) (Scalar.mk y_.Kind y_.Column y_.Value y_.Op y_.Args)) fun r20=>.k r20)) (.bn (zfK zd 1 s (Scalar.mk e.Kind e.Column e.Value e.Op e.Args) (Scalar.mk x_.Kind x_.Column x_.Value x_.Op x_.Args) (Scalar.mk y_.Kind y_.Column y_.Value y_.Op y_.Args)) fun r22=>.k r22))))
def zjh (zd:Stats→Scalar→Bool×Int) (x:ttTref37estimate0) (y:ttTref37estimate1):Wy ttTref37estimate0 ttTref37estimate1 (Int):=zmz zd y.1 y.2.1 y.2.2.1 y.2.2.2.1
def zrZ (zd:Stats→Scalar→Bool×Int) (n:Nat) (s:Stats) (e:Scalar) (x_:Scalar) (y_:Scalar):Bool×Int:=zN (zjh zd) default n ((),(),(),(),()) (s,e,x_,y_,())
def zqJ (r:Int):LTree ty:=.done .ret [.lit (.int .i64 r)] []
def zsb:LL ty ttTref37estimate0:=za (z6 676 0) (za (z6 677 0) (za (z6 678 0) (za (z6 679 0) zy)))
def zrR:BL ty ttTref37estimate1:=bBox (zbj (fun x=>(⟨x.1,x.2.1,x.2.2.1⟩:Stats)) (fun x=>(x.Table,x.Rows,x.Columns,())) (fun _=>rfl) (za (lInt .i64) (za (lInt .i64) (za (lSl 43) zy)))) false (bBox (zbj (fun x=>(⟨x.1,x.2.1,⟨x.2.2.1,x.2.2.2.1,x.2.2.2.2.1⟩,x.2.2.2.2.2.1,x.2.2.2.2.2.2.1⟩:Scalar)) (fun x=>(x.Kind,x.Column,x.Value.Kind,x.Value.Int,x.Value.Text,x.Op,x.Args,())) (fun _=>rfl) (za (lInt .i64) (za (lInt .i64) (za (lInt .i64) (za (lInt .i64) (za lStr (za (lInt .i64) (za (lSl 47) zy)))))))) false (bBox (zbj (fun x=>(⟨x.1,x.2.1,⟨x.2.2.1,x.2.2.2.1,x.2.2.2.2.1⟩,x.2.2.2.2.2.1,x.2.2.2.2.2.2.1⟩:Scalar)) (fun x=>(x.Kind,x.Column,x.Value.Kind,x.Value.Int,x.Value.Text,x.Op,x.Args,())) (fun _=>rfl) (za (lInt .i64) (za (lInt .i64) (za (lInt .i64) (za (lInt .i64) (za lStr (za (lInt .i64) (za (lSl 47) zy)))))))) false (bBox (zbj (fun x=>(⟨x.1,x.2.1,⟨x.2.2.1,x.2.2.2.1,x.2.2.2.2.1⟩,x.2.2.2.2.2.1,x.2.2.2.2.2.2.1⟩:Scalar)) (fun x=>(x.Kind,x.Column,x.Value.Kind,x.Value.Int,x.Value.Text,x.Op,x.Args,())) (fun _=>rfl) (za (lInt .i64) (za (lInt .i64) (za (lInt .i64) (za (lInt .i64) (za lStr (za (lInt .i64) (za (lSl 47) zy)))))))) false (bNil))))
def zmv (zd:Stats→Scalar→Bool×Int) (s:Stats) (e:Scalar) (x_:Scalar) (y_:Scalar):Wy ttTref37estimate0 ttTref37estimate1 (Int):=.i (e.Op==12) (.bn (zd s (Scalar.mk x_.Kind x_.Column x_.Value x_.Op x_.Args)) fun r31=>.bn (zd s (Scalar.mk y_.Kind y_.Column y_.Value y_.Op y_.Args)) fun r30=>.k (IntKind.i64.wrap (IntKind.i64.wrap (r31+r30) - IntKind.i64.wrap ((IntKind.i64.wrap (r31*r30)).tdiv 1000)))) (.bn (zrZ zd 1 s (Scalar.mk e.Kind e.Column e.Value e.Op e.Args) (Scalar.mk x_.Kind x_.Column x_.Value x_.Op x_.Args) (Scalar.mk y_.Kind y_.Column y_.Value y_.Op y_.Args)) fun r32=>.k r32)
def zjs (zd:Stats→Scalar→Bool×Int) (x:ttTref37estimate0) (y:ttTref37estimate1):Wy ttTref37estimate0 ttTref37estimate1 (Int):=zmv zd y.1 y.2.1 y.2.2.1 y.2.2.2.1
def zrQ (zd:Stats→Scalar→Bool×Int) (n:Nat) (s:Stats) (e:Scalar) (x_:Scalar) (y_:Scalar):Bool×Int:=zN (zjs zd) default n ((),(),(),(),()) (s,e,x_,y_,())
def zp9 (r:Int):LTree ty:=.done .ret [.lit (.int .i64 r)] []
def zrm:LL ty ttTref37estimate0:=za (z6 676 0) (za (z6 677 0) (za (z6 678 0) (za (z6 679 0) zy)))
def zrf:BL ty ttTref37estimate1:=bBox (zbj (fun x=>(⟨x.1,x.2.1,x.2.2.1⟩:Stats)) (fun x=>(x.Table,x.Rows,x.Columns,())) (fun _=>rfl) (za (lInt .i64) (za (lInt .i64) (za (lSl 43) zy)))) false (bBox (zbj (fun x=>(⟨x.1,x.2.1,⟨x.2.2.1,x.2.2.2.1,x.2.2.2.2.1⟩,x.2.2.2.2.2.1,x.2.2.2.2.2.2.1⟩:Scalar)) (fun x=>(x.Kind,x.Column,x.Value.Kind,x.Value.Int,x.Value.Text,x.Op,x.Args,())) (fun _=>rfl) (za (lInt .i64) (za (lInt .i64) (za (lInt .i64) (za (lInt .i64) (za lStr (za (lInt .i64) (za (lSl 47) zy)))))))) false (bBox (zbj (fun x=>(⟨x.1,x.2.1,⟨x.2.2.1,x.2.2.2.1,x.2.2.2.2.1⟩,x.2.2.2.2.2.1,x.2.2.2.2.2.2.1⟩:Scalar)) (fun x=>(x.Kind,x.Column,x.Value.Kind,x.Value.Int,x.Value.Text,x.Op,x.Args,())) (fun _=>rfl) (za (lInt .i64) (za (lInt .i64) (za (lInt .i64) (za (lInt .i64) (za lStr (za (lInt .i64) (za (lSl 47) zy)))))))) false (bBox (zbj (fun x=>(⟨x.1,x.2.1,⟨x.2.2.1,x.2.2.2.1,x.2.2.2.2.1⟩,x.2.2.2.2.2.1,x.2.2.2.2.2.2.1⟩:Scalar)) (fun x=>(x.Kind,x.Column,x.Value.Kind,x.Value.Int,x.Value.Text,x.Op,x.Args,())) (fun _=>rfl) (za (lInt .i64) (za (lInt .i64) (za (lInt .i64) (za (lInt .i64) (za lStr (za (lInt .i64) (za (lSl 47) zy)))))))) false (bNil))))
def zml (zd:Stats→Scalar→Bool×Int) (s:Stats) (e:Scalar):Wy ttTref37estimate2 ttTref37estimate3 (Int):=.i (decide ((0:Int)≤(0:Int))&&decide (0<Int.ofNat e.Args.length)) (.i (decide ((0:Int)≤(1:Int))&&decide (1<Int.ofNat e.Args.length)) (.i (e.Op==11) (.bn (zd s (Scalar.mk (e.Args.getD (Int.toNat 0) default).Kind (e.Args.getD (Int.toNat 0) default).Column (e.Args.getD (Int.toNat 0) default).Value (e.Args.getD (Int.toNat 0) default).Op (e.Args.getD (Int.toNat 0) default).Args)) fun r37=>.bn (zd s (Scalar.mk (e.Args.getD (Int.toNat 1) default).Kind (e.Args.getD (Int.toNat 1) default).Column (e.Args.getD (Int.toNat 1) default).Value (e.Args.getD (Int.toNat 1) default).Op (e.Args.getD (Int.toNat 1) default).Args)) fun r36=>.k (IntKind.i64.wrap ((IntKind.i64.wrap (r37*r36)).tdiv 1000))) (.bn (zrQ zd 1 s (Scalar.mk e.Kind e.Column e.Value e.Op e.Args) (Scalar.mk (e.Args.getD (Int.toNat 0) default).Kind (e.Args.getD (Int.toNat 0) default).Column (e.Args.getD (Int.toNat 0) default).Value (e.Args.getD (Int.toNat 0) default).Op (e.Args.getD (Int.toNat 0) default).Args) (Scalar.mk (e.Args.getD (Int.toNat 1) default).Kind (e.Args.getD (Int.toNat 1) default).Column (e.Args.getD (Int.toNat 1) default).Value (e.Args.getD (Int.toNat 1) default).Op (e.Args.getD (Int.toNat 1) default).Args)) fun r38=>.k r38)) .d) .d
def zi7 (zd:Stats→Scalar→Bool×Int) (x:ttTref37estimate2) (y:ttTref37estimate3):Wy ttTref37estimate2 ttTref37estimate3 (Int):=zml zd y.1 y.2.1
def zrk (zd:Stats→Scalar→Bool×Int) (n:Nat) (s:Stats) (e:Scalar):Bool×Int:=zN (zi7 zd) default n ((),(),()) (s,e,())
def zqX (r:Int):LTree ty:=.done .ret [.lit (.int .i64 r)] []
def zr5:LL ty ttTref37estimate2:=za (z6 676 0) (za (z6 677 0) zy)
def zsd:BL ty ttTref37estimate3:=bBox (zbj (fun x=>(⟨x.1,x.2.1,x.2.2.1⟩:Stats)) (fun x=>(x.Table,x.Rows,x.Columns,())) (fun _=>rfl) (za (lInt .i64) (za (lInt .i64) (za (lSl 43) zy)))) false (bBox (zbj (fun x=>(⟨x.1,x.2.1,⟨x.2.2.1,x.2.2.2.1,x.2.2.2.2.1⟩,x.2.2.2.2.2.1,x.2.2.2.2.2.2.1⟩:Scalar)) (fun x=>(x.Kind,x.Column,x.Value.Kind,x.Value.Int,x.Value.Text,x.Op,x.Args,())) (fun _=>rfl) (za (lInt .i64) (za (lInt .i64) (za (lInt .i64) (za (lInt .i64) (za lStr (za (lInt .i64) (za (lSl 47) zy)))))))) false (bNil))
def zmq (zd:Stats→Scalar→Bool×Int) (s:Stats) (e:Scalar):Wy ttTref37estimate2 ttTref37estimate3 (Int):=.i (Int.ofNat e.Args.length != 2) (.k 333) (.bn (zrk zd 1 s (Scalar.mk e.Kind e.Column e.Value e.Op e.Args)) fun r42=>.k r42)
def zi9 (zd:Stats→Scalar→Bool×Int) (x:ttTref37estimate2) (y:ttTref37estimate3):Wy ttTref37estimate2 ttTref37estimate3 (Int):=zmq zd y.1 y.2.1
def zmt (zd:Stats→Scalar→Bool×Int) (n:Nat) (s:Stats) (e:Scalar):Bool×Int:=zN (zi9 zd) default n ((),(),()) (s,e,())
def zqg (r:Int):LTree ty:=.done .ret [.lit (.int .i64 r)] []
def zrz:LL ty ttTref37estimate2:=za (z6 676 0) (za (z6 677 0) zy)
def zrq:BL ty ttTref37estimate3:=bBox (zbj (fun x=>(⟨x.1,x.2.1,x.2.2.1⟩:Stats)) (fun x=>(x.Table,x.Rows,x.Columns,())) (fun _=>rfl) (za (lInt .i64) (za (lInt .i64) (za (lSl 43) zy)))) false (bBox (zbj (fun x=>(⟨x.1,x.2.1,⟨x.2.2.1,x.2.2.2.1,x.2.2.2.2.1⟩,x.2.2.2.2.2.1,x.2.2.2.2.2.2.1⟩:Scalar)) (fun x=>(x.Kind,x.Column,x.Value.Kind,x.Value.Int,x.Value.Text,x.Op,x.Args,())) (fun _=>rfl) (za (lInt .i64) (za (lInt .i64) (za (lInt .i64) (za (lInt .i64) (za lStr (za (lInt .i64) (za (lSl 47) zy)))))))) false (bNil))
def zmb (zd:Stats→Scalar→Bool×Int) (s:Stats) (e:Scalar):Wy ttTref37estimate2 ttTref37estimate3 (Int):=.i (e.Op==13) (.i (Int.ofNat e.Args.length==1) (.i (decide ((0:Int)≤(0:Int))&&decide (0<Int.ofNat e.Args.length)) (.bn (zd s (Scalar.mk (e.Args.getD (Int.toNat 0) default).Kind (e.Args.getD (Int.toNat 0) default).Column (e.Args.getD (Int.toNat 0) default).Value (e.Args.getD (Int.toNat 0) default).Op (e.Args.getD (Int.toNat 0) default).Args)) fun r44=>.k (IntKind.i64.wrap (1000 - r44))) .d) (.bn (zmt zd 1 s (Scalar.mk e.Kind e.Column e.Value e.Op e.Args)) fun r45=>.k r45)) (.bn (zmt zd 1 s (Scalar.mk e.Kind e.Column e.Value e.Op e.Args)) fun r46=>.k r46)
def zjd (zd:Stats→Scalar→Bool×Int) (x:ttTref37estimate2) (y:ttTref37estimate3):Wy ttTref37estimate2 ttTref37estimate3 (Int):=zmb zd y.1 y.2.1
def zmi (zd:Stats→Scalar→Bool×Int) (n:Nat) (s:Stats) (e:Scalar):Bool×Int:=zN (zjd zd) default n ((),(),()) (s,e,())
def zqz (r:Int):LTree ty:=.done .ret [.lit (.int .i64 r)] []
def zrs:LL ty ttTref37estimate2:=za (z6 676 0) (za (z6 677 0) zy)
def zr2:BL ty ttTref37estimate3:=bBox (zbj (fun x=>(⟨x.1,x.2.1,x.2.2.1⟩:Stats)) (fun x=>(x.Table,x.Rows,x.Columns,())) (fun _=>rfl) (za (lInt .i64) (za (lInt .i64) (za (lSl 43) zy)))) false (bBox (zbj (fun x=>(⟨x.1,x.2.1,⟨x.2.2.1,x.2.2.2.1,x.2.2.2.2.1⟩,x.2.2.2.2.2.1,x.2.2.2.2.2.2.1⟩:Scalar)) (fun x=>(x.Kind,x.Column,x.Value.Kind,x.Value.Int,x.Value.Text,x.Op,x.Args,())) (fun _=>rfl) (za (lInt .i64) (za (lInt .i64) (za (lInt .i64) (za (lInt .i64) (za lStr (za (lInt .i64) (za (lSl 47) zy)))))))) false (bNil))
def zhQ (zd:Stats→Scalar→Bool×Int) (s:Stats) (e:Scalar):Wy ttTref37estimate2 ttTref37estimate3 (Int):=.i (e.Kind != 2) (.k 333) (.bn (zmi zd 1 s (Scalar.mk e.Kind e.Column e.Value e.Op e.Args)) fun r50=>.k r50)
def zhW (zd:Stats→Scalar→Bool×Int) (x:ttTref37estimate2) (y:ttTref37estimate3):Wy ttTref37estimate2 ttTref37estimate3 (Int):=zhQ zd y.1 y.2.1
def zjY (zd:Stats→Scalar→Bool×Int) (n:Nat) (s:Stats) (e:Scalar):Bool×Int:=zN (zhW zd) default n ((),(),()) (s,e,())
def zsa (r:Int):LTree ty:=.done .ret [.lit (.int .i64 r)] []
def zsT:LL ty ttTref37estimate2:=za (z6 676 0) (za (z6 677 0) zy)
def zsQ:BL ty ttTref37estimate3:=bBox (zbj (fun x=>(⟨x.1,x.2.1,x.2.2.1⟩:Stats)) (fun x=>(x.Table,x.Rows,x.Columns,())) (fun _=>rfl) (za (lInt .i64) (za (lInt .i64) (za (lSl 43) zy)))) false (bBox (zbj (fun x=>(⟨x.1,x.2.1,⟨x.2.2.1,x.2.2.2.1,x.2.2.2.2.1⟩,x.2.2.2.2.2.1,x.2.2.2.2.2.2.1⟩:Scalar)) (fun x=>(x.Kind,x.Column,x.Value.Kind,x.Value.Int,x.Value.Text,x.Op,x.Args,())) (fun _=>rfl) (za (lInt .i64) (za (lInt .i64) (za (lInt .i64) (za (lInt .i64) (za lStr (za (lInt .i64) (za (lSl 47) zy)))))))) false (bNil))
def zm7 (zd:Stats→Scalar→Bool×Int) (s:Stats) (e:Scalar):Wy ttTref37estimate2 ttTref37estimate3 (Int):=.i (e.Kind==1) (.bn (zlX s e.Column) fun r53=>.i (!r53) (.k 333) (.bn (zkV s e.Column (Value.mk 2 1 (ByteArray.mk #[]))) fun r52=>.k r52)) (.bn (zjY zd 1 s (Scalar.mk e.Kind e.Column e.Value e.Op e.Args)) fun r54=>.k r54)
def zj0 (zd:Stats→Scalar→Bool×Int) (x:ttTref37estimate2) (y:ttTref37estimate3):Wy ttTref37estimate2 ttTref37estimate3 (Int):=zm7 zd y.1 y.2.1
def zsV (zd:Stats→Scalar→Bool×Int) (n:Nat) (s:Stats) (e:Scalar):Bool×Int:=zN (zj0 zd) default n ((),(),()) (s,e,())
def zsh (r:Int):LTree ty:=.done .ret [.lit (.int .i64 r)] []
def zsA:LL ty ttTref37estimate2:=za (z6 676 0) (za (z6 677 0) zy)
def zsG:BL ty ttTref37estimate3:=bBox (zbj (fun x=>(⟨x.1,x.2.1,x.2.2.1⟩:Stats)) (fun x=>(x.Table,x.Rows,x.Columns,())) (fun _=>rfl) (za (lInt .i64) (za (lInt .i64) (za (lSl 43) zy)))) false (bBox (zbj (fun x=>(⟨x.1,x.2.1,⟨x.2.2.1,x.2.2.2.1,x.2.2.2.2.1⟩,x.2.2.2.2.2.1,x.2.2.2.2.2.2.1⟩:Scalar)) (fun x=>(x.Kind,x.Column,x.Value.Kind,x.Value.Int,x.Value.Text,x.Op,x.Args,())) (fun _=>rfl) (za (lInt .i64) (za (lInt .i64) (za (lInt .i64) (za (lInt .i64) (za lStr (za (lInt .i64) (za (lSl 47) zy)))))))) false (bNil))
def zbY (zd:Stats→Scalar→Bool×Int):Cx ty:=zFU base 169 [(47,(zjU zd)),(62,zyv),(89,zpO),(90,zsJ),(91,zuM),(92,ztD)] [] [(5,[(2,.keep),(3,.keep)]),(9,[(2,.keep),(3,.keep)]),(11,[(2,.keep),(3,.keep)]),(13,[(2,.keep),(3,.keep)]),(15,[(2,.keep),(3,.keep)]),(18,[(2,.keep),(3,.keep),(5,.keep),(6,.keep)]),(21,[(2,.keep),(3,.keep),(5,.keep),(6,.keep)]),(23,[(2,.keep),(3,.keep),(5,.keep),(6,.keep)]),(25,[(2,.keep),(3,.keep),(5,.keep),(6,.keep)]),(27,[(2,.keep),(3,.keep),(5,.keep),(6,.keep)])] [(5,0,[(4,.keep)]),(9,0,[(4,.keep)]),(11,0,[(4,.keep)]),(13,0,[(4,.keep)]),(15,0,[(4,.keep)]),(18,0,[(4,.keep)]),(21,0,[(4,.keep)]),(23,0,[(4,.keep)]),(25,0,[(4,.keep)]),(27,0,[(4,.keep)])] [] [] [(27,spW zr6 zrA (zi5 zd) default zp4 fun x y=>(1)),(25,spW zrV zrH (zjl zd) default zp7 fun x y=>(1)),(23,spW zri zrG (zjf zd) default zqV fun x y=>(1)),(21,spW zsb zrR (zjh zd) default zqJ fun x y=>(1)),(18,spW zrm zrf (zjs zd) default zp9 fun x y=>(1)),(15,spW zr5 zsd (zi7 zd) default zqX fun x y=>(1)),(13,spW zrz zrq (zi9 zd) default zqg fun x y=>(1)),(11,spW zrs zr2 (zjd zd) default zqz fun x y=>(1)),(9,spW zsT zsQ (zhW zd) default zsa fun x y=>(1)),(5,spW zsA zsG (zj0 zd) default zsh fun x y=>(1))]
theorem zyd (zd:Stats→Scalar→Bool×Int):zjI (zbY zd) (jn (body Tryz.f47) 27):=ziP (id:=27) (V:=zr6) (B:=zrA) (W:=zi5 zd) (z:=default) (tr:=zp4) (m:=fun x y=>(1))
theorem zyJ (zd:Stats→Scalar→Bool×Int):zjI (zbY zd) (jn (body Tryz.f47) 25):=ziP (id:=25) (V:=zrV) (B:=zrH) (W:=zjl zd) (z:=default) (tr:=zp7) (m:=fun x y=>(1))
theorem zyO (zd:Stats→Scalar→Bool×Int):zjI (zbY zd) (jn (body Tryz.f47) 23):=ziP (id:=23) (V:=zri) (B:=zrG) (W:=zjf zd) (z:=default) (tr:=zqV) (m:=fun x y=>(1))
theorem zzh (zd:Stats→Scalar→Bool×Int):zjI (zbY zd) (jn (body Tryz.f47) 21):=ziP (id:=21) (V:=zsb) (B:=zrR) (W:=zjh zd) (z:=default) (tr:=zqJ) (m:=fun x y=>(1))
theorem zyM (zd:Stats→Scalar→Bool×Int):zjI (zbY zd) (jn (body Tryz.f47) 18):=ziP (id:=18) (V:=zrm) (B:=zrf) (W:=zjs zd) (z:=default) (tr:=zp9) (m:=fun x y=>(1))
theorem zyW (zd:Stats→Scalar→Bool×Int):zjI (zbY zd) (jn (body Tryz.f47) 15):=ziP (id:=15) (V:=zr5) (B:=zsd) (W:=zi7 zd) (z:=default) (tr:=zqX) (m:=fun x y=>(1))
theorem zyQ (zd:Stats→Scalar→Bool×Int):zjI (zbY zd) (jn (body Tryz.f47) 13):=ziP (id:=13) (V:=zrz) (B:=zrq) (W:=zi9 zd) (z:=default) (tr:=zqg) (m:=fun x y=>(1))
theorem zy4 (zd:Stats→Scalar→Bool×Int):zjI (zbY zd) (jn (body Tryz.f47) 11):=ziP (id:=11) (V:=zrs) (B:=zr2) (W:=zjd zd) (z:=default) (tr:=zqz) (m:=fun x y=>(1))
theorem zAa (zd:Stats→Scalar→Bool×Int):zjI (zbY zd) (jn (body Tryz.f47) 9):=ziP (id:=9) (V:=zsT) (B:=zsQ) (W:=zhW zd) (z:=default) (tr:=zsa) (m:=fun x y=>(1))
theorem zzQ (zd:Stats→Scalar→Bool×Int):zjI (zbY zd) (jn (body Tryz.f47) 5):=ziP (id:=5) (V:=zsA) (B:=zsG) (W:=zj0 zd) (z:=default) (tr:=zsh) (m:=fun x y=>(1))
def zn2 (zd:Stats→Scalar→Bool×Int) (s:Stats) (e:Scalar):Wy0 (Int):=.i (e.Kind==0) (.i (e.Value.Kind==2&&(e.Value.Int==1&&(e.Value.Text.toList==(ByteArray.mk #[]).toList&&true))) (.k 1000) (.k 0)) (.bn (zsV zd 1 s (Scalar.mk e.Kind e.Column e.Value e.Op e.Args)) fun r58=>.k r58)
def zjN (zd:Stats→Scalar→Bool×Int) (s:Stats) (e:Scalar):Bool×Int:=(zn2 zd s e).fin default
theorem zxS (zd:Stats→Scalar→Bool×Int) (zBL:Sound Tryz.prog base 47 (zjU zd)):Sound Tryz.prog base 47 (zjU (zjN zd)):=
 zt (cx':=(zbY zd)) zG zn zHv (zGi ⟨zBL,zD3,zs6,zzG,zB4,zAW,trivial⟩) Tryz.call47 Tryz.func47 (c:=body Tryz.f47) (by kernel_rfl) (zAp (l:=[]) (by kernel_rfl) trivial (js:=[jn (body Tryz.f47) 5,jn (body Tryz.f47) 9,jn (body Tryz.f47) 11,jn (body Tryz.f47) 13,jn (body Tryz.f47) 15,jn (body Tryz.f47) 18,jn (body Tryz.f47) 21,jn (body Tryz.f47) 23,jn (body Tryz.f47) 25,jn (body Tryz.f47) 27]) (by kernel_rfl) ⟨zzQ zd,zAa zd,zy4 zd,zyQ zd,zyW zd,zyM zd,zzh zd,zyO zd,zyJ zd,zyd zd,trivial⟩) (sg:=⟨[.pure],[]⟩) (A:=zv3) (res:=ztT) (W:=fun x=>zn2 zd x.1 x.2.1) (z:=default)
def zBe:Nat→(Stats→Scalar→Bool×Int)
 | 0=>fun _ _=>(false,default)
 | n+1=>zjN (zBe n)
def zhZ (n:Nat):Stats→Scalar→Bool×Int:=zBe n
theorem zAZ (n:Nat):zhZ (n+1)=zjN (zhZ n):=rfl
theorem zyb:∀ n,Sound Tryz.prog base 47 (zjU (zhZ n))
 | 0=>zbe Tryz.call47 (fun _=>rfl)
 | n+1=>by
  have ih:=zyb n
  exact zxS _ (ih)
def ztu:Stats→Scalar→Bool×Int:=zhZ 1000
def ref37_estimate_spec:Ab.Spec ty:=zjU ztu
theorem zAb:Sound Tryz.prog base 47 ref37_estimate_spec:=(zyb 1000)
def zE4:Cx ty:=mkCx base 36 [] [] [] [] [] []
def zup (v:Value):Wy0 (Bool):=.i (v.Kind==0) (.k (v.Text.toList==(ByteArray.mk #[]).toList)) (.i (v.Kind==1) (.i (v.Int==0) (.k (decide (Int.ofNat v.Text.size≤255))) (.k false)) (.i (v.Kind==2) (.i (v.Text.toList==(ByteArray.mk #[]).toList) (.i (v.Int==0) (.k true) (.k (v.Int==1))) (.k false)) (.k false)))
def zkR (v:Value):Bool×Bool:=(zup v).fin default
def zxu (r:Bool):ARes ty:=⟨[.pure (.lit (.bool r))],[]⟩
def zAy:AL base (Value×Unit):=zg (zh (vAgg 40)) aNil
def zvC:Ab.Spec ty:=zl zAy fun x=>((zkR x.1).1,zxu (zkR x.1).2)
theorem zCh:Sound Tryz.prog base 80 zvC:=
 zt (cx':=zE4) zG zn zD (zw trivial) Tryz.call80 Tryz.func80 (c:=body Tryz.f80) (by kernel_rfl) (zi (l:=[]) (by kernel_rfl) trivial) (sg:=⟨[.pure],[]⟩) (A:=zAy) (res:=zxu) (W:=fun x=>zup x.1) (z:=default)
abbrev ttTref37validColumn0:=Unit×Unit×Int×Unit
abbrev ttTref37validColumn1:=ColumnStats×Value×Unit
def zja (i:Int) (c:ColumnStats) (last:Value):Wy ttTref37validColumn0 ttTref37validColumn1 (Bool⊕Unit):=.i (decide (i<8)) (.i (decide (0≤i)&&decide (i<Int.ofNat c.Bounds.length)) (.bn (zkR (c.Bounds.getD i.toNat default)) fun r1=>.i (!r1) (.k (.inl false)) (.i ((c.Bounds.getD i.toNat default).Kind != c.Min.Kind) (.k (.inl false)) (.bn (zee last (c.Bounds.getD i.toNat default)) fun r0=>.i (decide (r0>0)) (.k (.inl false)) (.h ((),(),(IntKind.i64.wrap (i+1)),()) (c,(c.Bounds.getD i.toNat default),()))))) .d) (.k (.inr ()))
def zjb (x:ttTref37validColumn0) (y:ttTref37validColumn1):Wy ttTref37validColumn0 ttTref37validColumn1 (Bool⊕Unit):=zja x.2.2.1 y.1 y.2.1
def zrh (n:Nat) (i:Int) (c:ColumnStats) (last:Value):Bool×(Bool⊕Unit):=zN (zjb) (.inl default) n ((),(),i,()) (c,last,())
def zqh (r:Bool⊕Unit):LTree ty:=.ite (isL r) (.done .ret [.lit (.bool (getL r))] []) (.done (.exit 0) [] [])
def zrP:LL ty ttTref37validColumn0:=za (z6 452 0) (za (z6 453 0) (za (lInt .i64) zy))
def zrW:BL ty ttTref37validColumn1:=bBox (zbj (fun x=>(⟨x.1,⟨x.2.1,x.2.2.1,x.2.2.2.1⟩,⟨x.2.2.2.2.1,x.2.2.2.2.2.1,x.2.2.2.2.2.2.1⟩,x.2.2.2.2.2.2.2.1⟩:ColumnStats)) (fun x=>(x.Distinct,x.Min.Kind,x.Min.Int,x.Min.Text,x.Max.Kind,x.Max.Int,x.Max.Text,x.Bounds,())) (fun _=>rfl) (za (lInt .i64) (za (lInt .i64) (za (lInt .i64) (za lStr (za (lInt .i64) (za (lInt .i64) (za lStr (za (lSl 40) zy))))))))) false (bBox (zbj (fun x=>(⟨x.1,x.2.1,x.2.2.1⟩:Value)) (fun x=>(x.Kind,x.Int,x.Text,())) (fun _=>rfl) (za (lInt .i64) (za (lInt .i64) (za lStr zy)))) false (bNil))
def zqN (x:ttTref37validColumn0) (y:ttTref37validColumn1):Nat:=(Int.toNat x.2.2.1+y.1.Bounds.length+1)
def zrK:Cx ty:=mkCx base 113 [(16,zii),(80,zvC)] [] [(7,[(2,.keep),(5,.keep),(6,.keep)])] [(7,1,[]),(7,0,[(4,.keep)])] [(7,spW zrP zrW (zjb) (.inl default) zqh zqN)] []
theorem zys:zZ zrK (lp (body Tryz.f58) 0):=zP (id:=7) (V:=zrP) (B:=zrW) (W:=zjb) (z:=.inl default) (tr:=zqh) (m:=zqN)
def zm4 (c:ColumnStats) (rows:Int):Wy0 (Bool):=.i (rows==0) (.i (c.Distinct==0) (.i (c.Min.Kind==0&&(c.Min.Int==0&&(c.Min.Text.toList==(ByteArray.mk #[]).toList&&true))) (.i (c.Max.Kind==0&&(c.Max.Int==0&&(c.Max.Text.toList==(ByteArray.mk #[]).toList&&true))) (.k (Int.ofNat c.Bounds.length==0)) (.k false)) (.k false)) (.k false)) (.i (decide (c.Distinct<1)) (.k false) (.i (decide (c.Distinct>rows)) (.k false) (.bn (zkR c.Min) fun r7=>.i (!r7) (.k false) (.bn (zkR c.Max) fun r6=>.i (!r6) (.k false) (.i (c.Min.Kind != c.Max.Kind) (.k false) (.bn (zee c.Min c.Max) fun r5=>.i (decide (r5>0)) (.k false) (.i (Int.ofNat c.Bounds.length != 8) (.k false) (.i (decide ((0:Int)≤(7:Int))&&decide (7<Int.ofNat c.Bounds.length)) (.i (!((c.Bounds.getD (Int.toNat 7) default).Kind==c.Max.Kind&&((c.Bounds.getD (Int.toNat 7) default).Int==c.Max.Int&&((c.Bounds.getD (Int.toNat 7) default).Text.toList==c.Max.Text.toList&&true)))) (.k false) (.bn (zrh (Int.toNat 0+c.Bounds.length+1) 0 c c.Min) fun r4=>.i (isL r4) (.k (getL r4)) (.k true))) .d))))))))
def zi2 (c:ColumnStats) (rows:Int):Bool×Bool:=(zm4 c rows).fin default
def zqa (r:Bool):ARes ty:=⟨[.pure (.lit (.bool r))],[]⟩
def zsP:AL base (ColumnStats×Int×Unit):=zg (zh (vAgg 43)) (zg (zh (vInt .i64)) aNil)
def zpz:Ab.Spec ty:=zl zsP fun x=>((zi2 x.1 x.2.1).1,zqa (zi2 x.1 x.2.1).2)
theorem zwK:Sound Tryz.prog base 58 zpz:=
 zt (cx':=zrK) zG zn zD (zw ⟨zj1,zCh,trivial⟩) Tryz.call58 Tryz.func58 (c:=body Tryz.f58) (by kernel_rfl) (zi (l:=[lp (body Tryz.f58) 0]) (by kernel_rfl) ⟨zys,trivial⟩) (sg:=⟨[.pure],[]⟩) (A:=zsP) (res:=zqa) (W:=fun x=>zm4 x.1 x.2.1) (z:=default)
abbrev ttTref37Valid0:=Unit×Int×Unit
def zk8 (i:Int) (s:Stats):Wy ttTref37Valid0 (Stats×Unit) (Bool⊕Unit):=.i (decide (i<Int.ofNat s.Columns.length)) (.i (decide (0≤i)&&decide (i<Int.ofNat s.Columns.length)) (.bn (zi2 (s.Columns.getD i.toNat default) s.Rows) fun r0=>.i (!r0) (.k (.inl false)) (.h ((),(IntKind.i64.wrap (i+1)),()) (s,()))) .d) (.k (.inr ()))
def zn8 (x:ttTref37Valid0) (y:Stats×Unit):Wy ttTref37Valid0 (Stats×Unit) (Bool⊕Unit):=zk8 x.2.1 y.1
def zy9 (n:Nat) (i:Int) (s:Stats):Bool×(Bool⊕Unit):=zN (zn8) (.inl default) n ((),i,()) (s,())
def zw3 (r:Bool⊕Unit):LTree ty:=.ite (isL r) (.done .ret [.lit (.bool (getL r))] []) (.done (.exit 0) [] [])
def zyu:LL ty ttTref37Valid0:=za (z6 136 0) (za (lInt .i64) zy)
def zzd:BL ty (Stats×Unit):=bBox (zbj (fun x=>(⟨x.1,x.2.1,x.2.2.1⟩:Stats)) (fun x=>(x.Table,x.Rows,x.Columns,())) (fun _=>rfl) (za (lInt .i64) (za (lInt .i64) (za (lSl 43) zy)))) false (bNil)
def zwU (x:ttTref37Valid0) (y:Stats×Unit):Nat:=(Int.toNat x.2.1+y.1.Columns.length+1)
def zy3:Cx ty:=mkCx base 34 [(58,zpz)] [] [(4,[(1,.keep),(3,.keep)])] [(4,1,[]),(4,0,[(2,.keep)])] [(4,spW zyu zzd (zn8) (.inl default) zw3 zwU)] []
theorem zDT:zZ zy3 (lp (body Tryz.f26) 0):=zP (id:=4) (V:=zyu) (B:=zzd) (W:=zn8) (z:=.inl default) (tr:=zw3) (m:=zwU)
def zut (s:Stats):Wy0 (Bool):=.i (decide (s.Rows<0)) (.k false) (.i (decide (s.Rows>1000000)) (.k false) (.i (decide (Int.ofNat s.Columns.length>16)) (.k false) (.bn (zy9 (Int.toNat 0+s.Columns.length+1) 0 s) fun r2=>.i (isL r2) (.k (getL r2)) (.k true))))
def zpo (s:Stats):Bool×Bool:=(zut s).fin default
def zxi (r:Bool):ARes ty:=⟨[.pure (.lit (.bool r))],[]⟩
def zAK:AL base (Stats×Unit):=zg (zh (vAgg 30)) aNil
def zv7:Ab.Spec ty:=zl zAK fun x=>((zpo x.1).1,zxi (zpo x.1).2)
theorem zCr:Sound Tryz.prog base 26 zv7:=
 zt (cx':=zy3) zG zn zD (zw ⟨zwK,trivial⟩) Tryz.call26 Tryz.func26 (c:=body Tryz.f26) (by kernel_rfl) (zi (l:=[lp (body Tryz.f26) 0]) (by kernel_rfl) ⟨zDT,trivial⟩) (sg:=⟨[.pure],[]⟩) (A:=zAK) (res:=zxi) (W:=fun x=>zut x.1) (z:=default)
def zzC:Cx ty:=mkCx base 11 [(26,zv7),(47,ref37_estimate_spec)] [] [] [] [] []
def zm5 (s:Stats) (e:Scalar):Wy0 (Int):=.bn (zpo s) fun r1=>.i (!r1) (.k 0) (.bn (ztu s (Scalar.mk e.Kind e.Column e.Value e.Op e.Args)) fun r0=>.k r0)
def zi0 (s:Stats) (e:Scalar):Bool×Int:=(zm5 s e).fin default
def zqf (r:Int):ARes ty:=⟨[.pure (.lit (.int .i64 r))],[]⟩
def zsK:AL base (Stats×Scalar×Unit):=zg (zh (vAgg 30)) (zg (zh (vAgg 47)) aNil)
def zo6:Ab.Spec ty:=zl zsK fun x=>((zi0 x.1 x.2.1).1,zqf (zi0 x.1 x.2.1).2)
theorem zwC:Sound Tryz.prog base 20 zo6:=
 zt (cx':=zzC) zG zn zD (zw ⟨zCr,zAb,trivial⟩) Tryz.call20 Tryz.func20 (c:=body Tryz.f20) (by kernel_rfl) (zi (l:=[]) (by kernel_rfl) trivial) (sg:=⟨[.pure],[]⟩) (A:=zsK) (res:=zqf) (W:=fun x=>zm5 x.1 x.2.1) (z:=default)
abbrev ttTlaw37StatisticsSelectivity0:=Unit×Unit×Unit
abbrev ttTlaw37StatisticsSelectivity1:=Stats×Scalar×Unit
def zhe (s:Stats) (cond:Scalar):Wy ttTlaw37StatisticsSelectivity0 ttTlaw37StatisticsSelectivity1 (Bool):=.bn (zgs s (Scalar.mk cond.Kind cond.Column cond.Value cond.Op cond.Args)) fun r1=>.bn (zi0 s (Scalar.mk cond.Kind cond.Column cond.Value cond.Op cond.Args)) fun r0=>.i (r1==r0) (.i (decide (r1≥0)) (.k (decide (r1≤1000))) (.k false)) (.k false)
def zeN (x:ttTlaw37StatisticsSelectivity0) (y:ttTlaw37StatisticsSelectivity1):Wy ttTlaw37StatisticsSelectivity0 ttTlaw37StatisticsSelectivity1 (Bool):=zhe y.1 y.2.1
def zkA (n:Nat) (s:Stats) (cond:Scalar):Bool×Bool:=zN (zeN) default n ((),(),()) (s,cond,())
def zj5 (r:Bool):LTree ty:=.done .ret [.lit (.bool r)] []
def zkx:LL ty ttTlaw37StatisticsSelectivity0:=za (z6 128 0) (za (z6 129 0) zy)
def zkE:BL ty ttTlaw37StatisticsSelectivity1:=bBox (zbj (fun x=>(⟨x.1,x.2.1,x.2.2.1⟩:Stats)) (fun x=>(x.Table,x.Rows,x.Columns,())) (fun _=>rfl) (za (lInt .i64) (za (lInt .i64) (za (lSl 43) zy)))) false (bBox (zbj (fun x=>(⟨x.1,x.2.1,⟨x.2.2.1,x.2.2.2.1,x.2.2.2.2.1⟩,x.2.2.2.2.2.1,x.2.2.2.2.2.2.1⟩:Scalar)) (fun x=>(x.Kind,x.Column,x.Value.Kind,x.Value.Int,x.Value.Text,x.Op,x.Args,())) (fun _=>rfl) (za (lInt .i64) (za (lInt .i64) (za (lInt .i64) (za (lInt .i64) (za lStr (za (lInt .i64) (za (lSl 47) zy)))))))) false (bNil))
def zhq (s:Stats) (cond:Scalar):Wy ttTlaw37StatisticsSelectivity0 ttTlaw37StatisticsSelectivity1 (Bool):=.bn (zuf s) fun r6=>.i (!r6) (.k true) (.bn (zBF (Scalar.mk cond.Kind cond.Column cond.Value cond.Op cond.Args) 30) fun r5=>.i (!r5) (.k true) (.bn (zkA 1 s (Scalar.mk cond.Kind cond.Column cond.Value cond.Op cond.Args)) fun r4=>.k r4))
def zeG (x:ttTlaw37StatisticsSelectivity0) (y:ttTlaw37StatisticsSelectivity1):Wy ttTlaw37StatisticsSelectivity0 ttTlaw37StatisticsSelectivity1 (Bool):=zhq y.1 y.2.1
def zko (n:Nat) (s:Stats) (cond:Scalar):Bool×Bool:=zN (zeG) default n ((),(),()) (s,cond,())
def zj4 (r:Bool):LTree ty:=.done .ret [.lit (.bool r)] []
def zkD:LL ty ttTlaw37StatisticsSelectivity0:=za (z6 128 0) (za (z6 129 0) zy)
def zkF:BL ty ttTlaw37StatisticsSelectivity1:=bBox (zbj (fun x=>(⟨x.1,x.2.1,x.2.2.1⟩:Stats)) (fun x=>(x.Table,x.Rows,x.Columns,())) (fun _=>rfl) (za (lInt .i64) (za (lInt .i64) (za (lSl 43) zy)))) false (bBox (zbj (fun x=>(⟨x.1,x.2.1,⟨x.2.2.1,x.2.2.2.1,x.2.2.2.2.1⟩,x.2.2.2.2.2.1,x.2.2.2.2.2.2.1⟩:Scalar)) (fun x=>(x.Kind,x.Column,x.Value.Kind,x.Value.Int,x.Value.Text,x.Op,x.Args,())) (fun _=>rfl) (za (lInt .i64) (za (lInt .i64) (za (lInt .i64) (za (lInt .i64) (za lStr (za (lInt .i64) (za (lSl 47) zy)))))))) false (bNil))
def zhm:Cx ty:=zFU base0 32 [(10,zvt),(17,zyN),(18,ref26_Few_spec),(19,zij),(20,zo6)] [] [(3,[(2,.keep),(3,.keep)]),(5,[(2,.keep),(3,.keep)])] [(3,0,[(4,.keep)]),(5,0,[(4,.keep)])] [] [] [(5,spW zkx zkE (zeN) default zj5 fun x y=>(1)),(3,spW zkD zkF (zeG) default zj4 fun x y=>(1))]
theorem zq2:zjI zhm (jn (body Tryz.f5) 5):=ziP (id:=5) (V:=zkx) (B:=zkE) (W:=zeN) (z:=default) (tr:=zj5) (m:=fun x y=>(1))
theorem zq9:zjI zhm (jn (body Tryz.f5) 3):=ziP (id:=3) (V:=zkD) (B:=zkF) (W:=zeG) (z:=default) (tr:=zj4) (m:=fun x y=>(1))
def zhK (s:Stats) (cond:Scalar):Wy0 (Bool):=.bn (zko 1 s (Scalar.mk cond.Kind cond.Column cond.Value cond.Op cond.Args)) fun r10=>.k r10
def zcO (s:Stats) (cond:Scalar):Bool×Bool:=(zhK s cond).fin default
def zg8 (r:Bool):ARes ty:=⟨[.pure (.lit (.bool r))],[]⟩
def zk1:AL base0 ttTlaw37StatisticsSelectivity1:=zg (zh (vAgg 30)) (zg (zh (vAgg 47)) aNil)
def zgT:Ab.Spec ty:=zl zk1 fun x=>((zcO x.1 x.2.1).1,zg8 (zcO x.1 x.2.1).2)
theorem zpm:Sound Tryz.prog base0 5 zgT:=
 zt (cx':=zhm) zG zsZ zHv (zGi ⟨zCj,zDP.nodr,zEu.nodr,zlD.nodr,zwC.nodr,trivial⟩) Tryz.call5 Tryz.func5 (c:=body Tryz.f5) (by kernel_rfl) (zAp (l:=[]) (by kernel_rfl) trivial (js:=[jn (body Tryz.f5) 3,jn (body Tryz.f5) 5]) (by kernel_rfl) ⟨zq9,zq2,trivial⟩) (sg:=⟨[.pure],[]⟩) (A:=zk1) (res:=zg8) (W:=fun x=>zhK x.1 x.2.1) (z:=default)
def trV (v:Value):TT:=.l [.i v.Kind,.i v.Int,trB v.Text]
mutual
def zD4:Atom→TT
 | ⟨k,r,a,f,i,o,b⟩=>.l [.i k,.i r.Table,.i r.Seq,.l (zv1 a),.i f,.l (ztj i),.i o,trV b]
def zz7:Factor→TT
 | ⟨x,e⟩=>.l [zD4 x,.i e]
def znX:List Factor→List TT
 | []=>[]
 | x::r=>zz7 x::znX r
def zDz:Term→TT
 | ⟨c,fs⟩=>.l [.l (znX fs),.i c]
def zxh:List Term→List TT
 | []=>[]
 | x::r=>zDz x::zxh r
def zv1:List (List Term)→List TT
 | []=>[]
 | x::r=>.l (zxh x)::zv1 r
def zEo:Weighted→TT
 | ⟨v,a⟩=>.l [trV v,.l (zxh a)]
def ztj:List Weighted→List TT
 | []=>[]
 | x::r=>zEo x::ztj r
end
theorem zuy:∀ a b:List UInt8,(a.map fun x=>TT.i (x.toNat:Int))=(b.map fun x=>TT.i (x.toNat:Int))→a=b
 | [],[]=>fun _=>rfl
 | [],_::_=>fun h=>by simp at h
 | _::_,[]=>fun h=>by simp at h
 | x::a,y::b=>fun h=>by
  simp only [List.map,List.cons.injEq,TT.i.injEq] at h
  rw [zuy a b h.2,UInt8.toNat_inj.1 (Int.ofNat.inj h.1)]
theorem zHt {a b:Value} (h:trV a=trV b):a=b:=by
 obtain ⟨k,n,s⟩:=a; obtain ⟨k',n',s'⟩:=b
 simp only [trV,trB,TT.l.injEq,List.cons.injEq,TT.i.injEq,and_true] at h
 obtain ⟨rfl,rfl,h⟩:=h
 have:=zuy _ _ h
 obtain ⟨⟨l⟩⟩:=s; obtain ⟨⟨l'⟩⟩:=s'
 simp only at this; subst this; rfl
mutual
theorem zHU:∀ a b:Atom,zD4 a=zD4 b→a=b
 | ⟨k,r,a,f,i,o,v⟩,⟨k',r',a',f',i',o',v'⟩=>fun h=>by
  simp only [zD4,TT.l.injEq,List.cons.injEq,TT.i.injEq,and_true] at h
  obtain ⟨rfl,h1,h2,h3,rfl,h4,rfl,h5⟩:=h
  obtain ⟨t,s⟩:=r; obtain ⟨t',s'⟩:=r'
  simp only at h1 h2; subst h1 h2
  rw [zDK a a' h3,zCB i i' h4,zHt h5]
theorem zGB:∀ a b:Factor,zz7 a=zz7 b→a=b
 | ⟨x,e⟩,⟨x',e'⟩=>fun h=>by
  simp only [zz7,TT.l.injEq,List.cons.injEq,TT.i.injEq,and_true] at h
  rw [zHU x x' h.1,h.2]
theorem zAo:∀ a b:List Factor,znX a=znX b→a=b
 | [],[]=>fun _=>rfl
 | [],_::_=>fun h=>by simp [znX] at h
 | _::_,[]=>fun h=>by simp [znX] at h
 | x::a,y::b=>fun h=>by
  simp only [znX,List.cons.injEq] at h
  rw [zGB x y h.1,zAo a b h.2]
theorem zIq:∀ a b:Term,zDz a=zDz b→a=b
 | ⟨c,l⟩,⟨c',l'⟩=>fun h=>by
  simp only [zDz,TT.l.injEq,List.cons.injEq,TT.i.injEq,and_true] at h
  rw [zAo l l' h.1,h.2]
theorem zBd:∀ a b:List Term,zxh a=zxh b→a=b
 | [],[]=>fun _=>rfl
 | [],_::_=>fun h=>by simp [zxh] at h
 | _::_,[]=>fun h=>by simp [zxh] at h
 | x::a,y::b=>fun h=>by
  simp only [zxh,List.cons.injEq] at h
  rw [zIq x y h.1,zBd a b h.2]
theorem zDK:∀ a b:List (List Term),zv1 a=zv1 b→a=b
 | [],[]=>fun _=>rfl
 | [],_::_=>fun h=>by simp [zv1] at h
 | _::_,[]=>fun h=>by simp [zv1] at h
 | x::a,y::b=>fun h=>by
  simp only [zv1,List.cons.injEq,TT.l.injEq] at h
  rw [zBd x y h.1,zDK a b h.2]
theorem zHV:∀ a b:Weighted,zEo a=zEo b→a=b
 | ⟨c,l⟩,⟨c',l'⟩=>fun h=>by
  simp only [zEo,TT.l.injEq,List.cons.injEq,and_true] at h
  rw [zHt h.1,zBd l l' h.2]
theorem zCB:∀ a b:List Weighted,ztj a=ztj b→a=b
 | [],[]=>fun _=>rfl
 | [],_::_=>fun h=>by simp [ztj] at h
 | _::_,[]=>fun h=>by simp [ztj] at h
 | x::a,y::b=>fun h=>by
  simp only [ztj,List.cons.injEq] at h
  rw [zHV x y h.1,zCB a b h.2]
end
def zz0 (P:List Term→Prop) (x:Atom):Prop:=
 (x.Args.length≤1000000∧x.Items.length≤1000000∧x.Bound.Text.size≤1000000000000)∧(∀ a∈x.Args,P a)∧∀ w∈x.Items,w.Value.Text.size≤1000000000000∧P w.Ann
def zG9 (P:List Term→Prop) (l:List Factor):Prop:=l.length≤1000000∧∀ f∈l,zz0 P f.Atom
def zod:Nat→List Term→Prop
 | 0,_=>False
 | n+1,a=>a.length≤1000000∧∀ t∈a,zG9 (zod n) t.Factors
theorem zz0.imp {P Q:List Term→Prop} (h:∀ a,P a→Q a) {x:Atom} (hx:zz0 P x):zz0 Q x:=⟨hx.1,fun a ha=>h a (hx.2.1 a ha),fun w hw=>⟨(hx.2.2 w hw).1,h _ (hx.2.2 w hw).2⟩⟩
theorem zod.succ:∀ (n:Nat) (a:List Term),zod n a→zod (n+1) a
 | 0,_,h=>h.elim
 | n+1,a,h=>⟨h.1,fun t ht=>⟨(h.2 t ht).1,fun f hf=>((h.2 t ht).2 f hf).imp (zod.succ n)⟩⟩
theorem zod.mono {n m:Nat} {a:List Term} (h:zod n a) (hm:n≤m):zod m a:=by
 obtain ⟨k,rfl⟩:=Nat.exists_eq_add_of_le hm
 clear hm
 induction k with
 | zero=>exact h
 | succ k ih=>exact zod.succ _ _ ih
theorem zBD (x y:Int):zc4 x y=(true,cmpI x y):=by
 unfold zc4 zoW zkn zsl cmpI
 by_cases h1:x<y
 ·simp [h1,Wy.fin_i,Wy.fin_k]
 ·by_cases h2:y<x <;>simp [h1,h2,Wy.fin_i,Wy.fin_k]
theorem zzy (x y:Int):zht x y=(true,cmpI x y):=by
 unfold zht zm6 ziz zoS cmpI
 by_cases h1:x<y
 ·simp [h1,Wy.fin_i,Wy.fin_k]
 ·by_cases h2:y<x <;>simp [h1,h2,Wy.fin_i,Wy.fin_k]
def zs8:List Int→Int
 | []=>0
 | x::r=>if x=0 then zs8 r else x
theorem zHI (l:List Int) (hl:l.length≤1000000):∀ (n i:Nat),l.length<i+n→i≤l.length→∃ r,zuA n 0 l l.length i=(true,r)∧(r=.inl (zs8 (l.drop i))∨(r=.inr 0∧zs8 (l.drop i)=0))
 | 0,i,h,h2=>by omega
 | n+1,i,h,h2=>by
  show ∃ r,(zus 0 l l.length i).ev (fun x y=>zuA n x.1 x.2.1 x.2.2.1 x.2.2.2.1) (fun r=>(true,r)) (false,.inl default)=(true,r)∧_
  unfold zus
  by_cases hi:i<l.length
  ·simp only [Wy.ev_i,Wy.ev_k,Wy.ev_h,Int.ofNat_eq_natCast,zGC,zE2,decide_true,decide_false,Bool.and_self,Bool.true_and,Bool.and_true,cond_true,cond_false,Int.toNat_natCast,Bool.not_true,Bool.not_false,hi]
   obtain ⟨r,h1,h3⟩:=zHI l hl n (i+1) (by omega) (by omega)
   rw [zs4 hi,zjx (by omega),h1]
   generalize l.getD i default=x
   by_cases hx:x=0
   ·have e:(x != 0)=false:=by simp [hx]
    simp only [e,cond_false,zs8,hx,if_true]
    exact ⟨r,rfl,h3⟩
   ·have e:(x != 0)=true:=by simp [hx]
    simp only [e,cond_true,zs8,hx,if_false]
    exact ⟨_,rfl,.inl rfl⟩
  ·simp only [Wy.ev_i,Wy.ev_k,Wy.ev_h,Int.ofNat_eq_natCast,zGC,zE2,decide_true,decide_false,Bool.and_self,Bool.true_and,Bool.and_true,cond_true,cond_false,Int.toNat_natCast,Bool.not_true,Bool.not_false,hi,zta hi]
   exact ⟨_,rfl,.inr ⟨rfl,rfl⟩⟩
theorem zFP (l:List Int) (hl:l.length≤1000000):zjr l=(true,zs8 l):=by
 unfold zjr zvz
 obtain ⟨r,h1,h2⟩:=zHI l hl (Int.toNat 0+l.length+(Int.ofNat l.length).toNat +Int.toNat 0+1000) 0 (by simp; omega) (by omega)
 rw [show ((0:Nat):Int)=(0:Int) from rfl] at h1
 rw [Wy.fin_bn,show Int.ofNat l.length=(l.length:Int) from rfl] at *
 rw [h1]
 rw [List.drop_zero] at h2
 rcases h2 with rfl | ⟨rfl,h2⟩
 ·rfl
 ·rw [h2]; rfl
theorem zCE (s:ByteArray):∀ (n i:Nat) (r:List UInt8),s.size≤i+n→ByteArray.toList.loop s i r=r.reverse++s.data.toList.drop i
 | 0,i,r,h=>by
  rw [ByteArray.toList.loop,if_neg (by omega),List.drop_eq_nil_of_le (by rw [← Lib.size_eq]; omega),List.append_nil]
 | n+1,i,r,h=>by
  rw [ByteArray.toList.loop]
  by_cases hi:i<s.size
  ·have hi':i<s.data.toList.length:=by rw [← Lib.size_eq]; exact hi
   rw [if_pos hi,zCE s n (i+1) _ (by omega),List.drop_eq_getElem_cons hi',List.reverse_cons,List.append_assoc]
   congr 1
   have:s.get! i=s.data.toList[i]:=by
    have h':i<s.data.size:=hi
    show s.data[i]! =s.data.toList[i]
    rw [getElem!_pos s.data i h']; rfl
   rw [this]; rfl
  ·rw [if_neg hi,List.drop_eq_nil_of_le (by rw [← Lib.size_eq]; omega),List.append_nil]
theorem toList_eq (s:ByteArray):s.toList=s.data.toList:=by
 rw [ByteArray.toList,zCE s s.size 0 [] (by omega)]; rfl
theorem zBA {s t:ByteArray} (h:s.data.toList=t.data.toList):s=t:=by
 cases s; cases t
 congr 1
 exact Array.toList_inj.1 h
theorem zIa (s t:ByteArray):(s.toList==t.toList)=decide (s.data.toList=t.data.toList):=by
 rw [toList_eq,toList_eq]
 cases hb:(s.data.toList==t.data.toList) with
 | true=>rw [decide_eq_true (beq_iff_eq.1 hb)]
 | false=>rw [decide_eq_false (fun h=>by rw [beq_iff_eq.2 h] at hb; cases hb)]
theorem zB3 (s t:ByteArray):(s.toList==t.toList)=decide (s=t):=by
 rw [zIa]
 by_cases h:s=t
 ·rw [decide_eq_true h,decide_eq_true (by rw [h])]
 ·rw [decide_eq_false h,decide_eq_false fun e=>h (zBA e)]
theorem bne0 (z w:Int):(z != w)= !decide (z=w):=by by_cases h:z=w <;>simp [h]
theorem zAE:∀ a b:List UInt8,Op.bytesLess a b=decide (Lib.compareBytes a b<0)
 | [],[]=>by simp [Op.bytesLess,Lib.compareBytes]
 | _::_,[]=>by simp [Op.bytesLess,Lib.compareBytes]
 | [],_::_=>by simp [Op.bytesLess,Lib.compareBytes]
 | x::a,y::b=>by
  simp only [Op.bytesLess,Lib.compareBytes]
  by_cases p:x<y
  ·simp [p]
  ·by_cases q:y<x
   ·have hne:¬ x=y:=fun e=>by subst e; exact p q
    simp [p,q,hne]
   ·have he:x=y:=UInt8.toNat_inj.1 (by rw [UInt8.lt_iff_toNat_lt] at p q; omega)
    subst he
    simp [p,zAE a b]
theorem zDq (a b:Value):zee a b=(true,cmpT (trV a) (trV b)):=by
 unfold zee zsm zmd zvU
 rw [zB3,toList_eq,toList_eq,zAE,zHC]
 simp only [trV,cmpT,cmpL,cmpI]
 simp only [Wy.fin_i,Wy.fin_bn,Wy.fin_k,cond_true,bne0]
 by_cases h1:a.Kind=b.Kind
 ·by_cases h2:a.Int=b.Int
  ·by_cases h3:a.Text=b.Text
   ·simp [h1,h2,h3,zJd]
   ·have h4:cmpT (trB a.Text) (trB b.Text)≠0:=fun e=>by
     have:=zuy _ _ (TT.l.inj (zzk _ _ e))
     exact h3 (zBA this)
    have h5:=zGK (trB a.Text) (trB b.Text)
    simp only [trB,cmpT] at h4 h5
    simp only [trB,cmpT]
    rcases h5 with h5 | h5 | h5
    ·simp [h1,h2,h3,h5]
    ·exact absurd h5 h4
    ·simp [h1,h2,h3,h5]
  ·by_cases h3:a.Int<b.Int
   ·simp [h1,h2,h3]
   ·simp [h1,h2,h3,show b.Int<a.Int by omega]
 ·by_cases h3:a.Kind<b.Kind
  ·simp [h1,h3]
  ·simp [h1,h3,show b.Kind<a.Kind by omega]
theorem zDn (a b:Value):zbL a b=(true,cmpT (trV a) (trV b)):=by
 unfold zbL zr1
 have h:(strings_Compare a.Text b.Text).2=cmpT (trB a.Text) (trB b.Text):=by rw [← zHC]; rfl
 simp only [zBD,zzy,Wy.fin_bn,cond_true,h]
 rw [zFP _ (by simp)]
 simp only [Wy.fin_k,cond_true,trV,cmpT,cmpL,zs8]
 rfl
theorem zkj {z:Int} (h0: -4611686018427387904≤z) (h:z<4611686018427387904):IntKind.i64.wrap z=z:=zEM (by omega) (by omega)
def allN (c:Nat→Bool):Nat→Nat→Bool
 | 0,_=>true
 | n+1,i=>c i&&allN c n (i+1)
theorem zGq (c c':Nat→Bool):∀ n i,allN (fun k=>c k&&c' k) n i=(allN c n i&&allN c' n i)
 | 0,_=>rfl
 | n+1,i=>by
  simp only [allN,zGq c c' n (i+1)]
  cases c i <;>cases c' i <;>simp
theorem zF5 {τ:Type} [Inhabited τ] (p:τ→Bool) (l:List τ):∀ n i,i+n=l.length→allN (fun k=>p (l.getD k default)) n i=(l.drop i).all p
 | 0,i,h=>by rw [zta (by omega)]; rfl
 | n+1,i,h=>by
  rw [zs4 (by omega),List.all_cons]
  simp only [allN,zF5 p l n (i+1) (by omega)]
theorem zFs {τ:Type} [Inhabited τ] (p:τ→Bool) (l:List τ):allN (fun k=>p (l.getD k default)) l.length 0=l.all p:=by
 rw [zF5 p l _ _ (by omega),List.drop_zero]
section
variable {α β ρ:Type}
theorem zF9 {W:α→β→Wy α β ρ} {z:ρ} (N:Nat) (ex:Nat→α) (ey:Nat→β) (c:Nat→Bool) (no yes:ρ)
  (h:∀ i,i<N→∀ (H:α→β→Bool×ρ) K D,(W (ex i) (ey i)).ev H K D=bif c i then H (ex (i+1)) (ey (i+1)) else K no)
  (he:∀ (H:α→β→Bool×ρ) K D,(W (ex N) (ey N)).ev H K D=K yes):
  ∀ n i,N<i+n→i≤N→zN W z n (ex i) (ey i)=(true,bif allN c (N - i) i then yes else no)
 | 0,i,h1,h2=>by omega
 | n+1,i,h1,h2=>by
  show (W (ex i) (ey i)).ev (zN W z n) (fun r=>(true,r)) (false,z)=_
  by_cases hi:i<N
  ·rw [h i hi,show N - i=(N - (i+1))+1 by omega]
   simp only [allN]
   cases c i with
   | false=>rfl
   | true=>rw [cond_true,zF9 N ex ey c no yes h he n (i+1) (by omega) (by omega)]; rfl
  ·have:i=N:=by omega
   subst this
   rw [he,Nat.sub_self]; rfl
theorem zFr {W:α→β→Wy α β ρ} {z:ρ} (N:Nat) (ex:Nat→α) (ey:Nat→β) (c:Nat→Bool) (no yes:ρ)
  (h:∀ i,i<N→∀ (H:α→β→Bool×ρ) K D,(W (ex i) (ey i)).ev H K D=bif c i then H (ex (i+1)) (ey (i+1)) else K no)
  (he:∀ (H:α→β→Bool×ρ) K D,(W (ex N) (ey N)).ev H K D=K yes) (n:Nat) (hn:N<n):zN W z n (ex 0) (ey 0)=(true,bif allN c N 0 then yes else no):=by
 have:=zF9 (z:=z) N ex ey c no yes h he n 0 (by omega) (by omega)
 simpa using this
end
def ixf {α:Type} (p:α→Bool):List α→Nat→Int
 | [],_=> -1
 | x::r,i=>bif p x then (i:Int) else ixf p r (i+1)
theorem zHK {α:Type} (p:α→Bool):∀ (l:List α) (i:Nat),decide (ixf p l i≥(0:Int))=l.any p
 | [],i=>by simp [ixf]
 | x::r,i=>by
  rw [List.any_cons]
  cases h:p x with
  | true=>simp [ixf,h]
  | false=>simpa [ixf,h] using zHK p r (i+1)
section
variable {α γ:Type} [Inhabited α]
def zH4 (p:γ→α→Bool×Bool) (s:List α) (g:γ) (t7:Int) (t8:Int):Wy (List α×γ×Int×Int×Unit) (Unit) (Int⊕Unit):=.i (decide (t8<t7)) (.i (decide ((0:Int)≤t8)&&decide (t8<Int.ofNat s.length)) (.bn (p g (s.getD t8.toNat default)) fun r0=>.i (r0) (.k (.inl t8)) (.h (s,g,t7,(IntKind.i64.wrap (t8+(1:Int))),()) ())) .d) (.k (.inr ()))
def zLw (p:γ→α→Bool×Bool) (x:List α×γ×Int×Int×Unit) (y:Unit):Wy (List α×γ×Int×Int×Unit) (Unit) (Int⊕Unit):=zH4 p x.1 x.2.1 x.2.2.1 x.2.2.2.1
def zIo (p:γ→α→Bool×Bool) (n:Nat) (s:List α) (g:γ) (t7:Int) (t8:Int):Bool×(Int⊕Unit):=zN (zLw p) (.inl default) n (s,g,t7,t8,()) ()
def IG (p:γ→α→Bool×Bool) (n:Nat) (g:γ) (s:List α):Bool×Int:=(.bn (zIo p n s g (Int.ofNat s.length) (0:Int)) fun r2=>.i (isL r2) (.k (getL r2)) (.k (-1:Int)):Wy0 Int).fin default
theorem zHE (p:γ→α→Bool×Bool) (P:α→Bool) (g:γ) (s:List α) (hs:s.length≤1000000000) (hp:∀ x∈s,p g x=(true,P x)):∀ (n i:Nat),s.length<i+n→i≤s.length→
  ∃ r,zIo p n s g s.length i=(true,r)∧((r=.inl (ixf P (s.drop i) i))∨(r=.inr ()∧ixf P (s.drop i) i= -1))
 | 0,i,h,h2=>by omega
 | n+1,i,h,h2=>by
  show ∃ r,(zH4 p s g s.length i).ev (fun x y=>zIo p n x.1 x.2.1 x.2.2.1 x.2.2.2.1) (fun r=>(true,r)) (false,.inl default)=(true,r)∧_
  unfold zH4
  by_cases hi:i<s.length
  ·simp only [Wy.ev_i,Wy.ev_k,Wy.ev_h,Wy.ev_bn,Wy.ev_d,tT,hi,hp _ (zfr hi)]
   rw [zs4 hi,zjx (by omega)]
   simp only [ixf]
   cases P (s.getD i default) with
   | true=>exact ⟨_,rfl,.inl rfl⟩
   | false=>exact zHE p P g s hs hp n (i+1) (by omega) (by omega)
  ·simp only [Wy.ev_i,Wy.ev_k,Wy.ev_h,Wy.ev_bn,Wy.ev_d,tT,hi,zta hi]
   exact ⟨_,rfl,.inr ⟨rfl,rfl⟩⟩
theorem zJZ (p:γ→α→Bool×Bool) (P:α→Bool) (n:Nat) (g:γ) (s:List α) (hs:s.length≤1000000000) (hp:∀ x∈s,p g x=(true,P x)) (hn:s.length<n):IG p n g s=(true,ixf P s 0):=by
 unfold IG
 obtain ⟨r,h1,h2⟩:=zHE p P g s hs hp n 0 (by omega) (by omega)
 rw [show ((0:Nat):Int)=(0:Int) from rfl] at h1
 rw [Wy.fin_bn,show Int.ofNat s.length=(s.length:Int) from rfl,h1]
 rw [List.drop_zero] at h2
 rcases h2 with rfl | ⟨rfl,h2⟩
 ·rfl
 ·rw [h2]; rfl
theorem zCZ {α:Type} {s:List α} {P:α→Bool} {q:Bool×Int} (h:q=(true,ixf P s 0)):((.bn q fun r0=>.k (decide (r0≥(0:Int))):Wy0 Bool).fin default)=(true,s.any P):=by
 rw [h,Wy.fin_bn,cond_true,Wy.fin_k,zHK]
end
theorem beqd (a b:Int):(a==b)=decide (a=b):=by by_cases h:a=b <;>simp [h]
theorem beqn (a b:Nat):(a==b)=decide (a=b):=by by_cases h:a=b <;>simp [h]
theorem i0 (l:Nat):((l:Int)==0)=(l==0):=by
 rw [beqd,beqn]; congr 1; simp
theorem zKM (a b:Nat):decide (a>b)= !decide (a≤b):=by
 by_cases h:a≤b
 ·have:¬ a>b:=by omega
  simp [h,this]
 ·have:a>b:=by omega
  simp [h,this]
def valV (v:Value):Bool:=(v.Kind==0&&v.Text.size==0)||(v.Kind==1&&v.Int==0&&decide (v.Text.size≤255))||(v.Kind==2&&v.Text.size==0&&(v.Int==0||v.Int==1))
theorem zGS (s:ByteArray):(s.toList==(ByteArray.mk #[]).toList)=(s.size==0):=by
 rw [zB3]
 by_cases h:s.size=0
 ·have:s=ByteArray.mk #[]:=zBA (by
   have:s.data.toList.length=0:=by simpa using h
   rw [List.length_eq_zero_iff.1 this])
  subst this; rfl
 ·have:¬ s=ByteArray.mk #[]:=fun e=>h (by rw [e]; rfl)
  simp [h,this]
theorem zyy (v:Value):zgt v=(true,valV v):=by
 unfold zgt zuG valV
 simp only [zGS,Wy.fin_i,Wy.fin_k,beqd,beqn]
 have e:decide (Int.ofNat v.Text.size≤(255:Int))=decide (v.Text.size≤255):=zvK _ 255
 rw [e]
 by_cases h0:v.Kind=0
 ·simp [h0]
 ·by_cases h1:v.Kind=1
  ·by_cases h2:v.Int=0 <;>simp [h1,h2]
  ·by_cases h2:v.Kind=2
   ·by_cases h3:v.Int=0
    ·simp [h2,h3]
    ·by_cases h4:v.Int=1 <;>simp [h2,h3,h4]
   ·simp [h0,h1,h2]
theorem zyX (v:Value):zkR v=(true,valV v):=by
 unfold zkR zup valV
 simp only [zGS,Wy.fin_i,Wy.fin_k,beqd,beqn]
 have e:decide (Int.ofNat v.Text.size≤(255:Int))=decide (v.Text.size≤255):=zvK _ 255
 rw [e]
 by_cases h0:v.Kind=0
 ·simp [h0]
 ·by_cases h1:v.Kind=1
  ·by_cases h2:v.Int=0 <;>simp [h1,h2]
  ·by_cases h2:v.Kind=2
   ·by_cases h3:v.Int=0
    ·by_cases h4:v.Text.size=0 <;>simp [h2,h3,h4]
    ·by_cases h4:v.Text.size=0 <;>simp [h2,h3,h4]
   ·simp [h0,h1,h2]
theorem zFB (c:Nat→Bool):∀ n i,allN c (n+1) i=(allN c n i&&c (i+n))
 | 0,i=>by simp [allN]
 | n+1,i=>by
  rw [allN,zFB c n (i+1),allN,show i+1+n=i+(n+1) by omega,Bool.and_assoc]
def cmpV (a b:Value):Int:=cmpT (trV a) (trV b)
theorem zFa (a b:Value):cmpV b a= - cmpV a b:=zxf _ _
theorem value_Compare_eq' (a b:Value):zbL a b=(true,cmpV a b):=zDn a b
theorem ref01_Compare_eq' (a b:Value):zee a b=(true,cmpV a b):=zDq a b
def zg4:Nat→Scalar→Prop
 | 0,_=>False
 | n+1,e=>e.Args.length≤1000000∧∀ x∈e.Args,zg4 n x
theorem zg4.succ:∀ (n:Nat) (e:Scalar),zg4 n e→zg4 (n+1) e
 | 0,_,h=>h.elim
 | n+1,e,h=>⟨h.1,fun x hx=>zg4.succ n x (h.2 x hx)⟩
theorem zg4.mono {n m:Nat} {e:Scalar} (h:zg4 n e) (hm:n≤m):zg4 m e:=by
 obtain ⟨k,rfl⟩:=Nat.exists_eq_add_of_le hm
 clear hm
 induction k with
 | zero=>exact h
 | succ k ih=>exact zg4.succ _ _ ih
theorem zuw:∀ {l:List Scalar},zkG l→∀ x∈l,ziG x
 | [],_,x,hx=>by simp at hx
 | y::r,h,x,hx=>by
  unfold zkG at h
  rcases List.mem_cons.1 hx with rfl | hx
  ·exact h.1
  ·exact zuw h.2 x hx
theorem zAz {e:Scalar} (h:ziG e):zkG e.Args∧e.Args.length≤roomLen:=by
 obtain ⟨k,c,v,o,a⟩:=e
 unfold ziG at h
 exact h.2.2.2.2
theorem zD0 (g:Scalar→Int→Bool×Int) (e:Scalar) (l:Nat) (hl:l≤1000) (hlen:e.Args.length≤roomLen)
  (hg:∀ x∈e.Args,∀ k:Nat,k<l→∃ w:Nat,g x k=(true,(w:Int))∧1≤w∧w≤k+1∧(w≤k→zg4 (k+1) x)):
  ∀ (n i m:Nat),e.Args.length<i+n→i≤e.Args.length→1≤m→m≤l+1→i+1≤m→(m≤l→∀ x∈e.Args.take i,zg4 l x)→
   ∃ w:Nat,zpU g n l m i e=(true,(w:Int))∧1≤w∧w≤l+1∧(w≤l→zg4 (l+1) e)
 | 0,i,m,h,h2,_,_,_,_=>by omega
 | n+1,i,m,h,h2,h3,h4,h5,h6=>by
  show ∃ w:Nat,(zpV g l m i e).ev (fun x y=>zpU g n x.1 x.2.2.1 x.2.2.2.1 y.1) (fun r=>(true,r)) (false,default)=(true,(w:Int))∧_
  unfold zpV
  by_cases hi:i<e.Args.length
  ·by_cases hm:m≤l
   ·have hw:IntKind.i64.wrap ((l:Int) - (m:Int))=((l - m:Nat):Int):=by
     rw [zkj (by omega) (by omega)]; omega
    have hx:=zfr hi
    obtain ⟨w,w1,w2,w3,w4⟩:=hg _ hx (l - m) (by omega)
    have hw2:IntKind.i64.wrap ((m:Int)+(w:Int))=((m+w:Nat):Int):=by
     rw [zkj (by omega) (by omega)]; omega
    have hi2:i<4611686018427387904:=by have:=hlen; have:roomLen<4611686018427387904:=by decide
                                       omega
    simp only [Wy.ev_i,Wy.ev_k,Wy.ev_h,Wy.ev_bn,Wy.ev_d,tT,hi,hm,hw,Scalar.eta,w1,hw2,zjx hi2,zvK]
    refine zD0 g e l hl hlen hg n (i+1) (m+w) (by omega) (by omega) (by omega) (by omega) (by omega) fun hc x hx'=> ?_
    rw [zEU hi] at hx'
    rcases List.mem_append.1 hx' with hx' | hx'
    ·exact h6 hm x hx'
    ·rw [List.mem_singleton] at hx'; subst hx'
     exact (w4 (by omega)).mono (by omega)
   ·simp only [Wy.ev_i,Wy.ev_k,Wy.ev_h,Wy.ev_bn,Wy.ev_d,tT,hi,hm,zvK]
    exact ⟨m,rfl,h3,h4,fun hc=>by omega⟩
  ·simp only [Wy.ev_i,Wy.ev_k,Wy.ev_h,Wy.ev_bn,Wy.ev_d,tT,hi]
   refine ⟨m,rfl,h3,h4,fun hc=>⟨by omega,fun x hx=>h6 hc x ?_⟩⟩
   rw [List.take_of_length_le (by omega)]; exact hx
theorem zJH:∀ (l N:Nat),l<N→l≤1000→∀ e:Scalar,ziG e→∃ w:Nat,zkk N e l=(true,(w:Int))∧1≤w∧w≤l+1∧(w≤l→zg4 (l+1) e):=by
 intro l
 induction l using Nat.strongRecOn with
 | ind l ih=>
  intro N hN hl e he
  obtain ⟨N,rfl⟩:∃ M,N=M+1:=⟨N - 1,by omega⟩
  rw [zDd]
  unfold zpQ zsf
  have ha:=zAz he
  obtain ⟨w,w1,w2⟩:=zD0 (zkk N) e l hl ha.2 (fun x hx k hk=>ih k hk N (by omega) (by omega) x (zuw ha.1 x hx))
   ((l:Int).toNat +Int.toNat (1:Int)+Int.toNat (0:Int)+e.Args.length+(1:Nat)) 0 1 (by omega) (by omega) (by omega) (by omega) (by omega) (fun _ x hx=>by simp at hx)
  rw [show ((0:Nat):Int)=(0:Int) from rfl,show ((1:Nat):Int)=(1:Int) from rfl] at w1
  rw [Wy.fin_bn,Scalar.eta,w1]
  exact ⟨w,rfl,w2⟩
theorem zGg (e:Scalar) (he:ziG e):∃ w:Nat,zxR e (30:Int)=(true,(w:Int))∧(w≤30→zg4 31 e):=by
 obtain ⟨w,w1,_,_,w2⟩:=zJH 30 1000 (by omega) (by omega) e he
 exact ⟨w,w1,w2⟩
theorem zEq (g:Scalar→Int→Bool×Bool) (e:Scalar) (hlen:e.Args.length≤1000000) (hg:∀ x∈e.Args,∃ b,g x 30=(true,b)):
  ∀ (n i:Nat),e.Args.length<i+n→i≤e.Args.length→∃ r,zs3 g n (30:Int) i e=(true,r)
 | 0,i,h,h2=>by omega
 | n+1,i,h,h2=>by
  show ∃ r,(ztt g (30:Int) i e).ev (fun x y=>zs3 g n x.1 x.2.2.1 y.1) (fun r=>(true,r)) (false,.inl default)=(true,r)
  unfold ztt
  by_cases hi:i<e.Args.length
  ·obtain ⟨b,hb⟩:=hg _ (zfr hi)
   simp only [Wy.ev_i,Wy.ev_k,Wy.ev_h,Wy.ev_bn,Wy.ev_d,tT,hi,Scalar.eta,hb]
   cases b with
   | false=>exact ⟨_,rfl⟩
   | true=>
    rw [zjx (by omega)]
    exact zEq g e hlen hg n (i+1) (by omega) (by omega)
  ·simp only [Wy.ev_i,Wy.ev_k,Wy.ev_h,Wy.ev_bn,Wy.ev_d,tT,hi]
   exact ⟨_,rfl⟩
theorem zDC:∀ (d N:Nat) (e:Scalar),d≤N→zg4 d e→ziG e→∃ b,zkO N e (30:Int)=(true,b)∧(b=true→e.Value.Text.size≤300)
 | 0,_,_,_,h,_=>h.elim
 | d+1,0,_,h,_,_=>by omega
 | d+1,N+1,e,h,hf,he=>by
  rw [zyF]
  unfold zpJ zpM
  obtain ⟨w,w1,w2⟩:=zGg e he
  have ha:=zAz he
  obtain ⟨r,hr⟩:=zEq (zkO N) e hf.1 (fun x hx=>by
   obtain ⟨b,hb,_⟩:=zDC d N x (by omega) (hf.2 x hx) (zuw ha.1 x hx)
   exact ⟨b,hb⟩) ((30:Int).toNat +Int.toNat (0:Int)+e.Args.length+(1:Nat)) 0 (by omega) (by omega)
  rw [show ((0:Nat):Int)=(0:Int) from rfl] at hr
  have hs:decide (Int.ofNat e.Value.Text.size>(300:Int))=decide (e.Value.Text.size>300):=zEc _ 300
  simp only [Wy.fin_i,Wy.fin_bn,Wy.fin_k,cond_true,Scalar.eta,w1,hr,hs]
  cases decide ((w:Int)>30)
  ·by_cases h3:e.Value.Text.size>300
   ·rw [decide_eq_true h3]; exact ⟨_,rfl,fun h=>by cases h⟩
   ·rw [decide_eq_false h3]
    simp only [cond_false]
    cases isL r
    ·exact ⟨_,rfl,fun _=>by omega⟩
    ·exact ⟨_,rfl,fun _=>by omega⟩
  ·exact ⟨_,rfl,fun h=>by cases h⟩
theorem zJk (e:Scalar) (he:ziG e):∃ b,zBF e (30:Int)=(true,b)∧(b=true→zg4 31 e):=by
 obtain ⟨w,w1,w2⟩:=zGg e he
 by_cases hw:w≤30
 ·obtain ⟨b,hb,_⟩:=zDC 31 1000 e (by omega) (w2 hw) he
  exact ⟨b,hb,fun _=>w2 hw⟩
 ·refine ⟨false, ?_,fun h=>by cases h⟩
  show zkO (999+1) e 30=_
  rw [zyF]
  unfold zpJ zpM
  have hd:decide ((w:Int)>30)=true:=decide_eq_true (by omega)
  simp only [Wy.fin_i,Wy.fin_bn,Wy.fin_k,cond_true,Scalar.eta,w1,hd]
def zV:Value:=⟨0,0,ByteArray.mk #[]⟩
theorem veq (a b:Value):(a.Kind==b.Kind&&(a.Int==b.Int&&(a.Text.toList==b.Text.toList&&true)))=decide (a=b):=by
 obtain ⟨k,n,s⟩:=a; obtain ⟨k',n',s'⟩:=b
 simp only [zB3,beqd,Bool.and_true,Value.mk.injEq]
 by_cases h1:k=k' <;>by_cases h2:n=n' <;>by_cases h3:s=s' <;>simp [h1,h2,h3]
theorem zJT (a:Value):(a.Kind==(0:Int)&&(a.Int==(0:Int)&&(a.Text.toList==(ByteArray.mk #[]).toList&&true)))=decide (a=zV):=veq a zV
theorem vyes (a:Value):(a.Kind==(2:Int)&&(a.Int==(1:Int)&&(a.Text.toList==(ByteArray.mk #[]).toList&&true)))=decide (a=⟨2,1,ByteArray.mk #[]⟩):=veq a ⟨2,1,ByteArray.mk #[]⟩
def zpR (k:Int) (b:Value):Bool:=valV b&&decide (b.Kind=k)
def srtB (l:List Value) (k:Nat):Bool:=decide (k=0)||decide (cmpV (l.getD (k - 1) default) (l.getD k default)≤0)
def okC (c:ColumnStats) (rows:Int):Bool:=
 if rows=0 then decide (c.Distinct=0)&&(decide (c.Min=zV)&&(decide (c.Max=zV)&&decide (c.Bounds.length=0)))
 else decide (1≤c.Distinct)&&(decide (c.Distinct≤rows)&&(valV c.Min&&(valV c.Max&&(decide (c.Min.Kind=c.Max.Kind)&&(decide (cmpV c.Min c.Max≤0)&&(decide (c.Bounds.length=8)&&(decide (c.Bounds.getD 7 default=c.Max)&&
  (c.Bounds.all (zpR c.Min.Kind)&&(decide (cmpV c.Min (c.Bounds.getD 0 default)≤0)&&allN (srtB c.Bounds) c.Bounds.length 0)))))))))
def okS (s:Stats):Bool:=decide (0≤s.Rows)&&(decide (s.Rows≤1000000)&&(decide (s.Columns.length≤16)&&s.Columns.all fun c=>okC c s.Rows))
theorem zF7 (a b:Int):decide (a<b)= !decide (b≤a):=by
 by_cases h:b≤a
 ·have:¬ a<b:=by omega
  simp [h,this]
 ·have:a<b:=by omega
  simp [h,this]
theorem zF8 (a b:Int):decide (a>b)= !decide (a≤b):=zF7 b a
theorem zIU (a b:Value):decide (cmpV a b>0)= !decide (cmpV a b≤0):=zF8 _ _
theorem zJ7 (c:ColumnStats) (hc:c.Bounds.length=8) (n:Nat) (hn:8<n):
  zrh n 0 c c.Min=(true,bif allN (fun i=>zpR c.Min.Kind (c.Bounds.getD i default)&&decide (cmpV (if i=0 then c.Min else c.Bounds.getD (i - 1) default) (c.Bounds.getD i default)≤0)) 8 0 then .inr () else .inl false):=by
 refine zFr (W:=zjb) (z:=.inl default) 8 (fun i=>((),(),(i:Int),())) (fun i=>(c,(if i=0 then c.Min else c.Bounds.getD (i - 1) default),())) _ (.inl false) (.inr ()) (fun i hi H K D=> ?_) (fun H K D=> ?_) n hn
 ·show (zja i c (if i=0 then c.Min else c.Bounds.getD (i - 1) default)).ev H K D=_
  unfold zja
  have h8:decide ((i:Int)<(8:Int))=true:=decide_eq_true (by omega)
  have hl:i<c.Bounds.length:=by omega
  have hk:((c.Bounds.getD i default).Kind != c.Min.Kind)= !decide ((c.Bounds.getD i default).Kind=c.Min.Kind):=bne0 _ _
  simp only [Wy.ev_i,Wy.ev_k,Wy.ev_h,Wy.ev_bn,Wy.ev_d,tT,h8,hl,zyX,ref01_Compare_eq',hk,zpR,zIU,zjx (show i<4611686018427387904 by omega),if_neg (show ¬ i+1=0 by omega),show i+1 - 1=i from rfl]
  cases valV (c.Bounds.getD i default) <;>cases decide ((c.Bounds.getD i default).Kind=c.Min.Kind) <;>cases decide (cmpV (if i=0 then c.Min else c.Bounds.getD (i - 1) default) (c.Bounds.getD i default)≤0) <;>rfl
 ·show (zja ((8:Nat):Int) c _).ev H K D=_
  rfl
theorem zJA (c:ColumnStats) (hc:c.Bounds.length=8):allN (fun i=>zpR c.Min.Kind (c.Bounds.getD i default)&&decide (cmpV (if i=0 then c.Min else c.Bounds.getD (i - 1) default) (c.Bounds.getD i default)≤0)) 8 0=
  (c.Bounds.all (zpR c.Min.Kind)&&(decide (cmpV c.Min (c.Bounds.getD 0 default)≤0)&&allN (srtB c.Bounds) c.Bounds.length 0)):=by
 rw [zGq, ← hc,zFs,hc]
 congr 1
theorem zzV (c:ColumnStats) (rows:Int):zi2 c rows=(true,okC c rows):=by
 unfold zi2 zm4 okC
 by_cases h0:rows=0
 ·subst h0
  simp only [zJT]
  simp only [Wy.fin_i,Wy.fin_k,beqd,if_pos,decide_true,cond_true]
  have e:decide (Int.ofNat c.Bounds.length=(0:Int))=decide (c.Bounds.length=0):=by
   by_cases h:c.Bounds.length=0
   ·rw [h]; rfl
   ·rw [decide_eq_false h,decide_eq_false]; intro hc; exact h (Int.ofNat.inj hc)
  rw [e]
  cases decide (c.Distinct=0) <;>cases decide (c.Min=zV) <;>cases decide (c.Max=zV) <;>rfl
 ·have e8:(Int.ofNat c.Bounds.length != (8:Int))= !decide (c.Bounds.length=8):=by
   rw [bne0]
   congr 1
   by_cases h:c.Bounds.length=8
   ·rw [h]; rfl
   ·rw [decide_eq_false h,decide_eq_false]; intro hc; exact h (Int.ofNat.inj hc)
  have er:(rows==(0:Int))=false:=by rw [beqd,decide_eq_false h0]
  have z7:Int.toNat (7:Int)=7:=rfl
  simp only [veq]
  simp only [Wy.fin_i,Wy.fin_bn,Wy.fin_k,er,if_neg h0,cond_false,cond_true,zyX,ref01_Compare_eq',zF7 c.Distinct 1,zF8 c.Distinct rows,zIU,bne0 c.Min.Kind,e8,z7]
  by_cases h8:c.Bounds.length=8
  ·have e7:(decide ((0:Int)≤(7:Int))&&decide ((7:Int)<Int.ofNat c.Bounds.length))=true:=by rw [h8]; rfl
   rw [e7,zJ7 c h8 _ (by rw [h8]; decide),zJA c h8,decide_eq_true h8]
   cases decide (1≤c.Distinct) <;>cases decide (c.Distinct≤rows) <;>cases valV c.Min <;>cases valV c.Max <;>cases decide (c.Min.Kind=c.Max.Kind) <;>cases decide (cmpV c.Min c.Max≤0) <;>try rfl
   cases decide (c.Bounds.getD 7 default=c.Max) <;>try rfl
   cases (c.Bounds.all (zpR c.Min.Kind)&&(decide (cmpV c.Min (c.Bounds.getD 0 default)≤0)&&allN (srtB c.Bounds) c.Bounds.length 0)) <;>rfl
  ·rw [decide_eq_false h8]
   cases decide (1≤c.Distinct) <;>cases decide (c.Distinct≤rows) <;>cases valV c.Min <;>cases valV c.Max <;>cases decide (c.Min.Kind=c.Max.Kind) <;>cases decide (cmpV c.Min c.Max≤0) <;>rfl
theorem zE3 (s:Stats):zpo s=(true,okS s):=by
 unfold zpo zut okS
 have el:decide (Int.ofNat s.Columns.length>(16:Int))= !decide (s.Columns.length≤16):=by
  rw [show decide (Int.ofNat s.Columns.length>(16:Int))=decide (s.Columns.length>16) from zEc _ 16,zKM]
 simp only [Wy.fin_i,Wy.fin_bn,Wy.fin_k,zF7 s.Rows 0,zF8 s.Rows 1000000,el]
 by_cases hl:s.Columns.length≤16
 ·have h:=zFr (W:=zn8) (z:=.inl default) s.Columns.length (fun i=>((),(i:Int),())) (fun _=>(s,())) (fun i=>okC (s.Columns.getD i default) s.Rows) (.inl false) (.inr ()) (fun i hi H K D=>by
    show (zk8 i s).ev H K D=_
    unfold zk8
    simp only [Wy.ev_i,Wy.ev_k,Wy.ev_h,Wy.ev_bn,Wy.ev_d,tT,hi,zzV,zjx (show i<4611686018427387904 by omega)]
    cases okC (s.Columns.getD i default) s.Rows <;>rfl) (fun H K D=>by
    show (zk8 s.Columns.length s).ev H K D=_
    unfold zk8
    simp only [Wy.ev_i,Wy.ev_k,Wy.ev_h,Wy.ev_bn,Wy.ev_d,tT,Nat.lt_irrefl]) (Int.toNat (0:Int)+s.Columns.length+(1:Nat)) (by omega)
  replace h:zy9 (Int.toNat (0:Int)+s.Columns.length+(1:Nat)) 0 s=_:=h
  rw [h,zFs (fun c=>okC c s.Rows),decide_eq_true hl]
  cases decide (0≤s.Rows) <;>cases decide (s.Rows≤1000000) <;>try rfl
  cases s.Columns.all (fun c=>okC c s.Rows) <;>rfl
 ·rw [decide_eq_false hl]
  cases decide (0≤s.Rows) <;>cases decide (s.Rows≤1000000) <;>rfl
def qP (d:Int):Int:=if Int.tdiv 1000 d>1 then Int.tdiv 1000 d else 1
theorem zGx {d:Int} (h:1≤d):0≤Int.tdiv 1000 d∧Int.tdiv 1000 d≤1000:=by
 rw [Int.tdiv_eq_ediv_of_nonneg (by omega)]
 exact ⟨Int.ediv_nonneg (by omega) (by omega),Int.ediv_le_self _ (by omega)⟩
theorem zEB {d:Int} (h:1≤d):1≤qP d∧qP d≤1000:=by
 have:=zGx h
 unfold qP; split <;>omega
theorem zED {d:Int} (h:1≤d):(if IntKind.i64.wrap (Int.tdiv (1000:Int) d)>(1:Int) then IntKind.i64.wrap (Int.tdiv (1000:Int) d) else (1:Int))=qP d:=by
 have:=zGx h
 rw [zkj (by omega) (by omega)]; rfl
def eqP (s:Stats) (k:Nat) (v:Value):Int:=
 if s.Rows=0 then 0 else if cmpV v (s.Columns.getD k default).Min<0 then 0 else if cmpV v (s.Columns.getD k default).Max>0 then 0 else qP (s.Columns.getD k default).Distinct
def ltP (s:Stats) (k:Nat) (v:Value):Int:=((125*((s.Columns.getD k default).Bounds.filter fun b=>decide (cmpV b v<0)).length:Nat):Int)
def leP (s:Stats) (k:Nat) (v:Value):Int:=if ltP s k v+eqP s k v<1000 then ltP s k v+eqP s k v else 1000
def zmT (s:Stats) (op:Int) (k:Nat) (v:Value):Int:=
 if op=5 then eqP s k v else if op=6 then 1000 - eqP s k v else if op=7 then ltP s k v else if op=8 then leP s k v else if op=9 then 1000 - leP s k v else 1000 - ltP s k v
def maxP (a b:Int):Int:=if b>a then b else a
def zpP (s:Stats) (op:Int) (a b:Nat):Int:=
 let n:=if s.Rows>0 then qP (maxP (s.Columns.getD a default).Distinct (s.Columns.getD b default).Distinct) else 0
 if op=5 then n else if op=6 then 1000 - n else 333
def mirP (op:Int):Int:=if op=7 then 9 else if op=8 then 10 else if op=9 then 7 else if op=10 then 8 else op
def hasP (s:Stats) (k:Int):Bool:=decide (0≤k)&&decide (k<(s.Columns.length:Int))
def cmpP (s:Stats) (op:Int) (x y:Scalar):Int:=
 if (x.Kind=1∧hasP s x.Column=false)∨(y.Kind=1∧hasP s y.Column=false) then 333
 else if x.Kind=1∧y.Kind=0 then zmT s op x.Column.toNat y.Value
 else if x.Kind=0∧y.Kind=1 then zmT s (mirP op) y.Column.toNat x.Value
 else if x.Kind=1∧y.Kind=1 then zpP s op x.Column.toNat y.Column.toNat
 else 333
def yesV:Value:=⟨2,1,ByteArray.mk #[]⟩
def estP (s:Stats):Nat→Scalar→Int
 | 0,_=>0
 | n+1,e=>
  if e.Kind=0 then (if e.Value=yesV then 1000 else 0)
  else if e.Kind=1 then (if hasP s e.Column then eqP s e.Column.toNat yesV else 333)
  else if e.Kind≠2 then 333
  else if e.Op=13∧e.Args.length=1 then 1000 - estP s n (e.Args.getD 0 default)
  else if e.Args.length≠2 then 333
  else if e.Op=11 then Int.tdiv (estP s n (e.Args.getD 0 default)*estP s n (e.Args.getD 1 default)) 1000
  else if e.Op=12 then estP s n (e.Args.getD 0 default)+estP s n (e.Args.getD 1 default) - Int.tdiv (estP s n (e.Args.getD 0 default)*estP s n (e.Args.getD 1 default)) 1000
  else if e.Op<5∨e.Op>10 then 333
  else cmpP s e.Op (e.Args.getD 0 default) (e.Args.getD 1 default)
theorem zvr {s:Stats} (h:okS s=true):0≤s.Rows∧s.Rows≤1000000∧s.Columns.length≤16∧∀ c∈s.Columns,okC c s.Rows=true:=by
 unfold okS at h
 simp only [Bool.and_eq_true,decide_eq_true_eq,List.all_eq_true] at h
 exact ⟨h.1,h.2.1,h.2.2.1,h.2.2.2⟩
theorem zJm {c:ColumnStats} (h:okC c 0=true):c.Distinct=0∧c.Min=zV∧c.Max=zV∧c.Bounds=[]:=by
 unfold okC at h
 rw [if_pos rfl] at h
 simp only [Bool.and_eq_true,decide_eq_true_eq] at h
 exact ⟨h.1,h.2.1,h.2.2.1,List.length_eq_zero_iff.1 h.2.2.2⟩
theorem zvp {c:ColumnStats} {r:Int} (hr:r≠0) (h:okC c r=true):1≤c.Distinct∧c.Distinct≤r∧valV c.Min=true∧valV c.Max=true∧c.Min.Kind=c.Max.Kind∧cmpV c.Min c.Max≤0∧c.Bounds.length=8∧c.Bounds.getD 7 default=c.Max∧(∀ b∈c.Bounds,zpR c.Min.Kind b=true)∧cmpV c.Min (c.Bounds.getD 0 default)≤0∧allN (srtB c.Bounds) c.Bounds.length 0=true:=by
 unfold okC at h
 rw [if_neg hr] at h
 simp only [Bool.and_eq_true,decide_eq_true_eq,List.all_eq_true] at h
 exact ⟨h.1,h.2.1,h.2.2.1,h.2.2.2.1,h.2.2.2.2.1,h.2.2.2.2.2.1,h.2.2.2.2.2.2.1,h.2.2.2.2.2.2.2.1,h.2.2.2.2.2.2.2.2.1,h.2.2.2.2.2.2.2.2.2.1,h.2.2.2.2.2.2.2.2.2.2⟩
theorem zBY {s:Stats} (h:okS s=true) {k:Nat} (hk:k<s.Columns.length):(s.Columns.getD k default).Bounds.length≤8:=by
 obtain ⟨h1,h2,h3,h4⟩:=zvr h
 have hc:=h4 _ (zfr hk)
 by_cases h0:s.Rows=0
 ·rw [h0] at hc; rw [(zJm hc).2.2.2]; simp
 ·rw [(zvp h0 hc).2.2.2.2.2.2.1]; exact Nat.le_refl _
theorem zyZ {s:Stats} (h:okS s=true) {k:Nat} (hk:k<s.Columns.length) (v:Value):0≤ltP s k v∧ltP s k v≤1000:=by
 have h1:=zBY h hk
 have h2:=List.length_filter_le (fun b=>decide (cmpV b v<0)) (s.Columns.getD k default).Bounds
 unfold ltP
 omega
theorem zvq {s:Stats} (h:okS s=true) {k:Nat} (hk:k<s.Columns.length) (v:Value):0≤eqP s k v∧eqP s k v≤1000:=by
 obtain ⟨h1,h2,h3,h4⟩:=zvr h
 have hc:=h4 _ (zfr hk)
 unfold eqP
 by_cases h0:s.Rows=0
 ·rw [if_pos h0]; omega
 ·have:=zEB (zvp h0 hc).1
  rw [if_neg h0]
  split
  ·omega
  ·split <;>omega
theorem zHF {s:Stats} (h:okS s=true) {k:Nat} (hk:k<s.Columns.length) (v:Value):0≤leP s k v∧leP s k v≤1000:=by
 have h1:=zyZ h hk v
 have h2:=zvq h hk v
 unfold leP; split <;>omega
theorem zDX {s:Stats} (h:okS s=true) {k:Nat} (hk:k<s.Columns.length) (op:Int) (v:Value):0≤zmT s op k v∧zmT s op k v≤1000:=by
 have h1:=zyZ h hk v
 have h2:=zvq h hk v
 have h3:=zHF h hk v
 unfold zmT; repeat' split
 all_goals omega
theorem zIv {s:Stats} (h:okS s=true) {a b:Nat} (ha:a<s.Columns.length) (hb:b<s.Columns.length) (op:Int):0≤zpP s op a b∧zpP s op a b≤1000:=by
 obtain ⟨h1,h2,h3,h4⟩:=zvr h
 have hc:=h4 _ (zfr ha)
 unfold zpP
 by_cases h0:s.Rows>0
 ·have hd:=(zvp (by omega) hc).1
  have hq:=zEB (d:=maxP (s.Columns.getD a default).Distinct (s.Columns.getD b default).Distinct) (by unfold maxP; split <;>omega)
  simp only [if_pos h0]
  repeat' split
  all_goals omega
 ·simp only [if_neg h0]
  repeat' split
  all_goals omega
theorem zAe {s:Stats} {k:Int}:hasP s k=true↔0≤k∧k.toNat<s.Columns.length:=by
 unfold hasP; simp only [Bool.and_eq_true,decide_eq_true_eq]; omega
theorem zJy {s:Stats} (h:okS s=true) (op:Int) (x y:Scalar):0≤cmpP s op x y∧cmpP s op x y≤1000:=by
 unfold cmpP
 split
 ·omega
 ·rename_i hn
  have hx:x.Kind=1→x.Column.toNat<s.Columns.length:=fun e=>by
   refine (zAe.1 ?_).2
   cases hh:hasP s x.Column with
   | true=>rfl
   | false=>exact absurd (.inl ⟨e,hh⟩) hn
  have hy:y.Kind=1→y.Column.toNat<s.Columns.length:=fun e=>by
   refine (zAe.1 ?_).2
   cases hh:hasP s y.Column with
   | true=>rfl
   | false=>exact absurd (.inr ⟨e,hh⟩) hn
  split
  ·rename_i e; exact zDX h (hx e.1) _ _
  ·split
   ·rename_i e; exact zDX h (hy e.2) _ _
   ·split
    ·rename_i e; exact zIv h (hx e.1) (hy e.2) _
    ·omega
theorem zEH {a b:Int} (ha:0≤a∧a≤1000) (hb:0≤b∧b≤1000):0≤a*b∧a*b≤1000000∧0≤Int.tdiv (a*b) 1000∧Int.tdiv (a*b) 1000≤a∧Int.tdiv (a*b) 1000≤b∧a+b - Int.tdiv (a*b) 1000≤1000:=by
 have h0:0≤a*b:=Int.mul_nonneg ha.1 hb.1
 have h1:a*b≤a*1000:=Int.mul_le_mul_of_nonneg_left hb.2 ha.1
 have h2:a*b≤1000*b:=Int.mul_le_mul_of_nonneg_right ha.2 hb.1
 have h3:0≤(1000 - a)*(1000 - b):=Int.mul_nonneg (by omega) (by omega)
 have h4:(1000 - a)*(1000 - b)=1000000 - 1000*a - 1000*b+a*b:=by
  rw [Int.sub_mul,Int.mul_sub,Int.mul_sub]; omega
 rw [Int.tdiv_eq_ediv_of_nonneg h0]
 refine ⟨h0,by omega,Int.ediv_nonneg h0 (by omega),by omega,by omega,by omega⟩
theorem zvy {s:Stats} (h:okS s=true):∀ (n:Nat) (e:Scalar),0≤estP s n e∧estP s n e≤1000
 | 0,_=>by simp [estP]
 | n+1,e=>by
  have h1:=zvy h n (e.Args.getD 0 default)
  have h2:=zvy h n (e.Args.getD 1 default)
  have h3:=zEH h1 h2
  have h4:=zJy h e.Op (e.Args.getD 0 default) (e.Args.getD 1 default)
  unfold estP
  split
  ·split <;>omega
  ·split
   ·split
    ·rename_i hh; exact zvq h (zAe.1 hh).2 _
    ·omega
   ·repeat' split
    all_goals omega
theorem zBR (s:Stats):∀ (d n m:Nat) (e:Scalar),zg4 d e→d≤n→d≤m→estP s n e=estP s m e
 | 0,_,_,_,h,_,_=>h.elim
 | d+1,0,_,_,_,h,_=>by omega
 | d+1,_,0,_,_,_,h=>by omega
 | d+1,n+1,m+1,e,h,hn,hm=>by
  have hx:∀ i,i<e.Args.length→estP s n (e.Args.getD i default)=estP s m (e.Args.getD i default):=fun i hi=>zBR s d n m _ (h.2 _ (zfr hi)) (by omega) (by omega)
  unfold estP
  by_cases h1:e.Args.length=1
  ·rw [hx 0 (by omega)]
   simp [h1]
  ·by_cases h2:e.Args.length=2
   ·rw [hx 0 (by omega),hx 1 (by omega)]
   ·simp [h1,h2]
theorem ge0 (k:Int):decide (k≥(0:Int))=decide (0≤k):=rfl
theorem zBi (s:Stats) (k:Int):zlX s k=(true,hasP s k):=by
 unfold zlX zxz hasP
 rw [Wy.fin_i,ge0]
 by_cases h:0≤k
 ·rw [decide_eq_true h]; rfl
 ·rw [decide_eq_false h]; rfl
theorem zEK (s:Stats) (k:Nat) (v:Value) (hk:k<s.Columns.length) (hb:(s.Columns.getD k default).Bounds.length≤1000):
  ∀ (n i m:Nat),(s.Columns.getD k default).Bounds.length<i+n→i≤(s.Columns.getD k default).Bounds.length→m≤125*i→
   ztz n k m i s v=(true,((m+125*(((s.Columns.getD k default).Bounds.drop i).filter fun b=>decide (cmpV b v<0)).length:Nat):Int))
 | 0,i,m,h,h2,_=>by omega
 | n+1,i,m,h,h2,h3=>by
  show (zxM k m i s v).ev (fun x y=>ztz n x.1 x.2.2.2.1 x.2.2.2.2.1 y.1 y.2.1) (fun r=>(true,r)) (false,default)=_
  unfold zxM
  by_cases hi:i<(s.Columns.getD k default).Bounds.length
  ·have hw:IntKind.i64.wrap ((m:Int)+(125:Int))=((m+125:Nat):Int):=by
    rw [zkj (by omega) (by omega)]; rfl
   simp only [Wy.ev_i,Wy.ev_k,Wy.ev_h,Wy.ev_bn,Wy.ev_d,tT,hi,hk,ref01_Compare_eq',hw,zjx (show i<4611686018427387904 by omega)]
   rw [zs4 hi]
   by_cases hx:cmpV ((s.Columns.getD k default).Bounds.getD i default) v<0
   ·rw [decide_eq_true hx,cond_true,zEK s k v hk hb n (i+1) (m+125) (by omega) (by omega) (by omega),List.filter_cons_of_pos (by simpa using hx),List.length_cons]
    congr 2; omega
   ·rw [decide_eq_false hx,cond_false,zEK s k v hk hb n (i+1) m (by omega) (by omega) (by omega),List.filter_cons_of_neg (by simpa using hx)]
  ·simp only [Wy.ev_i,Wy.ev_k,Wy.ev_h,Wy.ev_bn,Wy.ev_d,tT,hi,hk,zta hi]
   rfl
theorem zxU {s:Stats} (h:okS s=true) {k:Nat} (hk:k<s.Columns.length) (v:Value):zpZ s k v=(true,ltP s k v):=by
 have hb:=zBY h hk
 have hz:∀ (n:Nat),(s.Columns.getD k default).Bounds.length<n→ztz n k 0 0 s v=(true,ltP s k v):=fun n hn=>by
  have:=zEK s k v hk (by omega) n 0 0 (by omega) (by omega) (by omega)
  rw [List.drop_zero,Nat.zero_add] at this
  exact this
 unfold zpZ zzx
 rw [Wy.fin_bn,hz _ (by omega)]
 rfl
theorem zE5 {s:Stats} {k:Nat} (hk:k<s.Columns.length):(decide ((0:Int)≤(k:Int))&&decide ((k:Int)<Int.ofNat s.Columns.length))=true:=by
 simp only [tT,hk]
theorem zxK {s:Stats} (h:okS s=true) {k:Nat} (hk:k<s.Columns.length) (v:Value):zkV s k v=(true,eqP s k v):=by
 obtain ⟨h1,h2,h3,h4⟩:=zvr h
 have hc:=h4 _ (zfr hk)
 unfold zkV zva eqP
 simp only [Wy.fin_i,Wy.fin_bn,Wy.fin_k,zE5 hk,cond_true,Int.toNat_natCast,ref01_Compare_eq',beqd]
 by_cases h0:s.Rows=0
 ·rw [decide_eq_true h0,if_pos h0]; rfl
 ·have hd:=(zvp h0 hc).1
  have hne:¬ (s.Columns.getD k default).Distinct=0:=by omega
  rw [decide_eq_false h0,if_neg h0,decide_eq_false hne,zED hd]
  by_cases g1:cmpV v (s.Columns.getD k default).Min<0
  ·rw [decide_eq_true g1,if_pos g1]; rfl
  ·rw [decide_eq_false g1,if_neg g1]
   by_cases g2:cmpV v (s.Columns.getD k default).Max>0
   ·rw [decide_eq_true g2,if_pos g2]; rfl
   ·rw [decide_eq_false g2,if_neg g2]; rfl
theorem zCw {s:Stats} (h:okS s=true) {k:Nat} (hk:k<s.Columns.length) (v:Value):ztr s k v=(true,leP s k v):=by
 have h1:=zyZ h hk v
 have h2:=zvq h hk v
 unfold ztr zzs leP
 rw [Wy.fin_bn,zxU h hk,cond_true,Wy.fin_bn,zxK h hk,cond_true,Wy.fin_k,zkj (by omega) (by omega)]
theorem zzz {x:Int} (h:0≤x∧x≤1000):IntKind.i64.wrap ((1000:Int) - x)=1000 - x:=zkj (by omega) (by omega)
theorem zCq {s:Stats} (h:okS s=true) (op:Int) {k:Nat} (hk:k<s.Columns.length) (v:Value):zg1 s op k v=(true,zmT s op k v):=by
 unfold zg1 zmp zmT
 simp only [Wy.fin_i,Wy.fin_bn,Wy.fin_k,zxU h hk,zxK h hk,zCw h hk,cond_true,beqd,zzz (zvq h hk v),zzz (zyZ h hk v),zzz (zHF h hk v)]
 by_cases h5:op=5
 ·rw [decide_eq_true h5,if_pos h5]; rfl
 ·rw [decide_eq_false h5,if_neg h5,cond_false]
  by_cases h6:op=6
  ·rw [decide_eq_true h6,if_pos h6]; rfl
  ·rw [decide_eq_false h6,if_neg h6,cond_false]
   by_cases h7:op=7
   ·rw [decide_eq_true h7,if_pos h7]; rfl
   ·rw [decide_eq_false h7,if_neg h7,cond_false]
    by_cases h8:op=8
    ·rw [decide_eq_true h8,if_pos h8]; rfl
    ·rw [decide_eq_false h8,if_neg h8,cond_false]
     by_cases h9:op=9
     ·rw [decide_eq_true h9,if_pos h9]; rfl
     ·rw [decide_eq_false h9,if_neg h9]; rfl
theorem zDH (op:Int):znQ op=(true,mirP op):=by
 unfold znQ ztb mirP
 simp only [Wy.fin_i,Wy.fin_k,beqd]
 by_cases h7:op=7
 ·rw [decide_eq_true h7,if_pos h7]; rfl
 ·rw [decide_eq_false h7,if_neg h7,cond_false]
  by_cases h8:op=8
  ·rw [decide_eq_true h8,if_pos h8]; rfl
  ·rw [decide_eq_false h8,if_neg h8,cond_false]
   by_cases h9:op=9
   ·rw [decide_eq_true h9,if_pos h9]; rfl
   ·rw [decide_eq_false h9,if_neg h9,cond_false]
    by_cases h10:op=10
    ·rw [decide_eq_true h10,if_pos h10]; rfl
    ·rw [decide_eq_false h10,if_neg h10]; rfl
theorem zDe {s:Stats} (h:okS s=true) (op:Int) {a b:Nat} (ha:a<s.Columns.length) (hb:b<s.Columns.length):zkl s op a b=(true,zpP s op a b):=by
 obtain ⟨h1,h2,h3,h4⟩:=zvr h
 have hca:=h4 _ (zfr ha)
 unfold zkl zr3 zpP
 simp only [Wy.fin_i,Wy.fin_k,zE5 ha,zE5 hb,cond_true,Int.toNat_natCast,beqd,bne0]
 by_cases h0:s.Rows>0
 ·have hd:=(zvp (by omega) hca).1
  have hm:(if (s.Columns.getD b default).Distinct>(s.Columns.getD a default).Distinct then (s.Columns.getD b default).Distinct else (s.Columns.getD a default).Distinct)=maxP (s.Columns.getD a default).Distinct (s.Columns.getD b default).Distinct:=rfl
  have hm1:1≤maxP (s.Columns.getD a default).Distinct (s.Columns.getD b default).Distinct:=by unfold maxP; split <;>omega
  have hne:¬ maxP (s.Columns.getD a default).Distinct (s.Columns.getD b default).Distinct=0:=by omega
  have hq:=zEB hm1
  simp only [hm,zED hm1,decide_eq_true h0,decide_eq_false hne,if_pos h0,cond_true,Bool.not_false,zzz (show 0≤qP (maxP (s.Columns.getD a default).Distinct (s.Columns.getD b default).Distinct)∧qP (maxP (s.Columns.getD a default).Distinct (s.Columns.getD b default).Distinct)≤1000 by omega)]
  by_cases h5:op=5
  ·have h6:¬ op=6:=by omega
   simp [h5]
  ·by_cases h6:op=6
   ·simp [h6]
   ·simp [h5,h6]
 ·simp only [decide_eq_false h0,if_neg h0,cond_false]
  by_cases h5:op=5
  ·simp [h5]
  ·by_cases h6:op=6
   ·simp [h6]; rfl
   ·simp [h5,h6]
theorem zDR (l:List Value) (m:Int) (hl:l.length≤roomLen):∀ (n i:Nat),l.length<i+n→i≤l.length→∃ r,zts n l m i=(true,r)∧(r=.inl false∨(r=.inr (l,m)∧∀ x∈l.drop i,x.Text.size≤300))
 | 0,i,h,h2=>by omega
 | n+1,i,h,h2=>by
  show ∃ r,(ztq l m i).ev (fun x y=>zts n x.1 x.2.1 x.2.2.1) (fun r=>(true,r)) (false,.inl default)=(true,r)∧_
  unfold ztq
  by_cases hi:i<l.length
  ·have hw:i<4611686018427387904:=by
    have:roomLen<4611686018427387904:=by decide
    omega
   have hs:decide (((l.getD i default).Text.size:Int)>(300:Int))=decide ((l.getD i default).Text.size>300):=zEc _ 300
   simp only [Wy.ev_i,Wy.ev_k,Wy.ev_h,Wy.ev_bn,Wy.ev_d,tT,hi]
   rw [hs]
   by_cases h3:(l.getD i default).Text.size>300
   ·rw [decide_eq_true h3]
    exact ⟨_,rfl,.inl rfl⟩
   ·rw [decide_eq_false h3,cond_false,zjx hw]
    obtain ⟨r,h4,h5⟩:=zDR l m hl n (i+1) (by omega) (by omega)
    refine ⟨r,h4, ?_⟩
    rcases h5 with h5 | ⟨h5,h6⟩
    ·exact .inl h5
    ·refine .inr ⟨h5,fun x hx=> ?_⟩
     rw [zs4 hi] at hx
     rcases List.mem_cons.1 hx with rfl | hx
     ·omega
     ·exact h6 x hx
  ·simp only [Wy.ev_i,Wy.ev_k,Wy.ev_h,Wy.ev_bn,Wy.ev_d,tT,hi]
   exact ⟨_,rfl,.inr ⟨rfl,fun x hx=>by rw [zta hi] at hx; cases hx⟩⟩
theorem zJh (l:List Value) (m:Nat) (hl:l.length≤roomLen):∃ b,zm0 l m=(true,b)∧(b=true→l.length≤m∧∀ x∈l,x.Text.size≤300):=by
 unfold zm0 zuv
 obtain ⟨r,h1,h2⟩:=zDR l m hl (l.length+(m:Int).toNat +Int.toNat (0:Int)+(1:Nat)) 0 (by omega) (by omega)
 rw [show ((0:Nat):Int)=(0:Int) from rfl] at h1
 rw [Wy.fin_bn,h1]
 rcases h2 with rfl | ⟨rfl,h2⟩
 ·exact ⟨false,rfl,fun h=>by cases h⟩
 ·refine ⟨decide (l.length≤m), ?_,fun h=>⟨of_decide_eq_true h,h2⟩⟩
  show (true,decide (Int.ofNat l.length≤(m:Int)))=_
  rw [show decide (Int.ofNat l.length≤(m:Int))=decide (l.length≤m) from zvK _ _]
def zKP (s:Stats):Prop:=s.Columns.length≤20∧∀ c∈s.Columns,c.Bounds.length≤20
theorem zEg (s:Stats) (hs:wf30 s):∀ (n i:Nat),s.Columns.length<i+n→i≤s.Columns.length→∃ r,zwf n i s=(true,r)∧(r=.inl false∨(r=.inr s∧∀ c∈s.Columns.drop i,c.Bounds.length≤20))
 | 0,i,h,h2=>by omega
 | n+1,i,h,h2=>by
  show ∃ r,(zwp i s).ev (fun x y=>zwf n x.2.1 y.1) (fun r=>(true,r)) (false,.inl default)=(true,r)∧_
  unfold zwp
  by_cases hi:i<s.Columns.length
  ·have hw:i<4611686018427387904:=by
    have:=hs.2.2.2
    have:roomLen<4611686018427387904:=by decide
    omega
   have hc:=hs.2.2.1 _ (zfr hi)
   obtain ⟨b,hb,hb2⟩:=zJh (s.Columns.getD i default).Bounds 20 hc.2.2.2.2
   replace hb:zm0 (s.Columns.getD i default).Bounds (20:Int)=(true,b):=hb
   simp only [Wy.ev_i,Wy.ev_k,Wy.ev_h,Wy.ev_bn,Wy.ev_d,tT,hi,hb]
   cases b with
   | false=>exact ⟨_,rfl,.inl rfl⟩
   | true=>
    simp only [Bool.not_true,cond_false]
    generalize decide (IntKind.i64.wrap _>(600:Int))=q
    cases q with
    | true=>exact ⟨_,rfl,.inl rfl⟩
    | false=>
     rw [cond_false,zjx hw]
     obtain ⟨r,h4,h5⟩:=zEg s hs n (i+1) (by omega) (by omega)
     refine ⟨r,h4, ?_⟩
     rcases h5 with h5 | ⟨h5,h6⟩
     ·exact .inl h5
     ·refine .inr ⟨h5,fun x hx=> ?_⟩
      rw [zs4 hi] at hx
      rcases List.mem_cons.1 hx with rfl | hx
      ·exact (hb2 rfl).1
      ·exact h6 x hx
  ·simp only [Wy.ev_i,Wy.ev_k,Wy.ev_h,Wy.ev_bn,Wy.ev_d,tT,hi]
   exact ⟨_,rfl,.inr ⟨rfl,fun x hx=>by rw [zta hi] at hx; cases hx⟩⟩
theorem zJv (s:Stats) (hs:wf30 s):∃ b,zuf s=(true,b)∧(b=true→zKP s):=by
 unfold zuf zxN
 obtain ⟨r,h1,h2⟩:=zEg s hs (Int.toNat (0:Int)+s.Columns.length+(1:Nat)) 0 (by omega) (by omega)
 rw [show ((0:Nat):Int)=(0:Int) from rfl] at h1
 rw [Wy.fin_bn,h1]
 rcases h2 with rfl | ⟨rfl,h2⟩
 ·exact ⟨false,rfl,fun h=>by cases h⟩
 ·refine ⟨decide (s.Columns.length≤20), ?_,fun h=>⟨of_decide_eq_true h,h2⟩⟩
  show (true,decide (Int.ofNat s.Columns.length≤(20:Int)))=_
  rw [show decide (Int.ofNat s.Columns.length≤(20:Int))=decide (s.Columns.length≤20) from zvK _ 20]
end Go.Proofs.YtddkaehkimnklaaGreatDoor
end
