/- Texts of this claim, joined (the program, its functions in plain words, and what they compute). -/
import Derived.Test.YtddkaehkimnklaaGreatDoorGC1
import Derived.Test.YtddkaehkimnklaaGreatDoorGA3
import Derived.Test.YtddkaehkimnklaaGreatDoorGC3
import Derived.Test.YtddkaehkimnklaaGreatDoorGC4
import Derived.Test.YtddkaehkimnklaaGreatDoorGC2
import Derived.Test.YtddkaehkimnklaaGreatDoorGB1
set_option autoImplicit false
set_option linter.unusedVariables false
set_option linter.unusedSectionVars false
set_option linter.unusedSimpArgs false
set_option maxRecDepth 1000000
set_option maxHeartbeats 0
noncomputable section
namespace Go.Proofs.YtddkaehkimnklaaGreatDoor
open Go Go.Ab
def zAG:Cx ty:=mkCx base 31 [(33,zr6)] [] [] [] [] []
def zn6 (a:ColumnStats) (b:ColumnStats):Wy0 (Bool):=.i (a.Distinct==b.Distinct) (.i (a.Min.Kind==b.Min.Kind&&(a.Min.Int==b.Min.Int&&(a.Min.Text.toList==b.Min.Text.toList&&true))) (.i (a.Max.Kind==b.Max.Kind&&(a.Max.Int==b.Max.Int&&(a.Max.Text.toList==b.Max.Text.toList&&true))) (.bn (zsb a.Bounds b.Bounds) fun r0=>.k r0) (.k false)) (.k false)) (.k false)
def zjT (a:ColumnStats) (b:ColumnStats):Bool×Bool:=(zn6 a b).fin default
def zrE (r:Bool):ARes ty:=⟨[.pure (.lit (.bool r))],[]⟩
def zt3:AL base (ColumnStats×ColumnStats×Unit):=zf (zg (vAgg 43)) (zf (zg (vAgg 43)) aNil)
def zqX:Ab.Spec ty:=zk zt3 fun x=>((zjT x.1 x.2.1).1,zrE (zjT x.1 x.2.1).2)
theorem zxO:Sound Tryz.prog base 37 zqX:=
 zr (cx':=zAG) zF zm zB (zu ⟨zvR,trivial⟩) Tryz.call37 Tryz.func37 (c:=body Tryz.f37) (by kernel_rfl) (zh (l:=[]) (by kernel_rfl) trivial) (sg:=⟨[.pure],[]⟩) (A:=zt3) (res:=zrE) (W:=fun x=>zn6 x.1 x.2.1) (z:=default)
abbrev ttTref37Same0:=Unit×Unit×Int×Unit
abbrev ttTref37Same1:=Stats×Stats×Unit
def zmU (i:Int) (a:Stats) (b:Stats):Wy ttTref37Same0 ttTref37Same1 (Bool⊕Unit):=.i (decide (i<Int.ofNat a.Columns.length)) (.i (decide (0≤i)&&decide (i<Int.ofNat a.Columns.length)) (.i (decide (0≤i)&&decide (i<Int.ofNat b.Columns.length)) (.bn (zjT (a.Columns.getD i.toNat default) (b.Columns.getD i.toNat default)) fun r0=>.i (!r0) (.k (.inl false)) (.h ((),(),(IntKind.i64.wrap (i+1)),()) (a,b,()))) .d) .d) (.k (.inr ()))
def zp1 (x:ttTref37Same0) (y:ttTref37Same1):Wy ttTref37Same0 ttTref37Same1 (Bool⊕Unit):=zmU x.2.2.1 y.1 y.2.1
def zAa (n:Nat) (i:Int) (a:Stats) (b:Stats):Bool×(Bool⊕Unit):=zP (zp1) (.inl default) n ((),(),i,()) (a,b,())
def zy6 (r:Bool⊕Unit):LTree ty:=.ite (isL r) (.done .ret [.lit (.bool (getL r))] []) (.done (.exit 0) [] [])
def zAn:LL ty ttTref37Same0:=za (zbW 184 0) (za (zbW 185 0) (za (lInt .i64) zD))
def zAb:BL ty ttTref37Same1:=bBox (zdP (fun x=>(⟨x.1,x.2.1,x.2.2.1⟩:Stats)) (fun x=>(x.Table,x.Rows,x.Columns,())) (fun _=>rfl) (za (lInt .i64) (za (lInt .i64) (za (lSl 43) zD)))) false (bBox (zdP (fun x=>(⟨x.1,x.2.1,x.2.2.1⟩:Stats)) (fun x=>(x.Table,x.Rows,x.Columns,())) (fun _=>rfl) (za (lInt .i64) (za (lInt .i64) (za (lSl 43) zD)))) false (bNil))
def zyf (x:ttTref37Same0) (y:ttTref37Same1):Nat:=(Int.toNat x.2.2.1+y.1.Columns.length+y.2.1.Columns.length+1)
def zAB:Cx ty:=mkCx base 46 [(37,zqX)] [] [(4,[(2,.keep),(3,.keep),(5,.keep)])] [(4,1,[]),(4,0,[(4,.keep)])] [(4,spW zAn zAb (zp1) (.inl default) zy6 zyf)] []
theorem zEe:zW zAB (lp (body Tryz.f13) 0):=zK (id:=4) (V:=zAn) (B:=zAb) (W:=zp1) (z:=.inl default) (tr:=zy6) (m:=zyf)
def zvH (a:Stats) (b:Stats):Wy0 (Bool):=.i (a.Table != b.Table) (.k false) (.i (a.Rows != b.Rows) (.k false) (.i (Int.ofNat a.Columns.length != Int.ofNat b.Columns.length) (.k false) (.bn (zAa (Int.toNat 0+a.Columns.length+b.Columns.length+1) 0 a b) fun r2=>.i (isL r2) (.k (getL r2)) (.k true))))
def zrR (a:Stats) (b:Stats):Bool×Bool:=(zvH a b).fin default
def zyC (r:Bool):ARes ty:=⟨[.pure (.lit (.bool r))],[]⟩
def zBo:AL base ttTref37Same1:=zf (zg (vAgg 30)) (zf (zg (vAgg 30)) aNil)
def zw6:Ab.Spec ty:=zk zBo fun x=>((zrR x.1 x.2.1).1,zyC (zrR x.1 x.2.1).2)
theorem zCx:Sound Tryz.prog base 13 zw6:=
 zr (cx':=zAB) zF zm zB (zu ⟨zxO,trivial⟩) Tryz.call13 Tryz.func13 (c:=body Tryz.f13) (by kernel_rfl) (zh (l:=[lp (body Tryz.f13) 0]) (by kernel_rfl) ⟨zEe,trivial⟩) (sg:=⟨[.pure],[]⟩) (A:=zBo) (res:=zyC) (W:=fun x=>zvH x.1 x.2.1) (z:=default)
def zbL:Cx ty:={ base with nt:=8 }
def zX (s:List ColumnStats):Bool×List ColumnStats:=(decide (s.length*96≤reach),s)
def zeT:Ab.Spec ty:=zk (cx:=base) (zf (zg (vSl 43)) aNil) fun x=>((zX x.1).1,⟨[.own 43 (zX x.1).2],[]⟩)
theorem zjB:ze9 zbL Tryz.f50 (body Tryz.f50) ⟨[.own 43],[]⟩ [.pure (.lit (.slice none 0 0))]=some ⟨[.own 43 []],[]⟩:=by kernel_rfl
theorem zi3 (p:Addr) (c:Nat):ze9 zbL Tryz.f50 (body Tryz.f50) ⟨[.own 43],[]⟩ [.pure (.lit (.slice (some p) 0 c))]=some ⟨[.own 43 []],[]⟩:=by kernel_rfl
theorem zjm (l:List ColumnStats):ze9 zbL Tryz.f50 (body Tryz.f50) ⟨[.own 43],[]⟩ [.pure (.sl 43 l)]=bif !l.isEmpty then bif decide ((([]:List (ty 43)).length+l.length)*96≤reach) then some ⟨[.own 43 l],[]⟩ else none else none:=by kernel_rfl
theorem zi8:Sound Tryz.prog base 50 zeT:=
 ztt (cx':=zbL) (bytes:=96) zF zm ⟨⟨rfl,rfl,rfl,rfl,rfl,rfl⟩,rfl⟩ (fun g s h=>by cases h) Tryz.call50 Tryz.func50 (c:=body Tryz.f50) (by kernel_rfl) (zh (l:=[]) (by kernel_rfl) trivial) zjB zi3 zjm (by kernel_rfl)
def zzc:Cx ty:=mkCx base 8 [] [] [] [] [] []
def zmy (s:Stats) (p1:Int):Wy0 (Bool):=.k (s.Table==p1)
def zg9 (s:Stats) (p1:Int):Bool×Bool:=(zmy s p1).fin default
def zpE (r:Bool):ARes ty:=⟨[.pure (.lit (.bool r))],[]⟩
def zrI:AL base (Stats×(Int×Unit)×Unit):=zf (zg (vAgg 30)) (zf (zg (vBox (zno (vInt .i64) vNil))) aNil)
def zkb:Ab.Spec ty:=zk zrI fun x=>((zg9 x.1 x.2.1.1).1,zpE (zg9 x.1 x.2.1.1).2)
theorem zn1:Sound Tryz.prog base 49 zkb:=
 zr (cx':=zzc) zF zm zB (zu trivial) Tryz.call49 Tryz.func49 (c:=body Tryz.f49) (by kernel_rfl) (zh (l:=[]) (by kernel_rfl) trivial) (sg:=⟨[.pure],[]⟩) (A:=zrI) (res:=zpE) (W:=fun x=>zmy x.1 x.2.1.1) (z:=default)
abbrev ttTslicesIndexFuncLapiStatsapiStatsf0:=List Stats×((Int×Unit)×Unit)×Int×Int×Unit
def zlD (s:List Stats) (f:Int) (t7:Int) (t8:Int):Wy ttTslicesIndexFuncLapiStatsapiStatsf0 (Unit) (Int⊕Unit):=.i (decide (t8<t7)) (.i (decide (0≤t8)&&decide (t8<Int.ofNat s.length)) (.i ((zg9 (s.getD t8.toNat default) f).2) (.k (.inl t8)) (.h (s,((f,()),()),t7,(IntKind.i64.wrap (t8+1)),()) ())) .d) (.k (.inr ()))
def zdv (x:ttTslicesIndexFuncLapiStatsapiStatsf0) (y:Unit):Wy ttTslicesIndexFuncLapiStatsapiStatsf0 (Unit) (Int⊕Unit):=zlD x.1 x.2.1.1.1 x.2.2.1 x.2.2.2.1
def zly (n:Nat) (s:List Stats) (f:Int) (t7:Int) (t8:Int):Bool×(Int⊕Unit):=zP (zdv) (.inl default) n (s,((f,()),()),t7,t8,()) ()
def zgV (r:Int⊕Unit):LTree ty:=.ite (isL r) (.done .ret [.lit (.int .i64 (getL r))] []) (.done (.exit 0) [] [])
def zg4:LL ty ttTslicesIndexFuncLapiStatsapiStatsf0:=za (lSl 30) (za (lFn 49 (za (zBw (za (lInt .i64) zD) 0) zD)) (za (lInt .i64) (za (lInt .i64) zD)))
def zha:BL ty (Unit):=bNil
def zgT (x:ttTslicesIndexFuncLapiStatsapiStatsf0) (y:Unit):Nat:=(x.1.length+Int.toNat x.2.1.1.1+Int.toNat x.2.2.1+Int.toNat x.2.2.2.1+1000)
def zg5:Cx ty:=mkCx base 19 [(49,zkb)] [] [(2,[(0,.keep),(1,.keep),(7,.keep),(8,.keep)])] [(2,1,[]),(2,0,[(4,.keep)])] [(2,spW zg4 zha (zdv) (.inl default) zgV zgT)] []
theorem zkV:zW zg5 (lp (body Tryz.f48) 0):=zK (id:=2) (V:=zg4) (B:=zha) (W:=zdv) (z:=.inl default) (tr:=zgV) (m:=zgT)
def zhe (s:List Stats) (f:Int):Wy0 (Int):=.bn (zly (s.length+f.toNat +(Int.ofNat s.length).toNat +Int.toNat 0+1000) s f (Int.ofNat s.length) 0) fun r0=>.i (isL r0) (.k (getL r0)) (.k (-1:Int))
def zbO (s:List Stats) (f:Int):Bool×Int:=(zhe s f).fin default
def zgR (r:Int):ARes ty:=⟨[.pure (.lit (.int .i64 r))],[]⟩
def zhf:AL base (List Stats×((Int×Unit)×Unit)×Unit):=zf (zg (vSl 30)) (zf (zg (vFn 49 (zno (vBox (zno (vInt .i64) vNil)) vNil))) aNil)
def zgD:Ab.Spec ty:=zk zhf fun x=>((zbO x.1 x.2.1.1.1).1,zgR (zbO x.1 x.2.1.1.1).2)
theorem zkw:Sound Tryz.prog base 48 zgD:=
 zr (cx':=zg5) zF zm zB (zu ⟨zn1,trivial⟩) Tryz.call48 Tryz.func48 (c:=body Tryz.f48) (by kernel_rfl) (zh (l:=[lp (body Tryz.f48) 0]) (by kernel_rfl) ⟨zkV,trivial⟩) (sg:=⟨[.pure],[]⟩) (A:=zhf) (res:=zgR) (W:=fun x=>zhe x.1 x.2.1.1.1) (z:=default)
abbrev ttTstatisticsFind0:=Unit×Unit×Int×Int×Unit
abbrev ttTstatisticsFind1:=(Int×Int×Unit×Unit)×(Int×Int×Unit×Unit)×List ColumnStats×Unit
abbrev ttTstatisticsFind2:=Int×Int×Int×Int×List ColumnStats
def zn8 (t25:Int) (t26:Int) (t4_0:Int) (t4_1:Int) (s_0:Int) (s_1:Int) (b2:List ColumnStats):Wy ttTstatisticsFind0 ttTstatisticsFind1 ttTstatisticsFind2:=.i (decide (t26<t25)) (.i (decide (0≤t26)&&decide (t26<Int.ofNat b2.length)) (.bn (zbS (b2.getD t26.toNat default).Bounds) fun r0=>.i (decide (0≤t26)&&decide (t26<Int.ofNat b2.length)) (.i (decide (t26.toNat<b2.length)) (.h ((),(),t25,(IntKind.i64.wrap (t26+1)),()) ((t4_0,t4_1,(),()),(s_0,s_1,(),()),(b2.set t26.toNat (ColumnStats.mk (b2.getD t26.toNat default).Distinct (b2.getD t26.toNat default).Min (b2.getD t26.toNat default).Max r0)),())) .d) .d) .d) (.k (t4_0,t4_1,s_0,s_1,b2))
def zio (x:ttTstatisticsFind0) (y:ttTstatisticsFind1):Wy ttTstatisticsFind0 ttTstatisticsFind1 ttTstatisticsFind2:=zn8 x.2.2.1 x.2.2.2.1 y.1.1 y.1.2.1 y.2.1.1 y.2.1.2.1 y.2.2.1
def ziu (n:Nat) (t25:Int) (t26:Int) (t4_0:Int) (t4_1:Int) (s_0:Int) (s_1:Int) (b2:List ColumnStats):Bool×ttTstatisticsFind2:=zP (zio) default n ((),(),t25,t26,()) ((t4_0,t4_1,(),()),(s_0,s_1,(),()),b2,())
def zsy (r:ttTstatisticsFind2):LTree ty:=.done (.exit 0) [.ptr 172 0,.ptr 173 0] [.box ([.lit (.int .i64 r.1),.lit (.int .i64 r.2.1),.lit (.slice none 0 0)]) false,.box ([.lit (.int .i64 r.2.2.1),.lit (.int .i64 r.2.2.2.1),.own 174]) false,.arr 43 r.2.2.2.2 false]
def zub:LL ty ttTstatisticsFind0:=za (zbW 172 0) (za (zbW 173 0) (za (lInt .i64) (za (lInt .i64) zD)))
def zua:BL ty ttTstatisticsFind1:=bBox (za (lInt .i64) (za (lInt .i64) (za lNil zD))) false (bBox (za (lInt .i64) (za (lInt .i64) (za (lOwn 174) zD))) false (bArr 43 false (bNil)))
def zsr (x:ttTstatisticsFind0) (y:ttTstatisticsFind1):Nat:=(Int.toNat x.2.2.1+Int.toNat x.2.2.2.1+Int.toNat y.1.1+Int.toNat y.1.2.1+Int.toNat y.2.1.1+Int.toNat y.2.1.2.1+y.2.2.1.length+1000)
def zud:Cx ty:=mkCx base 43 [(48,zgD),(49,zkb),(50,zeT),(51,zeC)] [] [(7,[(4,.keep),(7,.keep),(25,.keep),(26,.keep)])] [(7,1,[(4,.keep),(7,.keep)])] [(7,spW zub zua (zio) default zsy zsr)] []
theorem zAL:zW zud (lp (body Tryz.f22) 0):=zK (id:=7) (V:=zub) (B:=zua) (W:=zio) (z:=default) (tr:=zsy) (m:=zsr)
def zpc (l:List Stats) (table:Int):Wy0 (Stats×Bool):=.bn (zbO l table) fun r4=>.i (decide (r4<0)) (.k ((⟨0,0,[]⟩:Stats),false)) (.i (decide (0≤r4)&&decide (r4<Int.ofNat l.length)) (.bn (zX (l.getD r4.toNat default).Columns) fun r3=>.bn (ziu ((Int.ofNat r3.length).toNat +Int.toNat 0+Int.toNat 0+Int.toNat 0+(l.getD r4.toNat default).Table.toNat +(l.getD r4.toNat default).Rows.toNat +r3.length+1000) (Int.ofNat r3.length) 0 0 0 (l.getD r4.toNat default).Table (l.getD r4.toNat default).Rows r3) fun r2=>.k ((⟨r2.2.2.1,r2.2.2.2.1,r2.2.2.2.2⟩:Stats),true)) .d)
def zko (l:List Stats) (table:Int):Bool×(Stats×Bool):=(zpc l table).fin default
def zsB (r:Stats×Bool):ARes ty:=⟨[.pure (.agg (base.enc 30 r.1)),.pure (.lit (.bool r.2))],[]⟩
def zuR:AL base (List Stats×Int×Unit):=zf (zg (vSl 30)) (zf (zg (vInt .i64)) aNil)
def zsg:Ab.Spec ty:=zk zuR fun x=>((zko x.1 x.2.1).1,zsB (zko x.1 x.2.1).2)
theorem zya:Sound Tryz.prog base 22 zsg:=
 zr (cx':=zud) zF zm zB (zu ⟨zkw,zn1,zi8,zhD,trivial⟩) Tryz.call22 Tryz.func22 (c:=body Tryz.f22) (by kernel_rfl) (zh (l:=[lp (body Tryz.f22) 0]) (by kernel_rfl) ⟨zAL,trivial⟩) (sg:=⟨[.pure,.pure],[]⟩) (A:=zuR) (res:=zsB) (W:=fun x=>zpc x.1 x.2.1) (z:=default)
abbrev ttTlaw37StatisticsValidity0:=Unit×Unit×Bool×Unit×Bool×Unit×Unit×Int×Unit
abbrev ttTlaw37StatisticsValidity1:=Stats×Stats×Stats×List ByteArray×List ByteArray×Unit
abbrev ttTlaw37StatisticsValidity2:=Bool⊕(Bool×Bool×Stats×Stats×Stats)
abbrev ttTlaw37StatisticsValidity3:=Unit×Unit×Bool×Unit×Bool×Unit×Unit×Unit
abbrev ttTlaw37StatisticsValidity4:=Int×Unit×Unit×Unit
abbrev ttTlaw37StatisticsValidity5:=Stats×Stats×Unit
def zhX (ok:Bool) (is:Bool) (i:Int) (a:Stats) (s:Stats) (w:Stats) (l:List ByteArray) (m:List ByteArray):Wy ttTlaw37StatisticsValidity0 ttTlaw37StatisticsValidity1 ttTlaw37StatisticsValidity2:=.i (decide (i<Int.ofNat l.length)) (.i (decide (0≤i)&&decide (i<Int.ofNat l.length)) (.i (decide (0≤i)&&decide (i<Int.ofNat m.length)) (.i (!ByteArray.toList (l.getD i.toNat default)==ByteArray.toList (m.getD i.toNat default)) (.k (.inl false)) (.h ((),(),ok,(),is,(),(),(IntKind.i64.wrap (i+1)),()) (a,s,w,l,m,()))) .d) .d) (.k (.inr (ok,is,a,s,w)))
def zfI (x:ttTlaw37StatisticsValidity0) (y:ttTlaw37StatisticsValidity1):Wy ttTlaw37StatisticsValidity0 ttTlaw37StatisticsValidity1 ttTlaw37StatisticsValidity2:=zhX x.2.2.1 x.2.2.2.2.1 x.2.2.2.2.2.2.2.1 y.1 y.2.1 y.2.2.1 y.2.2.2.1 y.2.2.2.2.1
def zh4 (n:Nat) (ok:Bool) (is:Bool) (i:Int) (a:Stats) (s:Stats) (w:Stats) (l:List ByteArray) (m:List ByteArray):Bool×ttTlaw37StatisticsValidity2:=zP (zfI) (.inl default) n ((),(),ok,(),is,(),(),i,()) (a,s,w,l,m,())
def zkM (r:ttTlaw37StatisticsValidity2):LTree ty:=.ite (isL r) (.done .ret [.lit (.bool (getL r))] []) (.done (.exit 0) [.ptr 316 0,.ptr 317 0,.lit (.bool (getR r).1),.ptr 318 0,.lit (.bool (getR r).2.1)] [.box (base.enc 30 (getR r).2.2.1) false,.box (base.enc 30 (getR r).2.2.2.1) false,.box (base.enc 30 (getR r).2.2.2.2) false])
def zk7:LL ty ttTlaw37StatisticsValidity0:=za (zbW 316 0) (za (zbW 317 0) (za zFg (za (zbW 318 0) (za zFg (za (lOwn 319) (za (lOwn 320) (za (lInt .i64) zD)))))))
def zk5:BL ty ttTlaw37StatisticsValidity1:=bBox (zdP (fun x=>(⟨x.1,x.2.1,x.2.2.1⟩:Stats)) (fun x=>(x.Table,x.Rows,x.Columns,())) (fun _=>rfl) (za (lInt .i64) (za (lInt .i64) (za (lSl 43) zD)))) false (bBox (zdP (fun x=>(⟨x.1,x.2.1,x.2.2.1⟩:Stats)) (fun x=>(x.Table,x.Rows,x.Columns,())) (fun _=>rfl) (za (lInt .i64) (za (lInt .i64) (za (lSl 43) zD)))) false (bBox (zdP (fun x=>(⟨x.1,x.2.1,x.2.2.1⟩:Stats)) (fun x=>(x.Table,x.Rows,x.Columns,())) (fun _=>rfl) (za (lInt .i64) (za (lInt .i64) (za (lSl 43) zD)))) false (bArr 9 false (bArr 9 false (bNil)))))
def zh1 (ok:Bool) (is:Bool) (a:Stats) (s:Stats) (w:Stats) (l:List ByteArray) (m:List ByteArray):Wy ttTlaw37StatisticsValidity3 ttTlaw37StatisticsValidity1 (Bool):=.bn (zh4 (Int.toNat 0+a.Columns.length+s.Columns.length+w.Columns.length+l.length+m.length+1000) ok is 0 a s w l m) fun r3=>.i (isL r3) (.k (getL r3)) (.bn (zgZ (getR r3).2.2.1) fun r2=>.bn (zm7 (getR r3).2.2.1) fun r1=>.i (r2==r1) (.i ((getR r3).1==(getR r3).2.1) (.bn (zrR (getR r3).2.2.2.1 (getR r3).2.2.2.2) fun r0=>.k r0) (.k false)) (.k false))
def zfK (x:ttTlaw37StatisticsValidity3) (y:ttTlaw37StatisticsValidity1):Wy ttTlaw37StatisticsValidity3 ttTlaw37StatisticsValidity1 (Bool):=zh1 x.2.2.1 x.2.2.2.2.1 y.1 y.2.1 y.2.2.1 y.2.2.2.1 y.2.2.2.2.1
def zk2 (n:Nat) (ok:Bool) (is:Bool) (a:Stats) (s:Stats) (w:Stats) (l:List ByteArray) (m:List ByteArray):Bool×Bool:=zP (zfK) default n ((),(),ok,(),is,(),(),()) (a,s,w,l,m,())
def zkL (r:Bool):LTree ty:=.done .ret [.lit (.bool r)] []
def zk6:LL ty ttTlaw37StatisticsValidity3:=za (zbW 316 0) (za (zbW 317 0) (za zFg (za (zbW 318 0) (za zFg (za (lOwn 319) (za (lOwn 320) zD))))))
def zk4:BL ty ttTlaw37StatisticsValidity1:=bBox (zdP (fun x=>(⟨x.1,x.2.1,x.2.2.1⟩:Stats)) (fun x=>(x.Table,x.Rows,x.Columns,())) (fun _=>rfl) (za (lInt .i64) (za (lInt .i64) (za (lSl 43) zD)))) false (bBox (zdP (fun x=>(⟨x.1,x.2.1,x.2.2.1⟩:Stats)) (fun x=>(x.Table,x.Rows,x.Columns,())) (fun _=>rfl) (za (lInt .i64) (za (lInt .i64) (za (lSl 43) zD)))) false (bBox (zdP (fun x=>(⟨x.1,x.2.1,x.2.2.1⟩:Stats)) (fun x=>(x.Table,x.Rows,x.Columns,())) (fun _=>rfl) (za (lInt .i64) (za (lInt .i64) (za (lSl 43) zD)))) false (bArr 9 false (bArr 9 false (bNil)))))
def zij (table:Int) (a:Stats) (b:Stats):Wy ttTlaw37StatisticsValidity4 ttTlaw37StatisticsValidity5 (Bool):=.bn (zko [a,b] table) fun r12=>.bn (zrj [a,b] table) fun r11=>.bn (zi4 a) fun r10=>.bn (zn9 a) fun r9=>.i (Int.ofNat r10.length != Int.ofNat r9.length) (.k false) (.bn (zk2 1 r12.2 r11.2 a r12.1 r11.1 r10 r9) fun r8=>.k r8)
def zgl (x:ttTlaw37StatisticsValidity4) (y:ttTlaw37StatisticsValidity5):Wy ttTlaw37StatisticsValidity4 ttTlaw37StatisticsValidity5 (Bool):=zij x.1 y.1 y.2.1
def zlP (n:Nat) (table:Int) (a:Stats) (b:Stats):Bool×Bool:=zP (zgl) default n (table,(),(),()) (a,b,())
def zlm (r:Bool):LTree ty:=.done .ret [.lit (.bool r)] []
def zl9:LL ty ttTlaw37StatisticsValidity4:=za (lInt .i64) (za (zbW 316 0) (za (zbW 317 0) zD))
def zlM:BL ty ttTlaw37StatisticsValidity5:=bBox (zdP (fun x=>(⟨x.1,x.2.1,x.2.2.1⟩:Stats)) (fun x=>(x.Table,x.Rows,x.Columns,())) (fun _=>rfl) (za (lInt .i64) (za (lInt .i64) (za (lSl 43) zD)))) false (bBox (zdP (fun x=>(⟨x.1,x.2.1,x.2.2.1⟩:Stats)) (fun x=>(x.Table,x.Rows,x.Columns,())) (fun _=>rfl) (za (lInt .i64) (za (lInt .i64) (za (lSl 43) zD)))) false (bNil))
def zin (table:Int) (a:Stats) (b:Stats):Wy ttTlaw37StatisticsValidity4 ttTlaw37StatisticsValidity5 (Bool):=.bn (zqu a) fun r20=>.i (!r20) (.k true) (.bn (zqu b) fun r19=>.i (!r19) (.k true) (.bn (zlP 1 table a b) fun r18=>.k r18))
def zgq (x:ttTlaw37StatisticsValidity4) (y:ttTlaw37StatisticsValidity5):Wy ttTlaw37StatisticsValidity4 ttTlaw37StatisticsValidity5 (Bool):=zin x.1 y.1 y.2.1
def zl6 (n:Nat) (table:Int) (a:Stats) (b:Stats):Bool×Bool:=zP (zgq) default n (table,(),(),()) (a,b,())
def zlF (r:Bool):LTree ty:=.done .ret [.lit (.bool r)] []
def zlN:LL ty ttTlaw37StatisticsValidity4:=za (lInt .i64) (za (zbW 316 0) (za (zbW 317 0) zD))
def zlS:BL ty ttTlaw37StatisticsValidity5:=bBox (zdP (fun x=>(⟨x.1,x.2.1,x.2.2.1⟩:Stats)) (fun x=>(x.Table,x.Rows,x.Columns,())) (fun _=>rfl) (za (lInt .i64) (za (lInt .i64) (za (lSl 43) zD)))) false (bBox (zdP (fun x=>(⟨x.1,x.2.1,x.2.2.1⟩:Stats)) (fun x=>(x.Table,x.Rows,x.Columns,())) (fun _=>rfl) (za (lInt .i64) (za (lInt .i64) (za (lSl 43) zD)))) false (bNil))
def zkK (x:ttTlaw37StatisticsValidity0) (y:ttTlaw37StatisticsValidity1):Nat:=(Int.toNat x.2.2.2.2.2.2.2.1+y.1.Columns.length+y.2.1.Columns.length+y.2.2.1.Columns.length+y.2.2.2.1.length+y.2.2.2.2.1.length+1000)
def zdT:Cx ty:=zHQ base0 79 [(10,zwt),(13,zw6),(15,zg3),(17,zyp),(22,zsg),(23,zxw),(24,zkF),(25,zu9),(26,zp9)] [] [(11,[(3,.keep),(7,.keep),(8,.keep),(9,.keep),(10,.keep),(11,.keep),(12,.keep),(13,.keep)]),(3,[(2,.keep),(3,.keep),(4,.keep)]),(5,[(2,.keep),(3,.keep),(4,.keep)]),(10,[(3,.keep),(7,.keep),(8,.keep),(9,.keep),(10,.keep),(11,.keep),(12,.keep)])] [(11,1,[(3,.keep),(7,.keep),(8,.keep),(9,.keep),(10,.keep)]),(11,0,[(6,.keep)]),(3,0,[(6,.keep)]),(5,0,[(6,.keep)]),(10,0,[(6,.keep)])] [(11,spW zk7 zk5 (zfI) (.inl default) zkM zkK)] [] [(10,spW zk6 zk4 (zfK) default zkL fun x y=>(1)),(5,spW zl9 zlM (zgl) default zlm fun x y=>(1)),(3,spW zlN zlS (zgq) default zlF fun x y=>(1))]
theorem zsm:zW zdT (lp (body Tryz.f8) 0):=zK (id:=11) (V:=zk7) (B:=zk5) (W:=zfI) (z:=.inl default) (tr:=zkM) (m:=zkK)
theorem zsi:zzh zdT (jn (body Tryz.f8) 10):=zCI (id:=10) (V:=zk6) (B:=zk4) (W:=zfK) (z:=default) (tr:=zkL) (m:=fun x y=>(1))
theorem zsT:zzh zdT (jn (body Tryz.f8) 5):=zCI (id:=5) (V:=zl9) (B:=zlM) (W:=zgl) (z:=default) (tr:=zlm) (m:=fun x y=>(1))
theorem zsS:zzh zdT (jn (body Tryz.f8) 3):=zCI (id:=3) (V:=zlN) (B:=zlS) (W:=zgq) (z:=default) (tr:=zlF) (m:=fun x y=>(1))
def ziT (a:Stats) (b:Stats) (table:Int):Wy0 (Bool):=.bn (zl6 1 table a b) fun r24=>.k r24
def zdt (a:Stats) (b:Stats) (table:Int):Bool×Bool:=(ziT a b table).fin default
def zh3 (r:Bool):ARes ty:=⟨[.pure (.lit (.bool r))],[]⟩
def zmR:AL base0 (Stats×Stats×Int×Unit):=zf (zg (vAgg 30)) (zf (zg (vAgg 30)) (zf (zg (vInt .i64)) aNil))
def zhM:Ab.Spec ty:=zk zmR fun x=>((zdt x.1 x.2.1 x.2.2.1).1,zh3 (zdt x.1 x.2.1 x.2.2.1).2)
theorem zrP:Sound Tryz.prog base0 8 zhM:=
 zr (cx':=zdT) zF zs4 zJT (zI1 ⟨zB5,zCx.nodr,zib.nodr,zDC.nodr,zya.nodr,zCN.nodr,zoT,zA3.nodr,zuU.nodr,trivial⟩) Tryz.call8 Tryz.func8 (c:=body Tryz.f8) (by kernel_rfl) (zE5 (l:=[lp (body Tryz.f8) 0]) (by kernel_rfl) ⟨zsm,trivial⟩ (js:=[jn (body Tryz.f8) 3,jn (body Tryz.f8) 5,jn (body Tryz.f8) 10]) (by kernel_rfl) ⟨zsS,zsT,zsi,trivial⟩) (sg:=⟨[.pure],[]⟩) (A:=zmR) (res:=zh3) (W:=fun x=>ziT x.1 x.2.1 x.2.2.1) (z:=default)
def trV (v:Value):TT:=.l [.i v.Kind,.i v.Int,trB v.Text]
mutual
def zDW:Atom→TT
 | ⟨k,r,a,f,i,o,b⟩=>.l [.i k,.i r.Table,.i r.Seq,.l (zws a),.i f,.l (zs0 i),.i o,trV b]
def zzD:Factor→TT
 | ⟨x,e⟩=>.l [zDW x,.i e]
def zn7:List Factor→List TT
 | []=>[]
 | x::r=>zzD x::zn7 r
def zDg:Term→TT
 | ⟨c,fs⟩=>.l [.l (zn7 fs),.i c]
def zxi:List Term→List TT
 | []=>[]
 | x::r=>zDg x::zxi r
def zws:List (List Term)→List TT
 | []=>[]
 | x::r=>.l (zxi x)::zws r
def zDu:Weighted→TT
 | ⟨v,a⟩=>.l [trV v,.l (zxi a)]
def zs0:List Weighted→List TT
 | []=>[]
 | x::r=>zDu x::zs0 r
end
theorem zul:∀ a b:List UInt8,(a.map fun x=>TT.i (x.toNat:Int))=(b.map fun x=>TT.i (x.toNat:Int))→a=b
 | [],[]=>fun _=>rfl
 | [],_::_=>fun h=>by simp at h
 | _::_,[]=>fun h=>by simp at h
 | x::a,y::b=>fun h=>by
  simp only [List.map,List.cons.injEq,TT.i.injEq] at h
  rw [zul a b h.2,UInt8.toNat_inj.1 (Int.ofNat.inj h.1)]
theorem zEg {a b:Value} (h:trV a=trV b):a=b:=by
 obtain ⟨k,n,s⟩:=a; obtain ⟨k',n',s'⟩:=b
 simp only [trV,trB,TT.l.injEq,List.cons.injEq,TT.i.injEq,and_true] at h
 obtain ⟨rfl,rfl,h⟩:=h
 have:=zul _ _ h
 obtain ⟨⟨l⟩⟩:=s; obtain ⟨⟨l'⟩⟩:=s'
 simp only at this; subst this; rfl
mutual
theorem zHd:∀ a b:Atom,zDW a=zDW b→a=b
 | ⟨k,r,a,f,i,o,v⟩,⟨k',r',a',f',i',o',v'⟩=>fun h=>by
  simp only [zDW,TT.l.injEq,List.cons.injEq,TT.i.injEq,and_true] at h
  obtain ⟨rfl,h1,h2,h3,rfl,h4,rfl,h5⟩:=h
  obtain ⟨t,s⟩:=r; obtain ⟨t',s'⟩:=r'
  simp only at h1 h2; subst h1 h2
  rw [zDs a a' h3,zCu i i' h4,zEg h5]
theorem zFK:∀ a b:Factor,zzD a=zzD b→a=b
 | ⟨x,e⟩,⟨x',e'⟩=>fun h=>by
  simp only [zzD,TT.l.injEq,List.cons.injEq,TT.i.injEq,and_true] at h
  rw [zHd x x' h.1,h.2]
theorem zAt:∀ a b:List Factor,zn7 a=zn7 b→a=b
 | [],[]=>fun _=>rfl
 | [],_::_=>fun h=>by simp [zn7] at h
 | _::_,[]=>fun h=>by simp [zn7] at h
 | x::a,y::b=>fun h=>by
  simp only [zn7,List.cons.injEq] at h
  rw [zFK x y h.1,zAt a b h.2]
theorem zHu:∀ a b:Term,zDg a=zDg b→a=b
 | ⟨c,l⟩,⟨c',l'⟩=>fun h=>by
  simp only [zDg,TT.l.injEq,List.cons.injEq,TT.i.injEq,and_true] at h
  rw [zAt l l' h.1,h.2]
theorem zA9:∀ a b:List Term,zxi a=zxi b→a=b
 | [],[]=>fun _=>rfl
 | [],_::_=>fun h=>by simp [zxi] at h
 | _::_,[]=>fun h=>by simp [zxi] at h
 | x::a,y::b=>fun h=>by
  simp only [zxi,List.cons.injEq] at h
  rw [zHu x y h.1,zA9 a b h.2]
theorem zDs:∀ a b:List (List Term),zws a=zws b→a=b
 | [],[]=>fun _=>rfl
 | [],_::_=>fun h=>by simp [zws] at h
 | _::_,[]=>fun h=>by simp [zws] at h
 | x::a,y::b=>fun h=>by
  simp only [zws,List.cons.injEq,TT.l.injEq] at h
  rw [zA9 x y h.1,zDs a b h.2]
theorem zHx:∀ a b:Weighted,zDu a=zDu b→a=b
 | ⟨c,l⟩,⟨c',l'⟩=>fun h=>by
  simp only [zDu,TT.l.injEq,List.cons.injEq,and_true] at h
  rw [zEg h.1,zA9 l l' h.2]
theorem zCu:∀ a b:List Weighted,zs0 a=zs0 b→a=b
 | [],[]=>fun _=>rfl
 | [],_::_=>fun h=>by simp [zs0] at h
 | _::_,[]=>fun h=>by simp [zs0] at h
 | x::a,y::b=>fun h=>by
  simp only [zs0,List.cons.injEq] at h
  rw [zHx x y h.1,zCu a b h.2]
end
def zz0 (P:List Term→Prop) (x:Atom):Prop:=
 (x.Args.length≤1000000∧x.Items.length≤1000000∧x.Bound.Text.size≤1000000000000)∧(∀ a∈x.Args,P a)∧∀ w∈x.Items,w.Value.Text.size≤1000000000000∧P w.Ann
def zGE (P:List Term→Prop) (l:List Factor):Prop:=l.length≤1000000∧∀ f∈l,zz0 P f.Atom
def zoA:Nat→List Term→Prop
 | 0,_=>False
 | n+1,a=>a.length≤1000000∧∀ t∈a,zGE (zoA n) t.Factors
theorem zz0.imp {P Q:List Term→Prop} (h:∀ a,P a→Q a) {x:Atom} (hx:zz0 P x):zz0 Q x:=⟨hx.1,fun a ha=>h a (hx.2.1 a ha),fun w hw=>⟨(hx.2.2 w hw).1,h _ (hx.2.2 w hw).2⟩⟩
theorem zoA.succ:∀ (n:Nat) (a:List Term),zoA n a→zoA (n+1) a
 | 0,_,h=>h.elim
 | n+1,a,h=>⟨h.1,fun t ht=>⟨(h.2 t ht).1,fun f hf=>((h.2 t ht).2 f hf).imp (zoA.succ n)⟩⟩
theorem zoA.mono {n m:Nat} {a:List Term} (h:zoA n a) (hm:n≤m):zoA m a:=by
 obtain ⟨k,rfl⟩:=Nat.exists_eq_add_of_le hm
 clear hm
 induction k with
 | zero=>exact h
 | succ k ih=>exact zoA.succ _ _ ih
theorem zBi (x y:Int):zc5 x y=(true,cmpI x y):=by
 unfold zc5 zpd zkf zsa cmpI
 by_cases h1:x<y
 ·simp [h1,Wy.fin_i,Wy.fin_k]
 ·by_cases h2:y<x <;>simp [h1,h2,Wy.fin_i,Wy.fin_k]
theorem zzK (x y:Int):zhv x y=(true,cmpI x y):=by
 unfold zhv znf ziE zpe cmpI
 by_cases h1:x<y
 ·simp [h1,Wy.fin_i,Wy.fin_k]
 ·by_cases h2:y<x <;>simp [h1,h2,Wy.fin_i,Wy.fin_k]
def ztk:List Int→Int
 | []=>0
 | x::r=>if x=0 then ztk r else x
theorem zG9 (l:List Int) (hl:l.length≤1000000):∀ (n i:Nat),l.length<i+n→i≤l.length→∃ r,zuA n 0 l l.length i=(true,r)∧(r=.inl (ztk (l.drop i))∨(r=.inr 0∧ztk (l.drop i)=0))
 | 0,i,h,h2=>by omega
 | n+1,i,h,h2=>by
  show ∃ r,(zum 0 l l.length i).ev (fun x y=>zuA n x.1 x.2.1 x.2.2.1 x.2.2.2.1) (fun r=>(true,r)) (false,.inl default)=(true,r)∧_
  unfold zum
  by_cases hi:i<l.length
  ·simp only [Wy.ev_i,Wy.ev_k,Wy.ev_h,Int.ofNat_eq_natCast,zF7,zEi,decide_true,decide_false,Bool.and_self,Bool.true_and,Bool.and_true,cond_true,cond_false,Int.toNat_natCast,Bool.not_true,Bool.not_false,hi]
   obtain ⟨r,h1,h3⟩:=zG9 l hl n (i+1) (by omega) (by omega)
   rw [ztm hi,zev (by omega),h1]
   generalize l.getD i default=x
   by_cases hx:x=0
   ·have e:(x != 0)=false:=by simp [hx]
    simp only [e,cond_false,ztk,hx,if_true]
    exact ⟨r,rfl,h3⟩
   ·have e:(x != 0)=true:=by simp [hx]
    simp only [e,cond_true,ztk,hx,if_false]
    exact ⟨_,rfl,.inl rfl⟩
  ·simp only [Wy.ev_i,Wy.ev_k,Wy.ev_h,Int.ofNat_eq_natCast,zF7,zEi,decide_true,decide_false,Bool.and_self,Bool.true_and,Bool.and_true,cond_true,cond_false,Int.toNat_natCast,Bool.not_true,Bool.not_false,hi,zs2 hi]
   exact ⟨_,rfl,.inr ⟨rfl,rfl⟩⟩
theorem zE4 (l:List Int) (hl:l.length≤1000000):zji l=(true,ztk l):=by
 unfold zji zwf
 obtain ⟨r,h1,h2⟩:=zG9 l hl (Int.toNat 0+l.length+(Int.ofNat l.length).toNat +Int.toNat 0+1000) 0 (by simp; omega) (by omega)
 rw [show ((0:Nat):Int)=(0:Int) from rfl] at h1
 rw [Wy.fin_bn,show Int.ofNat l.length=(l.length:Int) from rfl] at *
 rw [h1]
 rw [List.drop_zero] at h2
 rcases h2 with rfl | ⟨rfl,h2⟩
 ·rfl
 ·rw [h2]; rfl
theorem zCi (s:ByteArray):∀ (n i:Nat) (r:List UInt8),s.size≤i+n→ByteArray.toList.loop s i r=r.reverse++s.data.toList.drop i
 | 0,i,r,h=>by
  rw [ByteArray.toList.loop,if_neg (by omega),List.drop_eq_nil_of_le (by rw [← Lib.size_eq]; omega),List.append_nil]
 | n+1,i,r,h=>by
  rw [ByteArray.toList.loop]
  by_cases hi:i<s.size
  ·have hi':i<s.data.toList.length:=by rw [← Lib.size_eq]; exact hi
   rw [if_pos hi,zCi s n (i+1) _ (by omega),List.drop_eq_getElem_cons hi',List.reverse_cons,List.append_assoc]
   congr 1
   have:s.get! i=s.data.toList[i]:=by
    have h':i<s.data.size:=hi
    show s.data[i]! =s.data.toList[i]
    rw [getElem!_pos s.data i h']; rfl
   rw [this]; rfl
  ·rw [if_neg hi,List.drop_eq_nil_of_le (by rw [← Lib.size_eq]; omega),List.append_nil]
theorem toList_eq (s:ByteArray):s.toList=s.data.toList:=by
 rw [ByteArray.toList,zCi s s.size 0 [] (by omega)]; rfl
theorem zxv {s t:ByteArray} (h:s.data.toList=t.data.toList):s=t:=by
 cases s; cases t
 congr 1
 exact Array.toList_inj.1 h
theorem zHg (s t:ByteArray):(s.toList==t.toList)=decide (s.data.toList=t.data.toList):=by
 rw [toList_eq,toList_eq]
 cases hb:(s.data.toList==t.data.toList) with
 | true=>rw [decide_eq_true (beq_iff_eq.1 hb)]
 | false=>rw [decide_eq_false (fun h=>by rw [beq_iff_eq.2 h] at hb; cases hb)]
theorem zBn (s t:ByteArray):(s.toList==t.toList)=decide (s=t):=by
 rw [zHg]
 by_cases h:s=t
 ·rw [decide_eq_true h,decide_eq_true (by rw [h])]
 ·rw [decide_eq_false h,decide_eq_false fun e=>h (zxv e)]
theorem bne0 (z w:Int):(z != w)= !decide (z=w):=by by_cases h:z=w <;>simp [h]
theorem zAv:∀ a b:List UInt8,Op.bytesLess a b=decide (Lib.compareBytes a b<0)
 | [],[]=>by simp [Op.bytesLess,Lib.compareBytes]
 | _::_,[]=>by simp [Op.bytesLess,Lib.compareBytes]
 | [],_::_=>by simp [Op.bytesLess,Lib.compareBytes]
 | x::a,y::b=>by
  simp only [Op.bytesLess,Lib.compareBytes]
  by_cases p:x<y
  ·simp [p]
  ·by_cases q:y<x
   ·have hne:¬ x=y:=fun e=>by subst e; exact p q
    simp [p,q,hne]
   ·have he:x=y:=UInt8.toNat_inj.1 (by rw [UInt8.lt_iff_toNat_lt] at p q; omega)
    subst he
    simp [p,zAv a b]
theorem zCT (a b:Value):zhx a b=(true,cmpT (trV a) (trV b)):=by
 unfold zhx zrB zmG zvJ
 rw [zBn,toList_eq,toList_eq,zAv,zGZ]
 simp only [trV,cmpT,cmpL,cmpI]
 simp only [Wy.fin_i,Wy.fin_bn,Wy.fin_k,cond_true,bne0]
 by_cases h1:a.Kind=b.Kind
 ·by_cases h2:a.Int=b.Int
  ·by_cases h3:a.Text=b.Text
   ·simp [h1,h2,h3,zEv]
   ·have h4:cmpT (trB a.Text) (trB b.Text)≠0:=fun e=>by
     have:=zul _ _ (TT.l.inj (zvw _ _ e))
     exact h3 (zxv this)
    have h5:=zFw (trB a.Text) (trB b.Text)
    simp only [trB,cmpT] at h4 h5
    simp only [trB,cmpT]
    rcases h5 with h5 | h5 | h5
    ·simp [h1,h2,h3,h5]
    ·exact absurd h5 h4
    ·simp [h1,h2,h3,h5]
  ·by_cases h3:a.Int<b.Int
   ·simp [h1,h2,h3]
   ·simp [h1,h2,h3,show b.Int<a.Int by omega]
 ·by_cases h3:a.Kind<b.Kind
  ·simp [h1,h3]
  ·simp [h1,h3,show b.Kind<a.Kind by omega]
theorem zCK (a b:Value):zbF a b=(true,cmpT (trV a) (trV b)):=by
 unfold zbF zrl
 have h:(strings_Compare a.Text b.Text).2=cmpT (trB a.Text) (trB b.Text):=by rw [← zGZ]; rfl
 simp only [zBi,zzK,Wy.fin_bn,cond_true,h]
 rw [zE4 _ (by simp)]
 simp only [Wy.fin_k,cond_true,trV,cmpT,cmpL,ztk]
 rfl
def allN (c:Nat→Bool):Nat→Nat→Bool
 | 0,_=>true
 | n+1,i=>c i&&allN c n (i+1)
theorem zFE {c:Nat→Bool}:∀ {n i},allN c n i=true↔∀ k,i≤k→k<i+n→c k=true
 | 0,i=>⟨fun _ k h1 h2=>by omega,fun _=>rfl⟩
 | n+1,i=>by
  simp only [allN,Bool.and_eq_true,zFE (n:=n)]
  constructor
  ·rintro ⟨h1,h2⟩ k h3 h4
   by_cases e:k=i
   ·rw [e]; exact h1
   ·exact h2 k (by omega) (by omega)
  ·intro h
   exact ⟨h i (by omega) (by omega),fun k h1 h2=>h k (by omega) (by omega)⟩
theorem zFt (c c':Nat→Bool):∀ n i,allN (fun k=>c k&&c' k) n i=(allN c n i&&allN c' n i)
 | 0,_=>rfl
 | n+1,i=>by
  simp only [allN,zFt c c' n (i+1)]
  cases c i <;>cases c' i <;>simp
theorem zGb {τ:Type} [Inhabited τ] (p:τ→Bool) (l:List τ):∀ n i,i+n=l.length→allN (fun k=>p (l.getD k default)) n i=(l.drop i).all p
 | 0,i,h=>by rw [zs2 (by omega)]; rfl
 | n+1,i,h=>by
  rw [ztm (by omega),List.all_cons]
  simp only [allN,zGb p l n (i+1) (by omega)]
theorem zEx {τ:Type} [Inhabited τ] (p:τ→Bool) (l:List τ):allN (fun k=>p (l.getD k default)) l.length 0=l.all p:=by
 rw [zGb p l _ _ (by omega),List.drop_zero]
section
variable {α β ρ:Type}
theorem zFu {W:α→β→Wy α β ρ} {z:ρ} (N:Nat) (ex:Nat→α) (ey:Nat→β) (c:Nat→Bool) (no yes:ρ)
  (h:∀ i,i<N→∀ (H:α→β→Bool×ρ) K D,(W (ex i) (ey i)).ev H K D=bif c i then H (ex (i+1)) (ey (i+1)) else K no)
  (he:∀ (H:α→β→Bool×ρ) K D,(W (ex N) (ey N)).ev H K D=K yes):
  ∀ n i,N<i+n→i≤N→zP W z n (ex i) (ey i)=(true,bif allN c (N - i) i then yes else no)
 | 0,i,h1,h2=>by omega
 | n+1,i,h1,h2=>by
  show (W (ex i) (ey i)).ev (zP W z n) (fun r=>(true,r)) (false,z)=_
  by_cases hi:i<N
  ·rw [h i hi,show N - i=(N - (i+1))+1 by omega]
   simp only [allN]
   cases c i with
   | false=>rfl
   | true=>rw [cond_true,zFu N ex ey c no yes h he n (i+1) (by omega) (by omega)]; rfl
  ·have:i=N:=by omega
   subst this
   rw [he,Nat.sub_self]; rfl
theorem zAW {W:α→β→Wy α β ρ} {z:ρ} (N:Nat) (ex:Nat→α) (ey:Nat→β) (c:Nat→Bool) (no yes:ρ)
  (h:∀ i,i<N→∀ (H:α→β→Bool×ρ) K D,(W (ex i) (ey i)).ev H K D=bif c i then H (ex (i+1)) (ey (i+1)) else K no)
  (he:∀ (H:α→β→Bool×ρ) K D,(W (ex N) (ey N)).ev H K D=K yes) (n:Nat) (hn:N<n):zP W z n (ex 0) (ey 0)=(true,bif allN c N 0 then yes else no):=by
 have:=zFu (z:=z) N ex ey c no yes h he n 0 (by omega) (by omega)
 simpa using this
end
def ixf {α:Type} (p:α→Bool):List α→Nat→Int
 | [],_=> -1
 | x::r,i=>bif p x then (i:Int) else ixf p r (i+1)
theorem zGL {α:Type} (p:α→Bool):∀ (l:List α) (i:Nat),decide (ixf p l i≥(0:Int))=l.any p
 | [],i=>by simp [ixf]
 | x::r,i=>by
  rw [List.any_cons]
  cases h:p x with
  | true=>simp [ixf,h]
  | false=>simpa [ixf,h] using zGL p r (i+1)
section
variable {α γ:Type} [Inhabited α]
def zHs (p:γ→α→Bool×Bool) (s:List α) (g:γ) (t7:Int) (t8:Int):Wy (List α×γ×Int×Int×Unit) (Unit) (Int⊕Unit):=.i (decide (t8<t7)) (.i (decide ((0:Int)≤t8)&&decide (t8<Int.ofNat s.length)) (.bn (p g (s.getD t8.toNat default)) fun r0=>.i (r0) (.k (.inl t8)) (.h (s,g,t7,(IntKind.i64.wrap (t8+(1:Int))),()) ())) .d) (.k (.inr ()))
def zKY (p:γ→α→Bool×Bool) (x:List α×γ×Int×Int×Unit) (y:Unit):Wy (List α×γ×Int×Int×Unit) (Unit) (Int⊕Unit):=zHs p x.1 x.2.1 x.2.2.1 x.2.2.2.1
def zHT (p:γ→α→Bool×Bool) (n:Nat) (s:List α) (g:γ) (t7:Int) (t8:Int):Bool×(Int⊕Unit):=zP (zKY p) (.inl default) n (s,g,t7,t8,()) ()
def IG (p:γ→α→Bool×Bool) (n:Nat) (g:γ) (s:List α):Bool×Int:=(.bn (zHT p n s g (Int.ofNat s.length) (0:Int)) fun r2=>.i (isL r2) (.k (getL r2)) (.k (-1:Int)):Wy0 Int).fin default
def zHE (p:γ→α→Bool×Bool) (s:List α) (g:γ) (t7:Int) (t8:Int):Wy (List α×γ×Int×Int×Unit) (Unit) (Int⊕Unit):=.i (decide (t8<t7)) (.i (decide ((0:Int)≤t8)&&decide (t8<Int.ofNat s.length)) (.i ((p g (s.getD t8.toNat default)).snd) (.k (.inl t8)) (.h (s,g,t7,(IntKind.i64.wrap (t8+(1:Int))),()) ())) .d) (.k (.inr ()))
def zKT (p:γ→α→Bool×Bool) (x:List α×γ×Int×Int×Unit) (y:Unit):Wy (List α×γ×Int×Int×Unit) (Unit) (Int⊕Unit):=zHE p x.1 x.2.1 x.2.2.1 x.2.2.2.1
def zHt (p:γ→α→Bool×Bool) (n:Nat) (s:List α) (g:γ) (t7:Int) (t8:Int):Bool×(Int⊕Unit):=zP (zKT p) (.inl default) n (s,g,t7,t8,()) ()
def IH (p:γ→α→Bool×Bool) (n:Nat) (g:γ) (s:List α):Bool×Int:=(.bn (zHt p n s g (Int.ofNat s.length) (0:Int)) fun r2=>.i (isL r2) (.k (getL r2)) (.k (-1:Int)):Wy0 Int).fin default
theorem zG5 (p:γ→α→Bool×Bool) (P:α→Bool) (g:γ) (s:List α) (hs:s.length≤1000000000) (hp:∀ x∈s,p g x=(true,P x)):∀ (n i:Nat),s.length<i+n→i≤s.length→
  ∃ r,zHT p n s g s.length i=(true,r)∧((r=.inl (ixf P (s.drop i) i))∨(r=.inr ()∧ixf P (s.drop i) i= -1))
 | 0,i,h,h2=>by omega
 | n+1,i,h,h2=>by
  show ∃ r,(zHs p s g s.length i).ev (fun x y=>zHT p n x.1 x.2.1 x.2.2.1 x.2.2.2.1) (fun r=>(true,r)) (false,.inl default)=(true,r)∧_
  unfold zHs
  by_cases hi:i<s.length
  ·simp only [Wy.ev_i,Wy.ev_k,Wy.ev_h,Wy.ev_bn,Wy.ev_d,tT,hi,hp _ (zms hi)]
   rw [ztm hi,zev (by omega)]
   simp only [ixf]
   cases P (s.getD i default) with
   | true=>exact ⟨_,rfl,.inl rfl⟩
   | false=>exact zG5 p P g s hs hp n (i+1) (by omega) (by omega)
  ·simp only [Wy.ev_i,Wy.ev_k,Wy.ev_h,Wy.ev_bn,Wy.ev_d,tT,hi,zs2 hi]
   exact ⟨_,rfl,.inr ⟨rfl,rfl⟩⟩
theorem zJg (p:γ→α→Bool×Bool) (P:α→Bool) (n:Nat) (g:γ) (s:List α) (hs:s.length≤1000000000) (hp:∀ x∈s,p g x=(true,P x)) (hn:s.length<n):IG p n g s=(true,ixf P s 0):=by
 unfold IG
 obtain ⟨r,h1,h2⟩:=zG5 p P g s hs hp n 0 (by omega) (by omega)
 rw [show ((0:Nat):Int)=(0:Int) from rfl] at h1
 rw [Wy.fin_bn,show Int.ofNat s.length=(s.length:Int) from rfl,h1]
 rw [List.drop_zero] at h2
 rcases h2 with rfl | ⟨rfl,h2⟩
 ·rfl
 ·rw [h2]; rfl
theorem zG0 (p:γ→α→Bool×Bool) (P:α→Bool) (g:γ) (s:List α) (hs:s.length≤1000000000) (hp:∀ x∈s,p g x=(true,P x)):∀ (n i:Nat),s.length<i+n→i≤s.length→
  ∃ r,zHt p n s g s.length i=(true,r)∧((r=.inl (ixf P (s.drop i) i))∨(r=.inr ()∧ixf P (s.drop i) i= -1))
 | 0,i,h,h2=>by omega
 | n+1,i,h,h2=>by
  show ∃ r,(zHE p s g s.length i).ev (fun x y=>zHt p n x.1 x.2.1 x.2.2.1 x.2.2.2.1) (fun r=>(true,r)) (false,.inl default)=(true,r)∧_
  unfold zHE
  by_cases hi:i<s.length
  ·simp only [Wy.ev_i,Wy.ev_k,Wy.ev_h,Wy.ev_bn,Wy.ev_d,tT,hi,hp _ (zms hi)]
   rw [ztm hi,zev (by omega)]
   simp only [ixf]
   cases P (s.getD i default) with
   | true=>exact ⟨_,rfl,.inl rfl⟩
   | false=>exact zG0 p P g s hs hp n (i+1) (by omega) (by omega)
  ·simp only [Wy.ev_i,Wy.ev_k,Wy.ev_h,Wy.ev_bn,Wy.ev_d,tT,hi,zs2 hi]
   exact ⟨_,rfl,.inr ⟨rfl,rfl⟩⟩
theorem zKG (p:γ→α→Bool×Bool) (P:α→Bool) (n:Nat) (g:γ) (s:List α) (hs:s.length≤1000000000) (hp:∀ x∈s,p g x=(true,P x)) (hn:s.length<n):IH p n g s=(true,ixf P s 0):=by
 unfold IH
 obtain ⟨r,h1,h2⟩:=zG0 p P g s hs hp n 0 (by omega) (by omega)
 rw [show ((0:Nat):Int)=(0:Int) from rfl] at h1
 rw [Wy.fin_bn,show Int.ofNat s.length=(s.length:Int) from rfl,h1]
 rw [List.drop_zero] at h2
 rcases h2 with rfl | ⟨rfl,h2⟩
 ·rfl
 ·rw [h2]; rfl
theorem zCv {α:Type} {s:List α} {P:α→Bool} {q:Bool×Int} (h:q=(true,ixf P s 0)):((.bn q fun r0=>.k (decide (r0≥(0:Int))):Wy0 Bool).fin default)=(true,s.any P):=by
 rw [h,Wy.fin_bn,cond_true,Wy.fin_k,zGL]
end
theorem beqd (a b:Int):(a==b)=decide (a=b):=by by_cases h:a=b <;>simp [h]
theorem beqn (a b:Nat):(a==b)=decide (a=b):=by by_cases h:a=b <;>simp [h]
theorem i0 (l:Nat):((l:Int)==0)=(l==0):=by
 rw [beqd,beqn]; congr 1; simp
theorem zKc (a b:Nat):decide (a>b)= !decide (a≤b):=by
 by_cases h:a≤b
 ·have:¬ a>b:=by omega
  simp [h,this]
 ·have:a>b:=by omega
  simp [h,this]
def valV (v:Value):Bool:=(v.Kind==0&&v.Text.size==0)||(v.Kind==1&&v.Int==0&&decide (v.Text.size≤255))||(v.Kind==2&&v.Text.size==0&&(v.Int==0||v.Int==1))
theorem zFB (s:ByteArray):(s.toList==(ByteArray.mk #[]).toList)=(s.size==0):=by
 rw [zBn]
 by_cases h:s.size=0
 ·have:s=ByteArray.mk #[]:=zxv (by
   have:s.data.toList.length=0:=by simpa using h
   rw [List.length_eq_zero_iff.1 this])
  subst this; rfl
 ·have:¬ s=ByteArray.mk #[]:=fun e=>h (by rw [e]; rfl)
  simp [h,this]
theorem ztj (v:Value):zgH v=(true,valV v):=by
 unfold zgH zuk valV
 simp only [zFB,Wy.fin_i,Wy.fin_k,beqd,beqn]
 have e:decide (Int.ofNat v.Text.size≤(255:Int))=decide (v.Text.size≤255):=zBm _ 255
 rw [e]
 by_cases h0:v.Kind=0
 ·simp [h0]
 ·by_cases h1:v.Kind=1
  ·by_cases h2:v.Int=0 <;>simp [h1,h2]
  ·by_cases h2:v.Kind=2
   ·by_cases h3:v.Int=0
    ·simp [h2,h3]
    ·by_cases h4:v.Int=1 <;>simp [h2,h3,h4]
   ·simp [h0,h1,h2]
theorem zth (v:Value):zjv v=(true,valV v):=by
 unfold zjv zuI valV
 simp only [zFB,Wy.fin_i,Wy.fin_k,beqd,beqn]
 have e:decide (Int.ofNat v.Text.size≤(255:Int))=decide (v.Text.size≤255):=zBm _ 255
 rw [e]
 by_cases h0:v.Kind=0
 ·simp [h0]
 ·by_cases h1:v.Kind=1
  ·by_cases h2:v.Int=0 <;>simp [h1,h2]
  ·by_cases h2:v.Kind=2
   ·by_cases h3:v.Int=0
    ·by_cases h4:v.Text.size=0 <;>simp [h2,h3,h4]
    ·by_cases h4:v.Text.size=0 <;>simp [h2,h3,h4]
   ·simp [h0,h1,h2]
theorem zED (c:Nat→Bool):∀ n i,allN c (n+1) i=(allN c n i&&c (i+n))
 | 0,i=>by simp [allN]
 | n+1,i=>by
  rw [allN,zED c n (i+1),allN,show i+1+n=i+(n+1) by omega,Bool.and_assoc]
def cmpV (a b:Value):Int:=cmpT (trV a) (trV b)
theorem zEL (a b:Value):cmpV b a= - cmpV a b:=zw5 _ _
theorem zH8 (a b:Value):cmpV a b=0↔a=b:=⟨fun h=>zEg (zvw _ _ h),fun h=>by subst h; exact zEv _⟩
theorem value_Compare_eq' (a b:Value):zbF a b=(true,cmpV a b):=zCK a b
theorem ref01_Compare_eq' (a b:Value):zhx a b=(true,cmpV a b):=zCT a b
end Go.Proofs.YtddkaehkimnklaaGreatDoor
namespace Go.Proofs.YtddkaehkimnklaaGreatDoor
open Go Go.Ab
end Go.Proofs.YtddkaehkimnklaaGreatDoor
namespace Go.Proofs.YtddkaehkimnklaaGreatDoor
open Go Go.Ab
end Go.Proofs.YtddkaehkimnklaaGreatDoor
/- Conditions as trees that are small: the reference's counts end. -/
namespace Go.Proofs.YtddkaehkimnklaaGreatDoor
open Go Go.Ab
def zvf:Nat→Scalar→Prop
 | 0,_=>False
 | n+1,e=>e.Args.length≤1000000∧∀ x∈e.Args,zvf n x
theorem zvf.succ:∀ (n:Nat) (e:Scalar),zvf n e→zvf (n+1) e
 | 0,_,h=>h.elim
 | n+1,e,h=>⟨h.1,fun x hx=>zvf.succ n x (h.2 x hx)⟩
theorem zvf.mono {n m:Nat} {e:Scalar} (h:zvf n e) (hm:n≤m):zvf m e:=by
 obtain ⟨k,rfl⟩:=Nat.exists_eq_add_of_le hm
 clear hm
 induction k with
 | zero=>exact h
 | succ k ih=>exact zvf.succ _ _ ih
end Go.Proofs.YtddkaehkimnklaaGreatDoor
namespace Go.Proofs.YtddkaehkimnklaaGreatDoor
open Go Go.Ab
def zV:Value:=⟨0,0,ByteArray.mk #[]⟩
theorem veq (a b:Value):(a.Kind==b.Kind&&(a.Int==b.Int&&(a.Text.toList==b.Text.toList&&true)))=decide (a=b):=by
 obtain ⟨k,n,s⟩:=a; obtain ⟨k',n',s'⟩:=b
 simp only [zBn,beqd,Bool.and_true,Value.mk.injEq]
 by_cases h1:k=k' <;>by_cases h2:n=n' <;>by_cases h3:s=s' <;>simp [h1,h2,h3]
theorem zJj (a:Value):(a.Kind==(0:Int)&&(a.Int==(0:Int)&&(a.Text.toList==(ByteArray.mk #[]).toList&&true)))=decide (a=zV):=veq a zV
def zoq (k:Int) (b:Value):Bool:=valV b&&decide (b.Kind=k)
def srtB (l:List Value) (k:Nat):Bool:=decide (k=0)||decide (cmpV (l.getD (k - 1) default) (l.getD k default)≤0)
def okC (c:ColumnStats) (rows:Int):Bool:=
 if rows=0 then decide (c.Distinct=0)&&(decide (c.Min=zV)&&(decide (c.Max=zV)&&decide (c.Bounds.length=0)))
 else decide (1≤c.Distinct)&&(decide (c.Distinct≤rows)&&(valV c.Min&&(valV c.Max&&(decide (c.Min.Kind=c.Max.Kind)&&(decide (cmpV c.Min c.Max≤0)&&(decide (c.Bounds.length=8)&&(decide (c.Bounds.getD 7 default=c.Max)&&
  (c.Bounds.all (zoq c.Min.Kind)&&(decide (cmpV c.Min (c.Bounds.getD 0 default)≤0)&&allN (srtB c.Bounds) c.Bounds.length 0)))))))))
def okS (s:Stats):Bool:=decide (0≤s.Rows)&&(decide (s.Rows≤1000000)&&(decide (s.Columns.length≤16)&&s.Columns.all fun c=>okC c s.Rows))
theorem zGn (a b:Int):decide (a<b)= !decide (b≤a):=by
 by_cases h:b≤a
 ·have:¬ a<b:=by omega
  simp [h,this]
 ·have:a<b:=by omega
  simp [h,this]
theorem zFL (a b:Int):decide (a>b)= !decide (a≤b):=zGn b a
theorem zIk (a b:Value):decide (cmpV a b>0)= !decide (cmpV a b≤0):=zFL _ _
theorem zJN (c:ColumnStats) (hc:c.Bounds.length=8) (n:Nat) (hn:8<n):
  zr9 n 0 c c.Min=(true,bif allN (fun i=>zoq c.Min.Kind (c.Bounds.getD i default)&&decide (cmpV (if i=0 then c.Min else c.Bounds.getD (i - 1) default) (c.Bounds.getD i default)≤0)) 8 0 then .inr () else .inl false):=by
 refine zAW (W:=zjn) (z:=.inl default) 8 (fun i=>((),(),(i:Int),())) (fun i=>(c,(if i=0 then c.Min else c.Bounds.getD (i - 1) default),())) _ (.inl false) (.inr ()) (fun i hi H K D=> ?_) (fun H K D=> ?_) n hn
 ·show (zjg i c (if i=0 then c.Min else c.Bounds.getD (i - 1) default)).ev H K D=_
  unfold zjg
  have h8:decide ((i:Int)<(8:Int))=true:=decide_eq_true (by omega)
  have hl:i<c.Bounds.length:=by omega
  have hk:((c.Bounds.getD i default).Kind != c.Min.Kind)= !decide ((c.Bounds.getD i default).Kind=c.Min.Kind):=bne0 _ _
  simp only [Wy.ev_i,Wy.ev_k,Wy.ev_h,Wy.ev_bn,Wy.ev_d,tT,h8,hl,zth,ref01_Compare_eq',hk,zoq,zIk,zev (show i<4611686018427387904 by omega),if_neg (show ¬ i+1=0 by omega),show i+1 - 1=i from rfl]
  cases valV (c.Bounds.getD i default) <;>cases decide ((c.Bounds.getD i default).Kind=c.Min.Kind) <;>cases decide (cmpV (if i=0 then c.Min else c.Bounds.getD (i - 1) default) (c.Bounds.getD i default)≤0) <;>rfl
 ·show (zjg ((8:Nat):Int) c _).ev H K D=_
  rfl
theorem zIR (c:ColumnStats) (hc:c.Bounds.length=8):allN (fun i=>zoq c.Min.Kind (c.Bounds.getD i default)&&decide (cmpV (if i=0 then c.Min else c.Bounds.getD (i - 1) default) (c.Bounds.getD i default)≤0)) 8 0=
  (c.Bounds.all (zoq c.Min.Kind)&&(decide (cmpV c.Min (c.Bounds.getD 0 default)≤0)&&allN (srtB c.Bounds) c.Bounds.length 0)):=by
 rw [zFt, ← hc,zEx,hc]
 congr 1
theorem zzm (c:ColumnStats) (rows:Int):zi9 c rows=(true,okC c rows):=by
 unfold zi9 znc okC
 by_cases h0:rows=0
 ·subst h0
  simp only [zJj]
  simp only [Wy.fin_i,Wy.fin_k,beqd,if_pos,decide_true,cond_true]
  have e:decide (Int.ofNat c.Bounds.length=(0:Int))=decide (c.Bounds.length=0):=by
   by_cases h:c.Bounds.length=0
   ·rw [h]; rfl
   ·rw [decide_eq_false h,decide_eq_false]; intro hc; exact h (Int.ofNat.inj hc)
  rw [e]
  cases decide (c.Distinct=0) <;>cases decide (c.Min=zV) <;>cases decide (c.Max=zV) <;>rfl
 ·have e8:(Int.ofNat c.Bounds.length != (8:Int))= !decide (c.Bounds.length=8):=by
   rw [bne0]
   congr 1
   by_cases h:c.Bounds.length=8
   ·rw [h]; rfl
   ·rw [decide_eq_false h,decide_eq_false]; intro hc; exact h (Int.ofNat.inj hc)
  have er:(rows==(0:Int))=false:=by rw [beqd,decide_eq_false h0]
  have z7:Int.toNat (7:Int)=7:=rfl
  simp only [veq]
  simp only [Wy.fin_i,Wy.fin_bn,Wy.fin_k,er,if_neg h0,cond_false,cond_true,zth,ref01_Compare_eq',zGn c.Distinct 1,zFL c.Distinct rows,zIk,bne0 c.Min.Kind,e8,z7]
  by_cases h8:c.Bounds.length=8
  ·have e7:(decide ((0:Int)≤(7:Int))&&decide ((7:Int)<Int.ofNat c.Bounds.length))=true:=by rw [h8]; rfl
   rw [e7,zJN c h8 _ (by rw [h8]; decide),zIR c h8,decide_eq_true h8]
   cases decide (1≤c.Distinct) <;>cases decide (c.Distinct≤rows) <;>cases valV c.Min <;>cases valV c.Max <;>cases decide (c.Min.Kind=c.Max.Kind) <;>cases decide (cmpV c.Min c.Max≤0) <;>try rfl
   cases decide (c.Bounds.getD 7 default=c.Max) <;>try rfl
   cases (c.Bounds.all (zoq c.Min.Kind)&&(decide (cmpV c.Min (c.Bounds.getD 0 default)≤0)&&allN (srtB c.Bounds) c.Bounds.length 0)) <;>rfl
  ·rw [decide_eq_false h8]
   cases decide (1≤c.Distinct) <;>cases decide (c.Distinct≤rows) <;>cases valV c.Min <;>cases valV c.Max <;>cases decide (c.Min.Kind=c.Max.Kind) <;>cases decide (cmpV c.Min c.Max≤0) <;>rfl
theorem zyU (s:Stats):zm7 s=(true,okS s):=by
 unfold zm7 zuD okS
 have el:decide (Int.ofNat s.Columns.length>(16:Int))= !decide (s.Columns.length≤16):=by
  rw [show decide (Int.ofNat s.Columns.length>(16:Int))=decide (s.Columns.length>16) from zDy _ 16,zKc]
 simp only [Wy.fin_i,Wy.fin_bn,Wy.fin_k,zGn s.Rows 0,zFL s.Rows 1000000,el]
 by_cases hl:s.Columns.length≤16
 ·have h:=zAW (W:=zov) (z:=.inl default) s.Columns.length (fun i=>((),(i:Int),())) (fun _=>(s,())) (fun i=>okC (s.Columns.getD i default) s.Rows) (.inl false) (.inr ()) (fun i hi H K D=>by
    show (zlb i s).ev H K D=_
    unfold zlb
    simp only [Wy.ev_i,Wy.ev_k,Wy.ev_h,Wy.ev_bn,Wy.ev_d,tT,hi,zzm,zev (show i<4611686018427387904 by omega)]
    cases okC (s.Columns.getD i default) s.Rows <;>rfl) (fun H K D=>by
    show (zlb s.Columns.length s).ev H K D=_
    unfold zlb
    simp only [Wy.ev_i,Wy.ev_k,Wy.ev_h,Wy.ev_bn,Wy.ev_d,tT,Nat.lt_irrefl]) (Int.toNat (0:Int)+s.Columns.length+(1:Nat)) (by omega)
  replace h:zy7 (Int.toNat (0:Int)+s.Columns.length+(1:Nat)) 0 s=_:=h
  rw [h,zEx (fun c=>okC c s.Rows),decide_eq_true hl]
  cases decide (0≤s.Rows) <;>cases decide (s.Rows≤1000000) <;>try rfl
  cases s.Columns.all (fun c=>okC c s.Rows) <;>rfl
 ·rw [decide_eq_false hl]
  cases decide (0≤s.Rows) <;>cases decide (s.Rows≤1000000) <;>rfl
theorem zBO {s:Stats} (h:okS s=true):0≤s.Rows∧s.Rows≤1000000∧s.Columns.length≤16∧∀ c∈s.Columns,okC c s.Rows=true:=by
 unfold okS at h
 simp only [Bool.and_eq_true,decide_eq_true_eq,List.all_eq_true] at h
 exact ⟨h.1,h.2.1,h.2.2.1,h.2.2.2⟩
theorem zJ5 {c:ColumnStats} {r:Int} (hr:r≠0) (h:okC c r=true):1≤c.Distinct∧c.Distinct≤r∧valV c.Min=true∧valV c.Max=true∧c.Min.Kind=c.Max.Kind∧cmpV c.Min c.Max≤0∧c.Bounds.length=8∧c.Bounds.getD 7 default=c.Max∧(∀ b∈c.Bounds,zoq c.Min.Kind b=true)∧cmpV c.Min (c.Bounds.getD 0 default)≤0∧allN (srtB c.Bounds) c.Bounds.length 0=true:=by
 unfold okC at h
 rw [if_neg hr] at h
 simp only [Bool.and_eq_true,decide_eq_true_eq,List.all_eq_true] at h
 exact ⟨h.1,h.2.1,h.2.2.1,h.2.2.2.1,h.2.2.2.2.1,h.2.2.2.2.2.1,h.2.2.2.2.2.2.1,h.2.2.2.2.2.2.2.1,h.2.2.2.2.2.2.2.2.1,h.2.2.2.2.2.2.2.2.2.1,h.2.2.2.2.2.2.2.2.2.2⟩
end Go.Proofs.YtddkaehkimnklaaGreatDoor
end
