/- Texts of this claim, joined (the program, its functions in plain words, and what they compute). -/
import Derived.WalkKit
import Derived.WalkSpells
import Derived.Test.YtddkaehkimnklaaGreatDoorGC1
import Derived.Test.YtddkaehkimnklaaGreatDoorGA3
import Derived.Test.YtddkaehkimnklaaGreatDoorGC3
import Derived.Test.YtddkaehkimnklaaGreatDoorGB1
import Derived.Test.YtddkaehkimnklaaGreatDoorGC2
set_option autoImplicit false
set_option linter.unusedVariables false
set_option linter.unusedSectionVars false
set_option linter.unusedSimpArgs false
set_option maxRecDepth 1000000
set_option maxHeartbeats 0
noncomputable section
namespace Go.Proofs.YtddkaehkimnklaaGreatDoor
open Go Go.Ab
abbrev ttTslicesIndexFuncLapiRowapiRowno0:=List Row×Unit×Int×Int×Unit
def zmR (s:List Row) (t7:Int) (t8:Int):Wy ttTslicesIndexFuncLapiRowapiRowno0 (Unit) (Int⊕Unit):=.i (decide (t8<t7)) (.i (decide (0≤t8)&&decide (t8<Int.ofNat s.length)) (.i ((zix (s.getD t8.toNat default)).2) (.k (.inl t8)) (.h (s,(),t7,(IntKind.i64.wrap (t8+1)),()) ())) .d) (.k (.inr ()))
def zed (x:ttTslicesIndexFuncLapiRowapiRowno0) (y:Unit):Wy ttTslicesIndexFuncLapiRowapiRowno0 (Unit) (Int⊕Unit):=zmR x.1 x.2.2.1 x.2.2.2.1
def zmM (n:Nat) (s:List Row) (t7:Int) (t8:Int):Bool×(Int⊕Unit):=zN (zed) (.inl default) n (s,(),t7,t8,()) ()
def zhi (r:Int⊕Unit):LTree ty:=.ite (isL r) (.done .ret [.lit (.int .i64 (getL r))] []) (.done (.exit 0) [] [])
def zhA:LL ty ttTslicesIndexFuncLapiRowapiRowno0:=za (lSl 38) (za (lFn 72 (zy)) (za (lInt .i64) (za (lInt .i64) zy)))
def zhy:BL ty (Unit):=bNil
def zho (x:ttTslicesIndexFuncLapiRowapiRowno0) (y:Unit):Nat:=(x.1.length+Int.toNat x.2.2.1+Int.toNat x.2.2.2.1+1000)
def zhw:Cx ty:=mkCx base 19 [(72,zgL)] [] [(2,[(0,.keep),(1,.keep),(7,.keep),(8,.keep)])] [(2,1,[]),(2,0,[(4,.keep)])] [(2,spW zhA zhy (zed) (.inl default) zhi zho)] []
theorem zmy:zZ zhw (lp (body Tryz.f112) 0):=zP (id:=2) (V:=zhA) (B:=zhy) (W:=zed) (z:=.inl default) (tr:=zhi) (m:=zho)
def zhM (s:List Row):Wy0 (Int):=.bn (zmM (s.length+(Int.ofNat s.length).toNat +Int.toNat 0+1000) s (Int.ofNat s.length) 0) fun r0=>.i (isL r0) (.k (getL r0)) (.k (-1:Int))
def zfj (s:List Row):Bool×Int:=(zhM s).fin default
def zhd (r:Int):ARes ty:=⟨[.pure (.lit (.int .i64 r))],[]⟩
def zhX:AL base (List Row×Unit×Unit):=zg (zh (vSl 38)) (zg (zh (vFn 72 vNil)) aNil)
def zg9:Ab.Spec ty:=zl zhX fun x=>((zfj x.1).1,zhd (zfj x.1).2)
theorem zlw:Sound Tryz.prog base 112 zg9:=
 zt (cx':=zhw) zG zn zD (zw ⟨zis,trivial⟩) Tryz.call112 Tryz.func112 (c:=body Tryz.f112) (by kernel_rfl) (zi (l:=[lp (body Tryz.f112) 0]) (by kernel_rfl) ⟨zmy,trivial⟩) (sg:=⟨[.pure],[]⟩) (A:=zhX) (res:=zhd) (W:=fun x=>zhM x.1) (z:=default)
abbrev ttTslicesDeleteFuncLapiRowapiRow0:=Unit×Unit×Int×Int×Unit
abbrev ttTslicesDeleteFuncLapiRowapiRow1:=List Row×Unit
abbrev ttTslicesDeleteFuncLapiRowapiRow2:=Int×List Row
def znG (i:Int) (j:Int) (s:List Row):Wy ttTslicesDeleteFuncLapiRowapiRow0 ttTslicesDeleteFuncLapiRowapiRow1 ttTslicesDeleteFuncLapiRowapiRow2:=.i (decide (j<Int.ofNat s.length)) (.i (decide (0≤j)&&decide (j<Int.ofNat s.length)) (.i (!(zix (s.getD j.toNat default)).2) (.i (decide (0≤i)&&decide (i<Int.ofNat s.length)) (.i (decide (i.toNat<s.length)) (.h ((),(),(IntKind.i64.wrap (i+1)),(IntKind.i64.wrap (j+1)),()) ((s.set i.toNat (s.getD j.toNat default)),())) .d) .d) (.h ((),(),i,(IntKind.i64.wrap (j+1)),()) (s,()))) .d) (.k (i,s))
def zeZ (x:ttTslicesDeleteFuncLapiRowapiRow0) (y:ttTslicesDeleteFuncLapiRowapiRow1):Wy ttTslicesDeleteFuncLapiRowapiRow0 ttTslicesDeleteFuncLapiRowapiRow1 ttTslicesDeleteFuncLapiRowapiRow2:=znG x.2.2.1 x.2.2.2.1 y.1
def znE (n:Nat) (i:Int) (j:Int) (s:List Row):Bool×ttTslicesDeleteFuncLapiRowapiRow2:=zN (zeZ) default n ((),(),i,j,()) (s,())
def zhP (r:ttTslicesDeleteFuncLapiRowapiRow2):LTree ty:=.done (.exit 0) [.own 168,.lit (.int .i64 r.1)] [.arr 38 r.2 false]
def zh6:LL ty ttTslicesDeleteFuncLapiRowapiRow0:=za (lOwn 168) (za (lFn 72 (zy)) (za (lInt .i64) (za (lInt .i64) zy)))
def zh4:BL ty ttTslicesDeleteFuncLapiRowapiRow1:=bArr 38 false (bNil)
def zhT (x:ttTslicesDeleteFuncLapiRowapiRow0) (y:ttTslicesDeleteFuncLapiRowapiRow1):Nat:=(Int.toNat x.2.2.1+Int.toNat x.2.2.2.1+y.1.length+1000)
def zh5:Cx ty:=mkCx base 42 [(72,zgL),(112,zg9)] [] [(5,[(0,.keep),(1,.keep),(5,.keep),(6,.keep)])] [(5,1,[(0,.keep),(5,.keep)])] [(5,spW zh6 zh4 (zeZ) default zhP zhT)] []
theorem zm2:zZ zh5 (lp (body Tryz.f70) 0):=zP (id:=5) (V:=zh6) (B:=zh4) (W:=zeZ) (z:=default) (tr:=zhP) (m:=zhT)
def zio (s:List Row):Wy0 (List Row):=.bn (zfj s) fun r1=>.i (r1==(-1:Int)) (.k s) (.bn (znE (r1.toNat +(IntKind.i64.wrap (r1+1)).toNat +s.length+1000) r1 (IntKind.i64.wrap (r1+1)) s) fun r0=>.i (decide (0≤r0.1)&&decide (r0.1≤Int.ofNat r0.2.length)&&decide (Int.ofNat r0.2.length≤Int.ofNat r0.2.length)) (.i (decide (r0.1.toNat +((Int.ofNat r0.2.length).toNat - r0.1.toNat)≤r0.2.length)) (.i (decide ((0:Int)≤(0:Int))&&decide (0≤r0.1)&&decide (r0.1≤Int.ofNat (List.take r0.1.toNat r0.2++List.replicate ((Int.ofNat r0.2.length).toNat - r0.1.toNat) (Row.mk [] [])++List.drop (r0.1.toNat +((Int.ofNat r0.2.length).toNat - r0.1.toNat)) r0.2).length)) (.k (List.take (r0.1.toNat - Int.toNat 0) (List.take r0.1.toNat r0.2++List.replicate ((Int.ofNat r0.2.length).toNat - r0.1.toNat) (Row.mk [] [])++List.drop (r0.1.toNat +((Int.ofNat r0.2.length).toNat - r0.1.toNat)) r0.2))) .d) .d) .d)
def zf8 (s:List Row):Bool×List Row:=(zio s).fin default
def zhV (r:List Row):ARes ty:=⟨[.own 38 r],[none]⟩
def zig:AL base (List Row×Unit×Unit):=zg (aOwn 38) (zg (zh (vFn 72 vNil)) aNil)
def zhz:Ab.Spec ty:=zl zig fun x=>((zf8 x.1).1,zhV (zf8 x.1).2)
theorem zmo:Sound Tryz.prog base 70 zhz:=
 zt (cx':=zh5) zG zn zD (zw ⟨zis,zlw,trivial⟩) Tryz.call70 Tryz.func70 (c:=body Tryz.f70) (by kernel_rfl) (zi (l:=[lp (body Tryz.f70) 0]) (by kernel_rfl) ⟨zm2,trivial⟩) (sg:=⟨[.own 38],[false]⟩) (A:=zig) (res:=zhV) (W:=fun x=>zio x.1) (z:=default)
def zfJ (x:List Row) (a b:Int):Bool×List Row:=zEV zbA x a b
def slices_insertionSortCmpFunc_api_Row_spec:Ab.Spec ty:=zl (cx:=base) (zg (aOwn 38) (zg (zh (vInt .i64)) (zg (zh (vInt .i64)) (zg (zh (vFn 74 vNil)) aNil)))) fun x=>((zfJ x.1 x.2.1 x.2.2.1).1,⟨[],[some ⟨38,(zfJ x.1 x.2.1 x.2.2.1).2⟩]⟩)
theorem zmP (c:Unit) (x y:Row) (h:(zbA x y).1=true):zll ((AV.agg (base.enc 38 x)::AV.agg (base.enc 38 y)::(vNil:VL base Unit).enc c).map Arg.pure)=some (true,⟨[.pure (.lit (.int .i64 (zbA x y).2))],[]⟩):=by
 rw [← h]; kernel_rfl
theorem zlE:Sound Tryz.prog base 159 slices_insertionSortCmpFunc_api_Row_spec:=by
 letI:DecidableEq (ty 38):=inferInstanceAs (DecidableEq Row)
 exact zIk (T:=38) zn rfl Go.Proofs.Tryz.insR Tryz.isAgg38 (by unfold szOf; exact Tryz.sizeOf38) Tryz.call159 zpg vNil (fun c=>zbA) zmP
open Go.Proofs Go.RowKit
def zb6 (x:List Row) (m:Int):Bool×List Row:=(decide (SortOK zbA x)&&(decide (m=x.length)&&decide (m<20)),zks zbA x)
def zjw:Ab.Spec ty:=zl (cx:=base) (zg (aOwn 38) (zg (zh (vInt .i64)) (zg (zh (vFn 74 vNil)) aNil))) fun x=>((zb6 x.1 x.2.1).1,⟨[],[some ⟨38,(zb6 x.1 x.2.1).2⟩]⟩)
set_option maxHeartbeats 1000000 in
theorem zoM:Sound Tryz.prog base 113 zjw where
 enters:=Tryz.call113
 calls:=fun avs r hsp w F vs hF ha hsep=>by
  unfold zjw zl at hsp
  split at hsp
  ·rename_i x hx
   simp only [Option.some.injEq,Prod.mk.injEq] at hsp
   obtain ⟨hpre,rfl⟩:=hsp
   have hk:=(zg (aOwn 38) (zg (zh (vInt .i64)) (zg (zh (vFn 74 vNil)) aNil)):AL base _).kind vs avs x hx
   have ha':=(zg (aOwn 38) (zg (zh (vInt .i64)) (zg (zh (vFn 74 vNil)) aNil)):AL base _).ok Tryz.prog zn F w vs avs x hx ha
   rw [hk] at hsep ⊢
   clear hk hx ha
   obtain ⟨l0,m,c,u0⟩:=x
   obtain ⟨l,rfl⟩:∃ l:List Row,l=l0:=⟨l0,rfl⟩
   obtain ⟨v,vs',rfl,hv,hv'⟩:=ha'.inv
   obtain ⟨mv,vs1,rfl,hm,hv1⟩:=hv'.inv
   obtain ⟨fv,vs'',rfl,hfv,h0⟩:=hv1.inv
   obtain rfl:=h0.nil_left.1
   have hm:Rep base F w mv (.lit (.int .i64 m)):=hm
   obtain rfl:mv=.int .i64 m:=by cases hm; rfl
   have hsl:∃ p cap,v=.slice p l.length cap:=by
    obtain ⟨⟨xs,hown,_⟩,_⟩:=(show zcb base F w v 38 l∧∀ b,zL v=some b→¬ F b from hv)
    rcases hown.2 with ⟨h1,h2⟩ | ⟨g0,cap,cur,h1,_⟩
    ·exact ⟨none,0,by rw [h1,show l.length=0 from h2]⟩
    ·exact ⟨_,cap,h1⟩
   have hpre:(decide (SortOK (α:=Row) zbA l)&&(decide (m=l.length)&&decide (m<20)))=true:=hpre
   simp only [Bool.and_eq_true,decide_eq_true_eq] at hpre
   obtain ⟨hok,rfl,h20⟩:=hpre
   have hpp:(zfJ l 0 (l.length:Int)).1=true:=by
    show (decide (SortOK (α:=Row) zbA l)&&(decide ((0:Int)=0)&&decide ((l.length:Int)=l.length)))=true
    simp only [Bool.and_eq_true,decide_eq_true_eq]
    exact ⟨hok,trivial,trivial⟩
   have hp:=(zlE).calls [.own 38 l,.pure (.lit (.int .i64 0)),.pure (.lit (.int .i64 (l.length:Int))),.pure (.fn 74 [])] ⟨[],[some ⟨38,(zb6 l (l.length:Int)).2⟩]⟩
    (by rw [← hpp]; kernel_rfl) w F [v,.int .i64 0,.int .i64 (l.length:Int),fv] hF (.cons hv (.cons (Rep.lit _) (.cons (Rep.lit _) (.cons hfv .nil)))) hsep
   replace hp:Calls Tryz.prog 159 #[v,.int .i64 0,.int .i64 (l.length:Int),fv] w fun e w'=>∃ u,e=.returned u∧Post base F w [v] ⟨[],[some ⟨38,(zb6 l (l.length:Int)).2⟩]⟩ u w':=hp
   show Calls Tryz.prog 113 #[v,.int .i64 (l.length:Int),fv] w fun e w'=>∃ u,e=.returned u∧Post base F w [v] ⟨[],[some ⟨38,(zb6 l (l.length:Int)).2⟩]⟩ u w'
   generalize (zb6 l (l.length:Int)).2=res at hp ⊢
   generalize hn:l.length=m at *
   clear hpp hv hfv hsep hok hF hm
   obtain ⟨p,cap,rfl⟩:=hsl
   clear hn
   go_enter Tryz.func113,Tryz.ntmps113
   go_wp2
   refine wp_loop_rounds 1 ?_
   rw [rounds_succ]
   go_wp2_with (go_at_call 159; refine hp.mono ?_; rintro e w' ⟨u,rfl,hpost⟩; obtain rfl:=hpost.unit)
   refine wp_loop_rounds 1 ?_
   rw [rounds_succ]
   go_wp2
   all_goals first | (exfalso; omega) | (go_end0; exact ⟨_,rfl,hpost⟩)
  ·cases hsp
end Go.Proofs.YtddkaehkimnklaaGreatDoor
namespace Go.Proofs.YtddkaehkimnklaaGreatDoor
open Go Go.Ab
open Go.Proofs Go.RowKit
def zbd (x:List Row):Bool×List Row:=(decide (SortOK zbA x)&&decide (x.length<20),zks zbA x)
def zdh:Ab.Spec ty:=zl (cx:=base) (zg (aOwn 38) (zg (zh (vFn 74 vNil)) aNil)) fun x=>((zbd x.1).1,⟨[],[some ⟨38,(zbd x.1).2⟩]⟩)
set_option maxHeartbeats 1000000 in
theorem zkM:Sound Tryz.prog base 73 zdh where
 enters:=Tryz.call73
 calls:=fun avs r hsp w F vs hF ha hsep=>by
  unfold zdh zl at hsp
  split at hsp
  ·rename_i x hx
   simp only [Option.some.injEq,Prod.mk.injEq] at hsp
   obtain ⟨hpre,rfl⟩:=hsp
   have hk:=(zg (aOwn 38) (zg (zh (vFn 74 vNil)) aNil):AL base _).kind vs avs x hx
   have ha':=(zg (aOwn 38) (zg (zh (vFn 74 vNil)) aNil):AL base _).ok Tryz.prog zn F w vs avs x hx ha
   rw [hk] at hsep ⊢
   clear hk hx ha
   obtain ⟨l0,c,u0⟩:=x
   obtain ⟨l,rfl⟩:∃ l:List Row,l=l0:=⟨l0,rfl⟩
   obtain ⟨v,vs',rfl,hv,hv'⟩:=ha'.inv
   obtain ⟨fv,vs'',rfl,hfv,h0⟩:=hv'.inv
   obtain rfl:=h0.nil_left.1
   have hsl:∃ p cap,v=.slice p l.length cap:=by
    obtain ⟨⟨xs,hown,_⟩,_⟩:=(show zcb base F w v 38 l∧∀ b,zL v=some b→¬ F b from hv)
    rcases hown.2 with ⟨h1,h2⟩ | ⟨g0,cap,cur,h1,_⟩
    ·exact ⟨none,0,by rw [h1,show l.length=0 from h2]⟩
    ·exact ⟨_,cap,h1⟩
   have hpre:(decide (SortOK (α:=Row) zbA l)&&decide (l.length<20))=true:=hpre
   simp only [Bool.and_eq_true,decide_eq_true_eq] at hpre
   obtain ⟨hok,h20⟩:=hpre
   have hpp:(zb6 l (l.length:Int)).1=true:=by
    show (decide (SortOK (α:=Row) zbA l)&&(decide ((l.length:Int)=l.length)&&decide ((l.length:Int)<20)))=true
    simp only [Bool.and_eq_true,decide_eq_true_eq]
    exact ⟨hok,trivial,by omega⟩
   have hp:=(zoM).calls [.own 38 l,.pure (.lit (.int .i64 (l.length:Int))),.pure (.fn 74 [])] ⟨[],[some ⟨38,(zbd l).2⟩]⟩
    (by rw [← hpp]; kernel_rfl) w F [v,.int .i64 (l.length:Int),fv] hF (.cons hv (.cons (Rep.lit _) (.cons hfv .nil))) hsep
   replace hp:Calls Tryz.prog 113 #[v,.int .i64 (l.length:Int),fv] w fun e w'=>∃ u,e=.returned u∧Post base F w [v] ⟨[],[some ⟨38,(zbd l).2⟩]⟩ u w':=hp
   show Calls Tryz.prog 73 #[v,fv] w fun e w'=>∃ u,e=.returned u∧Post base F w [v] ⟨[],[some ⟨38,(zbd l).2⟩]⟩ u w'
   generalize (zbd l).2=res at hp ⊢
   generalize hn:l.length=m at *
   clear hpp hv hfv hsep hok hF
   obtain ⟨p,cap,rfl⟩:=hsl
   clear hn
   go_enter Tryz.func73,Tryz.ntmps73
   go_wp2_with (go_at_call 113; refine hp.mono ?_; rintro e w' ⟨u,rfl,hpost⟩; obtain rfl:=hpost.unit)
   go_end0
   exact ⟨_,rfl,hpost⟩
  ·cases hsp
end Go.Proofs.YtddkaehkimnklaaGreatDoor
namespace Go.Proofs.YtddkaehkimnklaaGreatDoor
open Go Go.Ab
abbrev ttTrelationNormalize0:=Unit×Unit×List Row×Int×Int×Unit
abbrev ttTrelationNormalize1:=Relation×(Unit×Unit×Unit)×Unit
abbrev ttTrelationNormalize2:=Int⊕Relation
abbrev ttTrelationNormalize3:=Unit×Unit×Unit×Int×Int×Unit
abbrev ttTrelationNormalize4:=(Unit×Unit×Unit)×(Unit×Unit×Unit)×List Row×List Column×List Row×Unit
abbrev ttTrelationNormalize5:=List Column×List Row
def zx5 (t19:List Row) (t20:Int) (t21:Int) (r:Relation):Wy ttTrelationNormalize0 ttTrelationNormalize1 ttTrelationNormalize2:=.i (decide (t21<t20)) (.i (decide (0≤t21)&&decide (t21<Int.ofNat t19.length)) (.bn (zux r.Columns (t19.getD t21.toNat default).Values) fun r5=>.i (!r5) (.k (.inl 7)) (.bn (zwn (t19.getD t21.toNat default).Ann) fun r4=>.i (!r4) (.k (.inl 1)) (.h ((),(),t19,t20,(IntKind.i64.wrap (t21+1)),()) (r,((),(),()),())))) .d) (.k (.inr r))
def zlu (x:ttTrelationNormalize0) (y:ttTrelationNormalize1):Wy ttTrelationNormalize0 ttTrelationNormalize1 ttTrelationNormalize2:=zx5 x.2.2.1 x.2.2.2.1 x.2.2.2.2.1 y.1
def zyo (n:Nat) (t19:List Row) (t20:Int) (t21:Int) (r:Relation):Bool×ttTrelationNormalize2:=zN (zlu) (.inl default) n ((),(),t19,t20,t21,()) (r,((),(),()),())
def zpA (r:ttTrelationNormalize2):LTree ty:=.ite (isL r) (.done .ret [.ptr 440 0,.lit (.int .i64 (getL r))] [.box ([.lit (.slice none 0 0),.lit (.slice none 0 0)]) false]) (.done (.exit 0) [.ptr 440 0,.ptr 441 0] [.box (base.enc 73 (getR r)) false,.box ([.lit (.slice none 0 0),.lit (.slice none 0 0)]) false])
def zqD:LL ty ttTrelationNormalize0:=za (z6 440 0) (za (z6 441 0) (za (lSl 38) (za (lInt .i64) (za (lInt .i64) zy))))
def zqv:BL ty ttTrelationNormalize1:=bBox (zbj (fun x=>(⟨x.1,x.2.1⟩:Relation)) (fun x=>(x.Columns,x.Rows,())) (fun _=>rfl) (za (lSl 67) (za (lSl 38) zy))) false (bBox (za lNil (za lNil zy)) false (bNil))
def zxH (t49:Int) (t50:Int) (t48:List Row) (b3:List Column) (b4:List Row):Wy ttTrelationNormalize3 ttTrelationNormalize4 ttTrelationNormalize5:=.i (decide (t50<t49)) (.i (decide (0≤t50)&&decide (t50<Int.ofNat t48.length)) (.i (Int.ofNat b4.length==0) (.bn (znu (t48.getD t50.toNat default) (t48.getD t50.toNat default).Ann) fun r8=>.i (decide ((b4.length+[r8].length)*48≤zds)) (.h ((),(),(),t49,(IntKind.i64.wrap (t50+1)),()) (((),(),()),((),(),()),t48,b3,(b4++[r8]),())) .d) (.i (decide (0≤IntKind.i64.wrap (Int.ofNat b4.length - 1))&&decide (IntKind.i64.wrap (Int.ofNat b4.length - 1)<Int.ofNat b4.length)) (.bn (zbA (b4.getD (IntKind.i64.wrap (Int.ofNat b4.length - 1)).toNat default) (t48.getD t50.toNat default)) fun r11=>.i (r11 != 0) (.bn (znu (t48.getD t50.toNat default) (t48.getD t50.toNat default).Ann) fun r9=>.i (decide ((b4.length+[r9].length)*48≤zds)) (.h ((),(),(),t49,(IntKind.i64.wrap (t50+1)),()) (((),(),()),((),(),()),t48,b3,(b4++[r9]),())) .d) (.i (decide (0≤IntKind.i64.wrap (Int.ofNat b4.length - 1))&&decide (IntKind.i64.wrap (Int.ofNat b4.length - 1)<Int.ofNat b4.length)) (.bn (zym (b4.getD (IntKind.i64.wrap (Int.ofNat b4.length - 1)).toNat default).Ann (t48.getD t50.toNat default).Ann) fun r10=>.i (decide (0≤IntKind.i64.wrap (Int.ofNat b4.length - 1))&&decide (IntKind.i64.wrap (Int.ofNat b4.length - 1)<Int.ofNat b4.length)) (.i (decide ((IntKind.i64.wrap (Int.ofNat b4.length - 1)).toNat<b4.length)) (.h ((),(),(),t49,(IntKind.i64.wrap (t50+1)),()) (((),(),()),((),(),()),t48,b3,(b4.set (IntKind.i64.wrap (Int.ofNat b4.length - 1)).toNat (Row.mk (b4.getD (IntKind.i64.wrap (Int.ofNat b4.length - 1)).toNat default).Values r10.1)),())) .d) .d) .d)) .d)) .d) (.k (b3,b4))
def zkQ (x:ttTrelationNormalize3) (y:ttTrelationNormalize4):Wy ttTrelationNormalize3 ttTrelationNormalize4 ttTrelationNormalize5:=zxH x.2.2.2.1 x.2.2.2.2.1 y.2.2.1 y.2.2.2.1 y.2.2.2.2.1
def zxA (n:Nat) (t49:Int) (t50:Int) (t48:List Row) (b3:List Column) (b4:List Row):Bool×ttTrelationNormalize5:=zN (zkQ) default n ((),(),(),t49,t50,()) (((),(),()),((),(),()),t48,b3,b4,())
def zoK (r:ttTrelationNormalize5):LTree ty:=.done (.exit 2) [.ptr 440 0,.ptr 441 0] [.box ([.lit (.slice none 0 0),.lit (.slice none 0 0)]) false,.box ([.own 442,.own 443]) false,.arr 67 r.1 false,.arr 38 r.2 false]
def zpe:LL ty ttTrelationNormalize3:=za (z6 440 0) (za (z6 441 0) (za (lOwn 442) (za (lInt .i64) (za (lInt .i64) zy))))
def zpc:BL ty ttTrelationNormalize4:=bBox (za lNil (za lNil zy)) false (bBox (za (lOwn 443) (za (lOwn 444) zy)) false (bArr 38 false (bArr 67 false (bArr 38 false (bNil)))))
def zo9 (x:ttTrelationNormalize0) (y:ttTrelationNormalize1):Nat:=(x.2.2.1.length+Int.toNat x.2.2.2.1+Int.toNat x.2.2.2.2.1+y.1.Columns.length+y.1.Rows.length+1000)
def zoy (x:ttTrelationNormalize3) (y:ttTrelationNormalize4):Nat:=(Int.toNat x.2.2.2.1+Int.toNat x.2.2.2.2.1+y.2.2.1.length+y.2.2.2.1.length+y.2.2.2.2.1.length+1000)
def zlB:Cx ty:=mkCx base 110 [(67,zmK),(68,zua),(69,annotation_Valid_spec),(70,zhz),(71,ziU),(72,zgL),(73,zdh),(74,zll),(75,zhp),(76,zry),(77,annotation_Add_spec)] [(70,[true,false]),(73,[true,false])] [(4,[(1,.keep),(2,.keep),(19,.keep),(20,.keep),(21,.keep)]),(15,[(2,.keep),(7,.boxOwn [(1,38)]),(48,.keep),(49,.keep),(50,.keep)])] [(4,1,[(1,.keep),(2,.keep)]),(4,0,[(2,.keep),(3,.keep)]),(15,3,[(2,.keep),(7,.keep)]),(15,0,[(2,.keep),(3,.keep)])] [(4,spW zqD zqv (zlu) (.inl default) zpA zo9),(15,spW zpe zpc (zkQ) default zoK zoy)] []
theorem zxC:zZ zlB (lp (body Tryz.f35) 0):=zP (id:=4) (V:=zqD) (B:=zqv) (W:=zlu) (z:=.inl default) (tr:=zpA) (m:=zo9)
theorem zwx:zZ zlB (lp (body Tryz.f35) 1):=zP (id:=15) (V:=zpe) (B:=zpc) (W:=zkQ) (z:=default) (tr:=zoK) (m:=zoy)
def zrJ (r:Relation):Wy0 (Relation×Int):=.bn (zli r.Columns) fun r22=>.i (!r22) (.k ((⟨[],[]⟩:Relation),1)) (.bn (zyo (r.Rows.length+(Int.ofNat r.Rows.length).toNat +Int.toNat 0+r.Columns.length+r.Rows.length+1000) r.Rows (Int.ofNat r.Rows.length) 0 r) fun r21=>.i (isL r21) (.k ((⟨[],[]⟩:Relation),getL r21)) (.bn (zhG (getR r21).Rows) fun r20=>.bn (zf8 r20) fun r19=>.bn (zbd r19) fun r18=>.bn (zfO (getR r21).Columns) fun r17=>.bn (zxA ((Int.ofNat r18.length).toNat +Int.toNat 0+r18.length+r17.length+0+1000) (Int.ofNat r18.length) 0 r18 r17 []) fun r16=>.i (decide (Int.ofNat r16.2.length>1024)) (.k ((⟨[],[]⟩:Relation),6)) (.k ((⟨r16.1,r16.2⟩:Relation),0))))
def zku (r:Relation):Bool×(Relation×Int):=(zrJ r).fin default
def zpF (r:Relation×Int):ARes ty:=⟨[.pure (.agg (base.enc 73 r.1)),.pure (.lit (.int .i64 r.2))],[]⟩
def zro:AL base (Relation×Unit):=zg (zh (vAgg 73)) aNil
def zoq:Ab.Spec ty:=zl zro fun x=>((zku x.1).1,zpF (zku x.1).2)
theorem zwd:Sound Tryz.prog base 35 zoq:=
 zt (cx':=zlB) zG zn zD (zw ⟨zue,zAT,zxw,zmo,zof,zis,zkM,zpg,zlF,zyL,zzZ,trivial⟩) Tryz.call35 Tryz.func35 (c:=body Tryz.f35) (by kernel_rfl) (zi (l:=[lp (body Tryz.f35) 0,lp (body Tryz.f35) 1]) (by kernel_rfl) ⟨zxC,zwx,trivial⟩) (sg:=⟨[.pure,.pure],[]⟩) (A:=zro) (res:=zpF) (W:=fun x=>zrJ x.1) (z:=default)
def zJV (k:Go.Value) (l:List (Go.Value×Int)):Option Int:=mget (ty:=ty) (V:=3) k l
def zJW (k:Go.Value) (l:List (Go.Value×Int)):Bool:=mhas (ty:=ty) (V:=3) k l
def zvl (k:Go.Value) (x:Int) (l:List (Go.Value×Int)):List (Go.Value×Int):=mset (ty:=ty) (V:=3) k x l
def zLg (k:Go.Value) (x:Bool) (l:List (Go.Value×Bool)):List (Go.Value×Bool):=mset (ty:=ty) (V:=4) k x l
def zfh (x:List Value):Bool×List Value:=zC6 (fun a b=>zbL a b) x
def slices_SortFunc_Lapi_Value_api_Value_spec:Ab.Spec ty:=zl (cx:=base) (zg (aOwn 40) (zg (zh (vFn 79 (vNil))) aNil)) fun x=>((zfh x.1).1,⟨[],[some ⟨40,(zfh x.1).2⟩]⟩)
theorem zmB (c:Unit) (x y:Value) (h:(zbL x y).1=true):zcd ((AV.agg (base.enc 40 x)::AV.agg (base.enc 40 y)::(vNil:VL base (Unit)).enc c).map Arg.pure)=some (true,⟨[.pure (.lit (.int .i64 (zbL x y).2))],[]⟩):=by
 rw [← h]; kernel_rfl
theorem zln:Sound Tryz.prog base 78 slices_SortFunc_Lapi_Value_api_Value_spec:=by
 letI:DecidableEq (ty 40):=inferInstanceAs (DecidableEq Value)
 exact zG5 (T:=40) zn rfl Go.Proofs.Tryz.sortVal Tryz.isAgg40 (by unfold szOf; exact Tryz.sizeOf40) Tryz.call78 zcn (vNil) (fun c=>fun a b=>zbL a b) zmB
abbrev ttTstatisticscolumn0:=Unit×Unit×Int×Unit×Unit×Int×Int×Unit
abbrev ttTstatisticscolumn1:=List Value×(Int×Int×Int×ByteArray×Int×Int×ByteArray×Unit×Unit)×(List (_root_.Go.Value×Bool))×Unit
abbrev ttTstatisticscolumn2:=Int×List Value×Int×Int×Int×ByteArray×Int×Int×ByteArray×(List (_root_.Go.Value×Bool))
abbrev ttTstatisticscolumn3:=Unit×Unit×Int×Unit×Int×Unit
abbrev ttTstatisticscolumn4:=List Value×(Int×Int×Int×ByteArray×Int×Int×ByteArray×Unit×Unit)×(Int×Int×Int×ByteArray×Int×Int×ByteArray×Unit×Unit)×List Value×Unit
abbrev ttTstatisticscolumn5:=Int×Int×Int×ByteArray×Int×Int×ByteArray×Int×Int×Int×ByteArray×Int×Int×ByteArray×List Value
def zzY (n_:Int) (t18:Int) (t19:Int) (l:List Value) (t2_0:Int) (t2_1:Int) (t2_2:Int) (t2_3:ByteArray) (t2_4:Int) (t2_5:Int) (t2_6:ByteArray) (seen:List (_root_.Go.Value×Bool)):Wy ttTstatisticscolumn0 ttTstatisticscolumn1 ttTstatisticscolumn2:=.i (decide (t19<t18)) (.i (decide (0≤t19)&&decide (t19<Int.ofNat l.length)) (.h ((),(),n_,(),(),t18,(IntKind.i64.wrap (t19+1)),()) (l,(t2_0,t2_1,t2_2,t2_3,t2_4,t2_5,t2_6,(),()),(zLg (Value.agg #[Value.int IntKind.i64 (l.getD t19.toNat default).Kind,Value.int IntKind.i64 (l.getD t19.toNat default).Int,Value.string (l.getD t19.toNat default).Text]) true seen),())) .d) (.k (n_,l,t2_0,t2_1,t2_2,t2_3,t2_4,t2_5,t2_6,seen))
def zmu (x:ttTstatisticscolumn0) (y:ttTstatisticscolumn1):Wy ttTstatisticscolumn0 ttTstatisticscolumn1 ttTstatisticscolumn2:=zzY x.2.2.1 x.2.2.2.2.2.1 x.2.2.2.2.2.2.1 y.1 y.2.1.1 y.2.1.2.1 y.2.1.2.2.1 y.2.1.2.2.2.1 y.2.1.2.2.2.2.1 y.2.1.2.2.2.2.2.1 y.2.1.2.2.2.2.2.2.1 y.2.2.1
def zzo (n:Nat) (n_:Int) (t18:Int) (t19:Int) (l:List Value) (t2_0:Int) (t2_1:Int) (t2_2:Int) (t2_3:ByteArray) (t2_4:Int) (t2_5:Int) (t2_6:ByteArray) (seen:List (_root_.Go.Value×Bool)):Bool×ttTstatisticscolumn2:=zN (zmu) default n ((),(),n_,(),(),t18,t19,()) (l,(t2_0,t2_1,t2_2,t2_3,t2_4,t2_5,t2_6,(),()),seen,())
def zqY (r:ttTstatisticscolumn2):LTree ty:=.done (.exit 0) [.own 224,.ptr 225 0,.lit (.int .i64 r.1),.mp 226] [.arr 40 r.2.1 false,.box ([.lit (.int .i64 r.2.2.1),.lit (.int .i64 r.2.2.2.1),.lit (.int .i64 r.2.2.2.2.1),.lit (.string r.2.2.2.2.2.1),.lit (.int .i64 r.2.2.2.2.2.2.1),.lit (.int .i64 r.2.2.2.2.2.2.2.1),.lit (.string r.2.2.2.2.2.2.2.2.1),.lit (.slice none 0 0)]) false,.mp 40 4 r.2.2.2.2.2.2.2.2.2 false]
def zr0:LL ty ttTstatisticscolumn0:=za (lOwn 224) (za (z6 225 0) (za (lInt .i64) (za (lMp 226) (za (lOwn 224) (za (lInt .i64) (za (lInt .i64) zy))))))
def zsg:BL ty ttTstatisticscolumn1:=bArr 40 false (bBox (za (lInt .i64) (za (lInt .i64) (za (lInt .i64) (za lStr (za (lInt .i64) (za (lInt .i64) (za lStr (za lNil zy)))))))) false (bMp 40 4 false (bNil)))
def zyi (n_:Int) (i:Int) (l:List Value) (t2_0:Int) (t2_1:Int) (t2_2:Int) (t2_3:ByteArray) (t2_4:Int) (t2_5:Int) (t2_6:ByteArray) (c_0:Int) (c_1:Int) (c_2:Int) (c_3:ByteArray) (c_4:Int) (c_5:Int) (c_6:ByteArray) (b3:List Value):Wy ttTstatisticscolumn3 ttTstatisticscolumn4 ttTstatisticscolumn5:=.i (decide (i≤8)) (.i (decide (0≤IntKind.i64.wrap (IntKind.i64.wrap ((IntKind.i64.wrap (IntKind.i64.wrap (i*n_)+7)).tdiv 8) - 1))&&decide (IntKind.i64.wrap (IntKind.i64.wrap ((IntKind.i64.wrap (IntKind.i64.wrap (i*n_)+7)).tdiv 8) - 1)<Int.ofNat l.length)) (.i (decide ((b3.length+[l.getD (IntKind.i64.wrap (IntKind.i64.wrap ((IntKind.i64.wrap (IntKind.i64.wrap (i*n_)+7)).tdiv 8) - 1)).toNat default].length)*32≤zds)) (.h ((),(),n_,(),(IntKind.i64.wrap (i+1)),()) (l,(t2_0,t2_1,t2_2,t2_3,t2_4,t2_5,t2_6,(),()),(c_0,c_1,c_2,c_3,c_4,c_5,c_6,(),()),(b3++[l.getD (IntKind.i64.wrap (IntKind.i64.wrap ((IntKind.i64.wrap (IntKind.i64.wrap (i*n_)+7)).tdiv 8) - 1)).toNat default]),())) .d) .d) (.k (t2_0,t2_1,t2_2,t2_3,t2_4,t2_5,t2_6,c_0,c_1,c_2,c_3,c_4,c_5,c_6,b3))
def zlq (x:ttTstatisticscolumn3) (y:ttTstatisticscolumn4):Wy ttTstatisticscolumn3 ttTstatisticscolumn4 ttTstatisticscolumn5:=zyi x.2.2.1 x.2.2.2.2.1 y.1 y.2.1.1 y.2.1.2.1 y.2.1.2.2.1 y.2.1.2.2.2.1 y.2.1.2.2.2.2.1 y.2.1.2.2.2.2.2.1 y.2.1.2.2.2.2.2.2.1 y.2.2.1.1 y.2.2.1.2.1 y.2.2.1.2.2.1 y.2.2.1.2.2.2.1 y.2.2.1.2.2.2.2.1 y.2.2.1.2.2.2.2.2.1 y.2.2.1.2.2.2.2.2.2.1 y.2.2.2.1
def zyT (n:Nat) (n_:Int) (i:Int) (l:List Value) (t2_0:Int) (t2_1:Int) (t2_2:Int) (t2_3:ByteArray) (t2_4:Int) (t2_5:Int) (t2_6:ByteArray) (c_0:Int) (c_1:Int) (c_2:Int) (c_3:ByteArray) (c_4:Int) (c_5:Int) (c_6:ByteArray) (b3:List Value):Bool×ttTstatisticscolumn5:=zN (zlq) default n ((),(),n_,(),i,()) (l,(t2_0,t2_1,t2_2,t2_3,t2_4,t2_5,t2_6,(),()),(c_0,c_1,c_2,c_3,c_4,c_5,c_6,(),()),b3,())
def zo2 (r:ttTstatisticscolumn5):LTree ty:=.done (.exit 2) [.ptr 224 0,.ptr 225 0] [.box ([.lit (.int .i64 r.1),.lit (.int .i64 r.2.1),.lit (.int .i64 r.2.2.1),.lit (.string r.2.2.2.1),.lit (.int .i64 r.2.2.2.2.1),.lit (.int .i64 r.2.2.2.2.2.1),.lit (.string r.2.2.2.2.2.2.1),.lit (.slice none 0 0)]) false,.box ([.lit (.int .i64 r.2.2.2.2.2.2.2.1),.lit (.int .i64 r.2.2.2.2.2.2.2.2.1),.lit (.int .i64 r.2.2.2.2.2.2.2.2.2.1),.lit (.string r.2.2.2.2.2.2.2.2.2.2.1),.lit (.int .i64 r.2.2.2.2.2.2.2.2.2.2.2.1),.lit (.int .i64 r.2.2.2.2.2.2.2.2.2.2.2.2.1),.lit (.string r.2.2.2.2.2.2.2.2.2.2.2.2.2.1),.own 226]) false,.arr 40 r.2.2.2.2.2.2.2.2.2.2.2.2.2.2 false]
def zqC:LL ty ttTstatisticscolumn3:=za (lOwn 224) (za (z6 225 0) (za (lInt .i64) (za (z6 226 0) (za (lInt .i64) zy))))
def zqQ:BL ty ttTstatisticscolumn4:=bArr 40 false (bBox (za (lInt .i64) (za (lInt .i64) (za (lInt .i64) (za lStr (za (lInt .i64) (za (lInt .i64) (za lStr (za lNil zy)))))))) false (bBox (za (lInt .i64) (za (lInt .i64) (za (lInt .i64) (za lStr (za (lInt .i64) (za (lInt .i64) (za lStr (za (lOwn 227) zy)))))))) false (bArr 40 false (bNil))))
def zqR (x:ttTstatisticscolumn0) (y:ttTstatisticscolumn1):Nat:=(Int.toNat x.2.2.1+Int.toNat x.2.2.2.2.2.1+Int.toNat x.2.2.2.2.2.2.1+y.1.length+Int.toNat y.2.1.1+Int.toNat y.2.1.2.1+Int.toNat y.2.1.2.2.1+y.2.1.2.2.2.1.size+Int.toNat y.2.1.2.2.2.2.1+Int.toNat y.2.1.2.2.2.2.2.1+y.2.1.2.2.2.2.2.2.1.size+y.2.2.1.length+1000)
def zpG (x:ttTstatisticscolumn3) (y:ttTstatisticscolumn4):Nat:=(Int.toNat x.2.2.1+Int.toNat x.2.2.2.2.1+y.1.length+Int.toNat y.2.1.1+Int.toNat y.2.1.2.1+Int.toNat y.2.1.2.2.1+y.2.1.2.2.2.1.size+Int.toNat y.2.1.2.2.2.2.1+Int.toNat y.2.1.2.2.2.2.2.1+y.2.1.2.2.2.2.2.2.1.size+Int.toNat y.2.2.1.1+Int.toNat y.2.2.1.2.1+Int.toNat y.2.2.1.2.2.1+y.2.2.1.2.2.2.1.size+Int.toNat y.2.2.1.2.2.2.2.1+Int.toNat y.2.2.1.2.2.2.2.2.1+y.2.2.1.2.2.2.2.2.2.1.size+y.2.2.2.1.length+1000)
def zmA:Cx ty:=mkCx base 56 [(78,slices_SortFunc_Lapi_Value_api_Value_spec),(79,zcd)] [(78,[true,false])] [(7,[(0,.keep),(2,.keep),(3,.keep),(4,.keep),(17,.keep),(18,.keep),(19,.keep)]),(13,[(0,.keep),(2,.keep),(3,.keep),(7,.boxOwn [(7,40)]),(8,.keep)])] [(7,1,[(0,.keep),(2,.keep),(3,.keep),(4,.keep)]),(13,3,[(2,.keep),(7,.keep)])] [(7,spW zr0 zsg (zmu) default zqY zqR),(13,spW zqC zqQ (zlq) default zo2 zpG)] []
theorem zyV:zZ zmA (lp (body Tryz.f36) 0):=zP (id:=7) (V:=zr0) (B:=zsg) (W:=zmu) (z:=default) (tr:=zqY) (m:=zqR)
theorem zxG:zZ zmA (lp (body Tryz.f36) 1):=zP (id:=13) (V:=zqC) (B:=zqQ) (W:=zlq) (z:=default) (tr:=zo2) (m:=zpG)
def zsU (l:List Value):Wy0 (ColumnStats):=.i (Int.ofNat l.length==0) (.k (⟨0,(⟨0,0,ByteArray.mk #[]⟩:Value),(⟨0,0,ByteArray.mk #[]⟩:Value),[]⟩:ColumnStats)) (.bn (zfh l) fun r2=>.bn (zzo ((Int.ofNat l.length).toNat +(Int.ofNat r2.length).toNat +Int.toNat 0+r2.length+Int.toNat 0+Int.toNat 0+Int.toNat 0+(ByteArray.mk #[]).size+Int.toNat 0+Int.toNat 0+(ByteArray.mk #[]).size+0+1000) (Int.ofNat l.length) (Int.ofNat r2.length) 0 r2 0 0 0 (ByteArray.mk #[]) 0 0 (ByteArray.mk #[]) []) fun r1=>.i (decide ((0:Int)≤(0:Int))&&decide (0<Int.ofNat r1.2.1.length)) (.i (decide (0≤IntKind.i64.wrap (r1.1 - 1))&&decide (IntKind.i64.wrap (r1.1 - 1)<Int.ofNat r1.2.1.length)) (.bn (zyT (r1.1.toNat +Int.toNat 1+r1.2.1.length+r1.2.2.1.toNat +r1.2.2.2.1.toNat +r1.2.2.2.2.1.toNat +r1.2.2.2.2.2.1.size+r1.2.2.2.2.2.2.1.toNat +r1.2.2.2.2.2.2.2.1.toNat +r1.2.2.2.2.2.2.2.2.1.size+(Int.ofNat r1.2.2.2.2.2.2.2.2.2.length).toNat +(r1.2.1.getD (Int.toNat 0) default).Kind.toNat +(r1.2.1.getD (Int.toNat 0) default).Int.toNat +(r1.2.1.getD (Int.toNat 0) default).Text.size+(r1.2.1.getD (IntKind.i64.wrap (r1.1 - 1)).toNat default).Kind.toNat +(r1.2.1.getD (IntKind.i64.wrap (r1.1 - 1)).toNat default).Int.toNat +(r1.2.1.getD (IntKind.i64.wrap (r1.1 - 1)).toNat default).Text.size+0+1000) r1.1 1 r1.2.1 r1.2.2.1 r1.2.2.2.1 r1.2.2.2.2.1 r1.2.2.2.2.2.1 r1.2.2.2.2.2.2.1 r1.2.2.2.2.2.2.2.1 r1.2.2.2.2.2.2.2.2.1 (Int.ofNat r1.2.2.2.2.2.2.2.2.2.length) (r1.2.1.getD (Int.toNat 0) default).Kind (r1.2.1.getD (Int.toNat 0) default).Int (r1.2.1.getD (Int.toNat 0) default).Text (r1.2.1.getD (IntKind.i64.wrap (r1.1 - 1)).toNat default).Kind (r1.2.1.getD (IntKind.i64.wrap (r1.1 - 1)).toNat default).Int (r1.2.1.getD (IntKind.i64.wrap (r1.1 - 1)).toNat default).Text []) fun r0=>.k (⟨r0.2.2.2.2.2.2.2.1,(⟨r0.2.2.2.2.2.2.2.2.1,r0.2.2.2.2.2.2.2.2.2.1,r0.2.2.2.2.2.2.2.2.2.2.1⟩:Value),(⟨r0.2.2.2.2.2.2.2.2.2.2.2.1,r0.2.2.2.2.2.2.2.2.2.2.2.2.1,r0.2.2.2.2.2.2.2.2.2.2.2.2.2.1⟩:Value),r0.2.2.2.2.2.2.2.2.2.2.2.2.2.2⟩:ColumnStats)) .d) .d)
def zoX (l:List Value):Bool×ColumnStats:=(zsU l).fin default
def zp2 (r:ColumnStats):ARes ty:=⟨[.pure (.agg (base.enc 43 r))],[none]⟩
def zsO:AL base (List Value×Unit):=zg (aOwn 40) aNil
def zph:Ab.Spec ty:=zl zsO fun x=>((zoX x.1).1,zp2 (zoX x.1).2)
theorem zww:Sound Tryz.prog base 36 zph:=
 zt (cx':=zmA) zG zn zD (zw ⟨zln,zcn,trivial⟩) Tryz.call36 Tryz.func36 (c:=body Tryz.f36) (by kernel_rfl) (zi (l:=[lp (body Tryz.f36) 0,lp (body Tryz.f36) 1]) (by kernel_rfl) ⟨zyV,zxG,trivial⟩) (sg:=⟨[.pure],[false]⟩) (A:=zsO) (res:=zp2) (W:=fun x=>zsU x.1) (z:=default)
abbrev ttTstatisticsGather0:=Unit×Unit×Unit×Int×Int×Unit
abbrev ttTstatisticsGather1:=Table×(Int×Int×Unit×Unit)×List Row×Unit
abbrev ttTstatisticsGather2:=(Int×Int)⊕(Table×Int×Int)
abbrev ttTstatisticsGather3:=Unit×Unit×Unit×Int×Unit×Int×Int×List Row×Int×Int×Unit
abbrev ttTstatisticsGather4:=Table×(Int×Int×Unit×Unit)×(Int×Int×Unit×Unit)×List Value×List ColumnStats×Unit
abbrev ttTstatisticsGather5:=Int×Int×Table×Int×Int×Int×Int×List Value×List ColumnStats
abbrev ttTstatisticsGather6:=Table×(Int×Int×Unit×Unit)×(Int×Int×Unit×Unit)×List ColumnStats×Unit
abbrev ttTstatisticsGather7:=Int×Int×Int×Int×List ColumnStats
def zz9 (t23:Int) (t24:Int) (t:Table) (t2_0:Int) (t2_1:Int) (t22:List Row):Wy ttTstatisticsGather0 ttTstatisticsGather1 ttTstatisticsGather2:=.i (decide (t24<t23)) (.i (decide (0≤t24)&&decide (t24<Int.ofNat t22.length)) (.bn (zku (Relation.mk t.Columns [Row.mk (t22.getD t24.toNat default).Values []])) fun r4=>.i (r4.2 != 0) (.k (.inl (0,0))) (.h ((),(),(),t23,(IntKind.i64.wrap (t24+1)),()) (t,(t2_0,t2_1,(),()),t22,()))) .d) (.k (.inr (t,t2_0,t2_1)))
def zmc (x:ttTstatisticsGather0) (y:ttTstatisticsGather1):Wy ttTstatisticsGather0 ttTstatisticsGather1 ttTstatisticsGather2:=zz9 x.2.2.2.1 x.2.2.2.2.1 y.1 y.2.1.1 y.2.1.2.1 y.2.2.1
def zz4 (n:Nat) (t23:Int) (t24:Int) (t:Table) (t2_0:Int) (t2_1:Int) (t22:List Row):Bool×ttTstatisticsGather2:=zN (zmc) (.inl default) n ((),(),(),t23,t24,()) (t,(t2_0,t2_1,(),()),t22,())
def zqt (r:ttTstatisticsGather2):LTree ty:=.ite (isL r) (.done .ret [.ptr 360 0] [.box ([.lit (.int .i64 ((getL r).1)),.lit (.int .i64 ((getL r).2)),.lit (.slice none 0 0)]) false]) (.done (.exit 0) [.ptr 360 0,.ptr 361 0] [.box (base.enc 25 (getR r).1) false,.box ([.lit (.int .i64 (getR r).2.1),.lit (.int .i64 (getR r).2.2),.lit (.slice none 0 0)]) false])
def zrC:LL ty ttTstatisticsGather0:=za (z6 360 0) (za (z6 361 0) (za (lOwn 362) (za (lInt .i64) (za (lInt .i64) zy))))
def zrD:BL ty ttTstatisticsGather1:=bBox (zbj (fun x=>(⟨x.1,x.2.1,x.2.2.1,x.2.2.2.1⟩:Table)) (fun x=>(x.ID,x.Name,x.Columns,x.Rows,())) (fun _=>rfl) (za (lInt .i64) (za lStr (za (lSl 67) (za (lSl 38) zy))))) false (bBox (za (lInt .i64) (za (lInt .i64) (za lNil zy))) false (bArr 38 false (bNil)))
def zze (i:Int) (t61:Int) (t62:Int) (t66:List Row) (t67:Int) (t68:Int) (t:Table) (t2_0:Int) (t2_1:Int) (s_0:Int) (s_1:Int) (l:List Value) (b4:List ColumnStats):Wy ttTstatisticsGather3 ttTstatisticsGather4 ttTstatisticsGather5:=.i (decide (t68<t67)) (.i (decide (0≤t68)&&decide (t68<Int.ofNat t66.length)) (.i (decide (0≤i)&&decide (i<Int.ofNat (t66.getD t68.toNat default).Values.length)) (.i (decide ((l.length+[(t66.getD t68.toNat default).Values.getD i.toNat default].length)*32≤zds)) (.h ((),(),(),i,(),t61,t62,t66,t67,(IntKind.i64.wrap (t68+1)),()) (t,(t2_0,t2_1,(),()),(s_0,s_1,(),()),(l++[(t66.getD t68.toNat default).Values.getD i.toNat default]),b4,())) .d) .d) .d) (.k (t61,t62,t,t2_0,t2_1,s_0,s_1,l,b4))
def zlz (x:ttTstatisticsGather3) (y:ttTstatisticsGather4):Wy ttTstatisticsGather3 ttTstatisticsGather4 ttTstatisticsGather5:=zze x.2.2.2.1 x.2.2.2.2.2.1 x.2.2.2.2.2.2.1 x.2.2.2.2.2.2.2.1 x.2.2.2.2.2.2.2.2.1 x.2.2.2.2.2.2.2.2.2.1 y.1 y.2.1.1 y.2.1.2.1 y.2.2.1.1 y.2.2.1.2.1 y.2.2.2.1 y.2.2.2.2.1
def zzj (n:Nat) (i:Int) (t61:Int) (t62:Int) (t66:List Row) (t67:Int) (t68:Int) (t:Table) (t2_0:Int) (t2_1:Int) (s_0:Int) (s_1:Int) (l:List Value) (b4:List ColumnStats):Bool×ttTstatisticsGather5:=zN (zlz) default n ((),(),(),i,(),t61,t62,t66,t67,t68,()) (t,(t2_0,t2_1,(),()),(s_0,s_1,(),()),l,b4,())
def zpH (r:ttTstatisticsGather5):LTree ty:=.done (.exit 4) [.ptr 360 0,.ptr 361 0,.ptr 362 0,.own 363,.lit (.int .i64 r.1),.lit (.int .i64 r.2.1)] [.box (base.enc 25 r.2.2.1) false,.box ([.lit (.int .i64 r.2.2.2.1),.lit (.int .i64 r.2.2.2.2.1),.lit (.slice none 0 0)]) false,.box ([.lit (.int .i64 r.2.2.2.2.2.1),.lit (.int .i64 r.2.2.2.2.2.2.1),.own 364]) false,.arr 40 r.2.2.2.2.2.2.2.1 false,.arr 43 r.2.2.2.2.2.2.2.2 false]
def zqx:LL ty ttTstatisticsGather3:=za (z6 360 0) (za (z6 361 0) (za (z6 362 0) (za (lInt .i64) (za (lOwn 363) (za (lInt .i64) (za (lInt .i64) (za (lSl 38) (za (lInt .i64) (za (lInt .i64) zy)))))))))
def zqe:BL ty ttTstatisticsGather4:=bBox (zbj (fun x=>(⟨x.1,x.2.1,x.2.2.1,x.2.2.2.1⟩:Table)) (fun x=>(x.ID,x.Name,x.Columns,x.Rows,())) (fun _=>rfl) (za (lInt .i64) (za lStr (za (lSl 67) (za (lSl 38) zy))))) false (bBox (za (lInt .i64) (za (lInt .i64) (za lNil zy))) false (bBox (za (lInt .i64) (za (lInt .i64) (za (lOwn 364) zy))) false (bArr 40 false (bArr 43 false (bNil)))))
def zyD (t61:Int) (t62:Int) (t:Table) (t2_0:Int) (t2_1:Int) (s_0:Int) (s_1:Int) (b3:List ColumnStats):Wy ttTstatisticsGather0 ttTstatisticsGather6 ttTstatisticsGather7:=.i (decide (t62<t61)) (.bn (zzj (t62.toNat +t61.toNat +t62.toNat +t.Rows.length+(Int.ofNat t.Rows.length).toNat +Int.toNat 0+t.Columns.length+t.Rows.length+t2_0.toNat +t2_1.toNat +s_0.toNat +s_1.toNat +0+b3.length+1000) t62 t61 t62 t.Rows (Int.ofNat t.Rows.length) 0 t t2_0 t2_1 s_0 s_1 [] b3) fun r7=>.bn (zoX r7.2.2.2.2.2.2.2.1) fun r6=>.i (decide ((r7.2.2.2.2.2.2.2.2.length+[r6].length)*96≤zds)) (.h ((),(),(),(r7.1),(IntKind.i64.wrap (r7.2.1+1)),()) ((r7.2.2.1),((r7.2.2.2.1),(r7.2.2.2.2.1),(),()),((r7.2.2.2.2.2.1),(r7.2.2.2.2.2.2.1),(),()),(r7.2.2.2.2.2.2.2.2++[r6]),())) .d) (.k (t2_0,t2_1,s_0,s_1,b3))
def zlb (x:ttTstatisticsGather0) (y:ttTstatisticsGather6):Wy ttTstatisticsGather0 ttTstatisticsGather6 ttTstatisticsGather7:=zyD x.2.2.2.1 x.2.2.2.2.1 y.1 y.2.1.1 y.2.1.2.1 y.2.2.1.1 y.2.2.1.2.1 y.2.2.2.1
def zzg (n:Nat) (t61:Int) (t62:Int) (t:Table) (t2_0:Int) (t2_1:Int) (s_0:Int) (s_1:Int) (b3:List ColumnStats):Bool×ttTstatisticsGather7:=zN (zlb) default n ((),(),(),t61,t62,()) (t,(t2_0,t2_1,(),()),(s_0,s_1,(),()),b3,())
def zpv (r:ttTstatisticsGather7):LTree ty:=.done (.exit 2) [.ptr 360 0,.ptr 361 0] [.box ([.lit (.int .i64 r.1),.lit (.int .i64 r.2.1),.lit (.slice none 0 0)]) false,.box ([.lit (.int .i64 r.2.2.1),.lit (.int .i64 r.2.2.2.1),.own 362]) false,.arr 43 r.2.2.2.2 false]
def zqm:LL ty ttTstatisticsGather0:=za (z6 360 0) (za (z6 361 0) (za (z6 362 0) (za (lInt .i64) (za (lInt .i64) zy))))
def zqK:BL ty ttTstatisticsGather6:=bBox (zbj (fun x=>(⟨x.1,x.2.1,x.2.2.1,x.2.2.2.1⟩:Table)) (fun x=>(x.ID,x.Name,x.Columns,x.Rows,())) (fun _=>rfl) (za (lInt .i64) (za lStr (za (lSl 67) (za (lSl 38) zy))))) false (bBox (za (lInt .i64) (za (lInt .i64) (za lNil zy))) false (bBox (za (lInt .i64) (za (lInt .i64) (za (lOwn 363) zy))) false (bArr 43 false (bNil))))
def zqT (x:ttTstatisticsGather0) (y:ttTstatisticsGather1):Nat:=(Int.toNat x.2.2.2.1+Int.toNat x.2.2.2.2.1+y.1.Columns.length+y.1.Rows.length+Int.toNat y.2.1.1+Int.toNat y.2.1.2.1+y.2.2.1.length+1000)
def zo0 (x:ttTstatisticsGather3) (y:ttTstatisticsGather4):Nat:=(Int.toNat x.2.2.2.1+Int.toNat x.2.2.2.2.2.1+Int.toNat x.2.2.2.2.2.2.1+x.2.2.2.2.2.2.2.1.length+Int.toNat x.2.2.2.2.2.2.2.2.1+Int.toNat x.2.2.2.2.2.2.2.2.2.1+y.1.Columns.length+y.1.Rows.length+Int.toNat y.2.1.1+Int.toNat y.2.1.2.1+Int.toNat y.2.2.1.1+Int.toNat y.2.2.1.2.1+y.2.2.2.1.length+y.2.2.2.2.1.length+1000)
def zo7 (x:ttTstatisticsGather0) (y:ttTstatisticsGather6):Nat:=(Int.toNat x.2.2.2.1+Int.toNat x.2.2.2.2.1+y.1.Columns.length+y.1.Rows.length+Int.toNat y.2.1.1+Int.toNat y.2.1.2.1+Int.toNat y.2.2.1.1+Int.toNat y.2.2.1.2.1+y.2.2.2.1.length+1000)
def zi6:Cx ty:=mkCx base 90 [(35,zoq),(36,zph)] [(36,[true])] [(4,[(1,.keep),(2,.keep),(22,.keep),(23,.keep),(24,.keep)]),(15,[(1,.keep),(2,.keep),(9,.boxOwn [(2,43)]),(61,.keep),(62,.keep)]),(19,[(1,.keep),(2,.keep),(9,.keep),(10,.keep),(11,.own 40),(61,.keep),(62,.keep),(66,.keep),(67,.keep),(68,.keep)])] [(4,1,[(1,.keep),(2,.keep)]),(4,0,[(2,.keep)]),(15,3,[(2,.keep),(9,.keep)]),(19,5,[(1,.keep),(2,.keep),(9,.keep),(11,.keep),(61,.keep),(62,.keep)])] [(4,spW zrC zrD (zmc) (.inl default) zqt zqT),(19,spW zqx zqe (zlz) default zpH zo0),(15,spW zqm zqK (zlb) default zpv zo7)] []
theorem zyY:zZ zi6 (lp (body Tryz.f12) 0):=zP (id:=4) (V:=zrC) (B:=zrD) (W:=zmc) (z:=.inl default) (tr:=zqt) (m:=zqT)
theorem zxx:zZ zi6 (lp (body Tryz.f12) 2):=zP (id:=19) (V:=zqx) (B:=zqe) (W:=zlz) (z:=default) (tr:=zpH) (m:=zo0)
theorem zx0:zZ zi6 (lp (body Tryz.f12) 1):=zP (id:=15) (V:=zqm) (B:=zqK) (W:=zlb) (z:=default) (tr:=zpv) (m:=zo7)
def zsy (t:Table):Wy0 (Stats):=.i (decide (Int.ofNat t.Rows.length>1000000)) (.k (⟨0,0,[]⟩:Stats)) (.i (decide ((0+t.Rows.length)*48≤zds)) (.bn (zz4 ((Int.ofNat ([]++t.Rows).length).toNat +Int.toNat 0+t.Columns.length+t.Rows.length+Int.toNat 0+Int.toNat 0+([]++t.Rows).length+1000) (Int.ofNat ([]++t.Rows).length) 0 t 0 0 ([]++t.Rows)) fun r12=>.i (isL r12) (.k (⟨(getL r12).1,(getL r12).2,[]⟩:Stats)) (.bn (zku (Relation.mk (getR r12).1.Columns [])) fun r11=>.i (r11.2 != 0) (.k (⟨0,0,[]⟩:Stats)) (.bn (zzg ((Int.ofNat (getR r12).1.Columns.length).toNat +Int.toNat 0+(getR r12).1.Columns.length+(getR r12).1.Rows.length+(getR r12).2.1.toNat +(getR r12).2.2.toNat +(getR r12).1.ID.toNat +(Int.ofNat (getR r12).1.Rows.length).toNat +0+1000) (Int.ofNat (getR r12).1.Columns.length) 0 (getR r12).1 (getR r12).2.1 (getR r12).2.2 (getR r12).1.ID (Int.ofNat (getR r12).1.Rows.length) []) fun r10=>.k (⟨r10.2.2.1,r10.2.2.2.1,r10.2.2.2.2⟩:Stats)))) .d)
def zuQ (t:Table):Bool×Stats:=(zsy t).fin default
def zqH (r:Stats):ARes ty:=⟨[.pure (.agg (base.enc 30 r))],[]⟩
def zsN:AL base (Table×Unit):=zg (zh (vAgg 25)) aNil
def zo8:Ab.Spec ty:=zl zsN fun x=>((zuQ x.1).1,zqH (zuQ x.1).2)
theorem zwM:Sound Tryz.prog base 12 zo8:=
 zt (cx':=zi6) zG zn zD (zw ⟨zwd,zww,trivial⟩) Tryz.call12 Tryz.func12 (c:=body Tryz.f12) (by kernel_rfl) (zi (l:=[lp (body Tryz.f12) 0,lp (body Tryz.f12) 1,lp (body Tryz.f12) 2]) (by kernel_rfl) ⟨zyY,zx0,zxx,trivial⟩) (sg:=⟨[.pure],[]⟩) (A:=zsN) (res:=zqH) (W:=fun x=>zsy x.1) (z:=default)
def zk0 (r:Int):ARes ty:=⟨[.pure (.lit (.int .i64 r))],[]⟩
def zl1:AL base (estimator×Scalar×Unit):=zg (zh (vAgg 88)) (zg (zh (vAgg 47)) aNil)
def zdU (F:estimator→Scalar→Bool×Int):Ab.Spec ty:=zl zl1 fun x=>((F x.1 x.2.1).1,zk0 (F x.1 x.2.1).2)
def zrc:Cx ty:=mkCx base 39 [] [] [] [] [] []
def zhk (x_:estimator) (op:Int) (i:Int) (k:Int):Wy0 (Int):=.i (decide (x_.s.Rows>0)) (.i (decide (0≤i)&&decide (i<Int.ofNat x_.s.Columns.length)) (.i (decide (0≤k)&&decide (k<Int.ofNat x_.s.Columns.length)) (.i (!decide ((if (x_.s.Columns.getD k.toNat default).Distinct>(x_.s.Columns.getD i.toNat default).Distinct then (x_.s.Columns.getD k.toNat default).Distinct else (x_.s.Columns.getD i.toNat default).Distinct)=0)) (.i (op==5) (.k (if IntKind.i64.wrap (Int.tdiv 1000 (if (x_.s.Columns.getD k.toNat default).Distinct>(x_.s.Columns.getD i.toNat default).Distinct then (x_.s.Columns.getD k.toNat default).Distinct else (x_.s.Columns.getD i.toNat default).Distinct))>1 then IntKind.i64.wrap (Int.tdiv 1000 (if (x_.s.Columns.getD k.toNat default).Distinct>(x_.s.Columns.getD i.toNat default).Distinct then (x_.s.Columns.getD k.toNat default).Distinct else (x_.s.Columns.getD i.toNat default).Distinct)) else 1)) (.i (op==6) (.k (IntKind.i64.wrap (1000 - if IntKind.i64.wrap (Int.tdiv 1000 (if (x_.s.Columns.getD k.toNat default).Distinct>(x_.s.Columns.getD i.toNat default).Distinct then (x_.s.Columns.getD k.toNat default).Distinct else (x_.s.Columns.getD i.toNat default).Distinct))>1 then IntKind.i64.wrap (Int.tdiv 1000 (if (x_.s.Columns.getD k.toNat default).Distinct>(x_.s.Columns.getD i.toNat default).Distinct then (x_.s.Columns.getD k.toNat default).Distinct else (x_.s.Columns.getD i.toNat default).Distinct)) else 1))) (.k 333))) .d) .d) .d) (.i (op==5) (.k 0) (.i (op==6) (.k (IntKind.i64.wrap (1000 - 0))) (.k 333)))
def zbG (x_:estimator) (op:Int) (i:Int) (k:Int):Bool×Int:=(zhk x_ op i k).fin default
def zjQ (r:Int):ARes ty:=⟨[.pure (.lit (.int .i64 r))],[]⟩
def zkt:AL base (estimator×Int×Int×Int×Unit):=zg (zh (vAgg 88)) (zg (zh (vInt .i64)) (zg (zh (vInt .i64)) (zg (zh (vInt .i64)) aNil)))
def zjv:Ab.Spec ty:=zl zkt fun x=>((zbG x.1 x.2.1 x.2.2.1 x.2.2.2.1).1,zjQ (zbG x.1 x.2.1 x.2.2.1 x.2.2.2.1).2)
theorem zoT:Sound Tryz.prog base 127 zjv:=
 zt (cx':=zrc) zG zn zD (zw trivial) Tryz.call127 Tryz.func127 (c:=body Tryz.f127) (by kernel_rfl) (zi (l:=[]) (by kernel_rfl) trivial) (sg:=⟨[.pure],[]⟩) (A:=zkt) (res:=zjQ) (W:=fun x=>zhk x.1 x.2.1 x.2.2.1 x.2.2.2.1) (z:=default)
def zuH:Cx ty:=mkCx base 36 [(79,zcd)] [] [] [] [] []
def zjo (x_:estimator) (i:Int) (v:Value):Wy0 (Int):=.i (decide (0≤i)&&decide (i<Int.ofNat x_.s.Columns.length)) (.i (x_.s.Rows==0) (.k 0) (.bn (zbL v (x_.s.Columns.getD i.toNat default).Min) fun r1=>.i (decide (r1<0)) (.k 0) (.bn (zbL v (x_.s.Columns.getD i.toNat default).Max) fun r0=>.i (decide (r0>0)) (.k 0) (.i (!decide ((x_.s.Columns.getD i.toNat default).Distinct=0)) (.k (if IntKind.i64.wrap (Int.tdiv 1000 (x_.s.Columns.getD i.toNat default).Distinct)>1 then IntKind.i64.wrap (Int.tdiv 1000 (x_.s.Columns.getD i.toNat default).Distinct) else 1)) .d)))) .d
def zcr (x_:estimator) (i:Int) (v:Value):Bool×Int:=(zjo x_ i v).fin default
def zlU (r:Int):ARes ty:=⟨[.pure (.lit (.int .i64 r))],[]⟩
def znn:AL base (estimator×Int×Value×Unit):=zg (zh (vAgg 88)) (zg (zh (vInt .i64)) (zg (zh (vAgg 40)) aNil))
def zfL:Ab.Spec ty:=zl znn fun x=>((zcr x.1 x.2.1 x.2.2.1).1,zlU (zcr x.1 x.2.1 x.2.2.1).2)
theorem zhH:Sound Tryz.prog base 87 zfL:=
 zt (cx':=zuH) zG zn zD (zw ⟨zcn,trivial⟩) Tryz.call87 Tryz.func87 (c:=body Tryz.f87) (by kernel_rfl) (zi (l:=[]) (by kernel_rfl) trivial) (sg:=⟨[.pure],[]⟩) (A:=znn) (res:=zlU) (W:=fun x=>zjo x.1 x.2.1 x.2.2.1) (z:=default)
abbrev ttTstatisticsestimatorlt0:=Unit×Int×List Value×Int×Int×Unit
def ziH (n_:Int) (t16:List Value) (t17:Int) (t18:Int) (v:Value):Wy ttTstatisticsestimatorlt0 (Value×Unit) (Int):=.i (decide (t18<t17)) (.i (decide (0≤t18)&&decide (t18<Int.ofNat t16.length)) (.bn (zbL (t16.getD t18.toNat default) v) fun r0=>.i (decide (r0<0)) (.h ((),(IntKind.i64.wrap (n_+125)),t16,t17,(IntKind.i64.wrap (t18+1)),()) (v,())) (.h ((),n_,t16,t17,(IntKind.i64.wrap (t18+1)),()) (v,()))) .d) (.k n_)
def ziQ (x:ttTstatisticsestimatorlt0) (y:Value×Unit):Wy ttTstatisticsestimatorlt0 (Value×Unit) (Int):=ziH x.2.1 x.2.2.1 x.2.2.2.1 x.2.2.2.2.1 y.1
def zgJ (n:Nat) (n_:Int) (t16:List Value) (t17:Int) (t18:Int) (v:Value):Bool×Int:=zN (ziQ) default n ((),n_,t16,t17,t18,()) (v,())
def zlY (r:Int):LTree ty:=.done (.exit 0) [.lit (.int .i64 r)] []
def zmF:LL ty ttTstatisticsestimatorlt0:=za (z6 120 0) (za (lInt .i64) (za (lSl 40) (za (lInt .i64) (za (lInt .i64) zy))))
def zmQ:BL ty (Value×Unit):=bBox (zbj (fun x=>(⟨x.1,x.2.1,x.2.2.1⟩:Value)) (fun x=>(x.Kind,x.Int,x.Text,())) (fun _=>rfl) (za (lInt .i64) (za (lInt .i64) (za lStr zy)))) false (bNil)
def zl4 (x:ttTstatisticsestimatorlt0) (y:Value×Unit):Nat:=(Int.toNat x.2.1+x.2.2.1.length+Int.toNat x.2.2.2.1+Int.toNat x.2.2.2.2.1+1000)
def zmE:Cx ty:=mkCx base 30 [(79,zcd)] [] [(3,[(5,.keep),(7,.keep),(16,.keep),(17,.keep),(18,.keep)])] [(3,1,[(7,.keep)])] [(3,spW zmF zmQ (ziQ) default zlY zl4)] []
theorem ztQ:zZ zmE (lp (body Tryz.f60) 0):=zP (id:=3) (V:=zmF) (B:=zmQ) (W:=ziQ) (z:=default) (tr:=zlY) (m:=zl4)
def zjn (x_:estimator) (i:Int) (v:Value):Wy0 (Int):=.i (decide (0≤i)&&decide (i<Int.ofNat x_.s.Columns.length)) (.bn (zgJ (Int.toNat 0+(x_.s.Columns.getD i.toNat default).Bounds.length+(Int.ofNat (x_.s.Columns.getD i.toNat default).Bounds.length).toNat +Int.toNat 0+1000) 0 (x_.s.Columns.getD i.toNat default).Bounds (Int.ofNat (x_.s.Columns.getD i.toNat default).Bounds.length) 0 v) fun r2=>.k r2) .d
def zcX (x_:estimator) (i:Int) (v:Value):Bool×Int:=(zjn x_ i v).fin default
def zlM (r:Int):ARes ty:=⟨[.pure (.lit (.int .i64 r))],[]⟩
def znm:AL base (estimator×Int×Value×Unit):=zg (zh (vAgg 88)) (zg (zh (vInt .i64)) (zg (zh (vAgg 40)) aNil))
def zh3:Ab.Spec ty:=zl znm fun x=>((zcX x.1 x.2.1 x.2.2.1).1,zlM (zcX x.1 x.2.1 x.2.2.1).2)
theorem zk2:Sound Tryz.prog base 60 zh3:=
 zt (cx':=zmE) zG zn zD (zw ⟨zcn,trivial⟩) Tryz.call60 Tryz.func60 (c:=body Tryz.f60) (by kernel_rfl) (zi (l:=[lp (body Tryz.f60) 0]) (by kernel_rfl) ⟨ztQ,trivial⟩) (sg:=⟨[.pure],[]⟩) (A:=znm) (res:=zlM) (W:=fun x=>zjn x.1 x.2.1 x.2.2.1) (z:=default)
def zul:Cx ty:=mkCx base 17 [(60,zh3),(87,zfL)] [] [] [] [] []
def zjp (x_:estimator) (i:Int) (v:Value):Wy0 (Int):=.bn (zcX x_ i v) fun r1=>.bn (zcr x_ i v) fun r0=>.k (if IntKind.i64.wrap (r1+r0)<1000 then IntKind.i64.wrap (r1+r0) else 1000)
def zd4 (x_:estimator) (i:Int) (v:Value):Bool×Int:=(zjp x_ i v).fin default
def zlL (r:Int):ARes ty:=⟨[.pure (.lit (.int .i64 r))],[]⟩
def znf:AL base (estimator×Int×Value×Unit):=zg (zh (vAgg 88)) (zg (zh (vInt .i64)) (zg (zh (vAgg 40)) aNil))
def zls:Ab.Spec ty:=zl znf fun x=>((zd4 x.1 x.2.1 x.2.2.1).1,zlL (zd4 x.1 x.2.1 x.2.2.1).2)
theorem zsr:Sound Tryz.prog base 61 zls:=
 zt (cx':=zul) zG zn zD (zw ⟨zk2,zhH,trivial⟩) Tryz.call61 Tryz.func61 (c:=body Tryz.f61) (by kernel_rfl) (zi (l:=[]) (by kernel_rfl) trivial) (sg:=⟨[.pure],[]⟩) (A:=znf) (res:=zlL) (W:=fun x=>zjp x.1 x.2.1 x.2.2.1) (z:=default)
def zq8:Cx ty:=mkCx base 47 [(60,zh3),(61,zls),(87,zfL)] [] [] [] [] []
def zhr (x_:estimator) (op:Int) (i:Int) (v:Value):Wy0 (Int):=.i (op==5) (.bn (zcr x_ i v) fun r0=>.k r0) (.i (op==6) (.bn (zcr x_ i v) fun r1=>.k (IntKind.i64.wrap (1000 - r1))) (.i (op==7) (.bn (zcX x_ i v) fun r2=>.k r2) (.i (op==8) (.bn (zd4 x_ i v) fun r3=>.k r3) (.i (op==9) (.bn (zd4 x_ i v) fun r4=>.k (IntKind.i64.wrap (1000 - r4))) (.bn (zcX x_ i v) fun r5=>.k (IntKind.i64.wrap (1000 - r5)))))))
def zbH (x_:estimator) (op:Int) (i:Int) (v:Value):Bool×Int:=(zhr x_ op i v).fin default
def zjS (r:Int):ARes ty:=⟨[.pure (.lit (.int .i64 r))],[]⟩
def zkq:AL base (estimator×Int×Int×Value×Unit):=zg (zh (vAgg 88)) (zg (zh (vInt .i64)) (zg (zh (vInt .i64)) (zg (zh (vAgg 40)) aNil)))
def zju:Ab.Spec ty:=zl zkq fun x=>((zbH x.1 x.2.1 x.2.2.1 x.2.2.2.1).1,zjS (zbH x.1 x.2.1 x.2.2.1 x.2.2.2.1).2)
theorem zoP:Sound Tryz.prog base 128 zju:=
 zt (cx':=zq8) zG zn zD (zw ⟨zk2,zsr,zhH,trivial⟩) Tryz.call128 Tryz.func128 (c:=body Tryz.f128) (by kernel_rfl) (zi (l:=[]) (by kernel_rfl) trivial) (sg:=⟨[.pure],[]⟩) (A:=zkq) (res:=zjS) (W:=fun x=>zhr x.1 x.2.1 x.2.2.1 x.2.2.2.1) (z:=default)
def ztM:Cx ty:=mkCx base 15 [] [] [] [] [] []
def ziJ (x_:estimator) (i:Int):Wy0 (Bool):=.i (decide (i≥0)) (.k (decide (i<Int.ofNat x_.s.Columns.length))) (.k false)
def zbP (x_:estimator) (i:Int):Bool×Bool:=(ziJ x_ i).fin default
def zle (r:Bool):ARes ty:=⟨[.pure (.lit (.bool r))],[]⟩
def zmD:AL base (estimator×Int×Unit):=zg (zh (vAgg 88)) (zg (zh (vInt .i64)) aNil)
def zhF:Ab.Spec ty:=zl zmD fun x=>((zbP x.1 x.2.1).1,zle (zbP x.1 x.2.1).2)
theorem zky:Sound Tryz.prog base 59 zhF:=
 zt (cx':=ztM) zG zn zD (zw trivial) Tryz.call59 Tryz.func59 (c:=body Tryz.f59) (by kernel_rfl) (zi (l:=[]) (by kernel_rfl) trivial) (sg:=⟨[.pure],[]⟩) (A:=zmD) (res:=zle) (W:=fun x=>ziJ x.1 x.2.1) (z:=default)
def zxV:Cx ty:=mkCx base 17 [] [] [] [] [] []
def zla (op:Int):Wy0 (Int):=.i (zJW (Value.int IntKind.i64 op) (zvl (Value.int IntKind.i64 10) 8 (zvl (Value.int IntKind.i64 8) 10 (zvl (Value.int IntKind.i64 9) 7 (zvl (Value.int IntKind.i64 7) 9 []))))) (.k ((zJV (Value.int IntKind.i64 op) (zvl (Value.int IntKind.i64 10) 8 (zvl (Value.int IntKind.i64 8) 10 (zvl (Value.int IntKind.i64 9) 7 (zvl (Value.int IntKind.i64 7) 9 []))))).getD 0)) (.k op)
def zhN (op:Int):Bool×Int:=(zla op).fin default
def zoA (r:Int):ARes ty:=⟨[.pure (.lit (.int .i64 r))],[]⟩
def zqZ:AL base (Int×Unit):=zg (zh (vInt .i64)) aNil
def zn5:Ab.Spec ty:=zl zqZ fun x=>((zhN x.1).1,zoA (zhN x.1).2)
theorem zvk:Sound Tryz.prog base 126 zn5:=
 zt (cx':=zxV) zG zn zD (zw trivial) Tryz.call126 Tryz.func126 (c:=body Tryz.f126) (by kernel_rfl) (zi (l:=[]) (by kernel_rfl) trivial) (sg:=⟨[.pure],[]⟩) (A:=zqZ) (res:=zoA) (W:=fun x=>zla x.1) (z:=default)
def zoL:Cx ty:=mkCx base 63 [(59,zhF),(126,zn5),(127,zjv),(128,zju)] [] [] [] [] []
def zgD (x_:estimator) (op:Int) (a:Scalar) (b:Scalar):Wy0 (Int):=.i (a.Kind==0) (.bn (zhN op) fun r6=>.i (b.Kind != 1) (.k 333) (.i (a.Kind==2) (.k 333) (.bn (zbP x_ b.Column) fun r5=>.i (!r5) (.k 333) (.i (a.Kind==1) (.bn (zbP x_ a.Column) fun r2=>.i (!r2) (.k 333) (.i (a.Kind==1) (.bn (zbG x_ r6 b.Column a.Column) fun r0=>.k r0) (.i (a.Kind==0) (.bn (zbH x_ r6 b.Column a.Value) fun r1=>.k r1) (.k 333)))) (.i (a.Kind==1) (.bn (zbG x_ r6 b.Column a.Column) fun r3=>.k r3) (.i (a.Kind==0) (.bn (zbH x_ r6 b.Column a.Value) fun r4=>.k r4) (.k 333))))))) (.i (a.Kind != 1) (.k 333) (.i (b.Kind==2) (.k 333) (.bn (zbP x_ a.Column) fun r12=>.i (!r12) (.k 333) (.i (b.Kind==1) (.bn (zbP x_ b.Column) fun r9=>.i (!r9) (.k 333) (.i (b.Kind==1) (.bn (zbG x_ op a.Column b.Column) fun r7=>.k r7) (.i (b.Kind==0) (.bn (zbH x_ op a.Column b.Value) fun r8=>.k r8) (.k 333)))) (.i (b.Kind==1) (.bn (zbG x_ op a.Column b.Column) fun r10=>.k r10) (.i (b.Kind==0) (.bn (zbH x_ op a.Column b.Value) fun r11=>.k r11) (.k 333)))))))
def zbo (x_:estimator) (op:Int) (a:Scalar) (b:Scalar):Bool×Int:=(zgD x_ op a b).fin default
def ziE (r:Int):ARes ty:=⟨[.pure (.lit (.int .i64 r))],[]⟩
def zjt:AL base (estimator×Int×Scalar×Scalar×Unit):=zg (zh (vAgg 88)) (zg (zh (vInt .i64)) (zg (zh (vAgg 47)) (zg (zh (vAgg 47)) aNil)))
def zil:Ab.Spec ty:=zl zjt fun x=>((zbo x.1 x.2.1 x.2.2.1 x.2.2.2.1).1,ziE (zbo x.1 x.2.1 x.2.2.1 x.2.2.2.1).2)
theorem znF:Sound Tryz.prog base 88 zil:=
 zt (cx':=zoL) zG zn zD (zw ⟨zky,zvk,zoT,zoP,trivial⟩) Tryz.call88 Tryz.func88 (c:=body Tryz.f88) (by kernel_rfl) (zi (l:=[]) (by kernel_rfl) trivial) (sg:=⟨[.pure],[]⟩) (A:=zjt) (res:=ziE) (W:=fun x=>zgD x.1 x.2.1 x.2.2.1 x.2.2.2.1) (z:=default)
def zse (zx:estimator→Scalar→Bool×Int):Cx ty:=mkCx base 121 [(46,(zdU zx)),(59,zhF),(87,zfL),(88,zil)] [] [] [] [] []
def zhE (zx:estimator→Scalar→Bool×Int) (x_:estimator) (e:Scalar):Wy0 (Int):=.i (e.Kind==0) (.i (e.Value.Kind==2&&(e.Value.Int==1&&(e.Value.Text.toList==(ByteArray.mk #[]).toList&&true))) (.k 1000) (.k 0)) (.i (e.Kind==1) (.bn (zbP x_ e.Column) fun r12=>.i (r12) (.bn (zcr x_ e.Column (Value.mk 2 1 (ByteArray.mk #[]))) fun r0=>.k r0) (.i (e.Kind != 2) (.k 333) (.i (e.Op==13) (.i (Int.ofNat e.Args.length==1) (.i (decide ((0:Int)≤(0:Int))&&decide (0<Int.ofNat e.Args.length)) (.bn (zx x_ (Scalar.mk (e.Args.getD (Int.toNat 0) default).Kind (e.Args.getD (Int.toNat 0) default).Column (e.Args.getD (Int.toNat 0) default).Value (e.Args.getD (Int.toNat 0) default).Op (e.Args.getD (Int.toNat 0) default).Args)) fun r1=>.k (IntKind.i64.wrap (1000 - r1))) .d) (.i (Int.ofNat e.Args.length != 2) (.k 333) (.i (e.Op==11) (.i (decide ((0:Int)≤(0:Int))&&decide (0<Int.ofNat e.Args.length)) (.bn (zx x_ (Scalar.mk (e.Args.getD (Int.toNat 0) default).Kind (e.Args.getD (Int.toNat 0) default).Column (e.Args.getD (Int.toNat 0) default).Value (e.Args.getD (Int.toNat 0) default).Op (e.Args.getD (Int.toNat 0) default).Args)) fun r3=>.i (decide ((0:Int)≤(1:Int))&&decide (1<Int.ofNat e.Args.length)) (.bn (zx x_ (Scalar.mk (e.Args.getD (Int.toNat 1) default).Kind (e.Args.getD (Int.toNat 1) default).Column (e.Args.getD (Int.toNat 1) default).Value (e.Args.getD (Int.toNat 1) default).Op (e.Args.getD (Int.toNat 1) default).Args)) fun r2=>.k (IntKind.i64.wrap ((IntKind.i64.wrap (r3*r2)).tdiv 1000))) .d) .d) (.i (e.Op==12) (.i (decide ((0:Int)≤(0:Int))&&decide (0<Int.ofNat e.Args.length)) (.bn (zx x_ (Scalar.mk (e.Args.getD (Int.toNat 0) default).Kind (e.Args.getD (Int.toNat 0) default).Column (e.Args.getD (Int.toNat 0) default).Value (e.Args.getD (Int.toNat 0) default).Op (e.Args.getD (Int.toNat 0) default).Args)) fun r5=>.i (decide ((0:Int)≤(1:Int))&&decide (1<Int.ofNat e.Args.length)) (.bn (zx x_ (Scalar.mk (e.Args.getD (Int.toNat 1) default).Kind (e.Args.getD (Int.toNat 1) default).Column (e.Args.getD (Int.toNat 1) default).Value (e.Args.getD (Int.toNat 1) default).Op (e.Args.getD (Int.toNat 1) default).Args)) fun r4=>.k (IntKind.i64.wrap (IntKind.i64.wrap (r5+r4) - IntKind.i64.wrap ((IntKind.i64.wrap (r5*r4)).tdiv 1000)))) .d) .d) (.i (decide (e.Op≥5)) (.i (decide (e.Op≤10)) (.i (decide ((0:Int)≤(0:Int))&&decide (0<Int.ofNat e.Args.length)) (.i (decide ((0:Int)≤(1:Int))&&decide (1<Int.ofNat e.Args.length)) (.bn (zbo x_ e.Op (Scalar.mk (e.Args.getD (Int.toNat 0) default).Kind (e.Args.getD (Int.toNat 0) default).Column (e.Args.getD (Int.toNat 0) default).Value (e.Args.getD (Int.toNat 0) default).Op (e.Args.getD (Int.toNat 0) default).Args) (Scalar.mk (e.Args.getD (Int.toNat 1) default).Kind (e.Args.getD (Int.toNat 1) default).Column (e.Args.getD (Int.toNat 1) default).Value (e.Args.getD (Int.toNat 1) default).Op (e.Args.getD (Int.toNat 1) default).Args)) fun r6=>.k r6) .d) .d) (.k 333)) (.k 333)))))) (.i (Int.ofNat e.Args.length != 2) (.k 333) (.i (e.Op==11) (.i (decide ((0:Int)≤(0:Int))&&decide (0<Int.ofNat e.Args.length)) (.bn (zx x_ (Scalar.mk (e.Args.getD (Int.toNat 0) default).Kind (e.Args.getD (Int.toNat 0) default).Column (e.Args.getD (Int.toNat 0) default).Value (e.Args.getD (Int.toNat 0) default).Op (e.Args.getD (Int.toNat 0) default).Args)) fun r8=>.i (decide ((0:Int)≤(1:Int))&&decide (1<Int.ofNat e.Args.length)) (.bn (zx x_ (Scalar.mk (e.Args.getD (Int.toNat 1) default).Kind (e.Args.getD (Int.toNat 1) default).Column (e.Args.getD (Int.toNat 1) default).Value (e.Args.getD (Int.toNat 1) default).Op (e.Args.getD (Int.toNat 1) default).Args)) fun r7=>.k (IntKind.i64.wrap ((IntKind.i64.wrap (r8*r7)).tdiv 1000))) .d) .d) (.i (e.Op==12) (.i (decide ((0:Int)≤(0:Int))&&decide (0<Int.ofNat e.Args.length)) (.bn (zx x_ (Scalar.mk (e.Args.getD (Int.toNat 0) default).Kind (e.Args.getD (Int.toNat 0) default).Column (e.Args.getD (Int.toNat 0) default).Value (e.Args.getD (Int.toNat 0) default).Op (e.Args.getD (Int.toNat 0) default).Args)) fun r10=>.i (decide ((0:Int)≤(1:Int))&&decide (1<Int.ofNat e.Args.length)) (.bn (zx x_ (Scalar.mk (e.Args.getD (Int.toNat 1) default).Kind (e.Args.getD (Int.toNat 1) default).Column (e.Args.getD (Int.toNat 1) default).Value (e.Args.getD (Int.toNat 1) default).Op (e.Args.getD (Int.toNat 1) default).Args)) fun r9=>.k (IntKind.i64.wrap (IntKind.i64.wrap (r10+r9) - IntKind.i64.wrap ((IntKind.i64.wrap (r10*r9)).tdiv 1000)))) .d) .d) (.i (decide (e.Op≥5)) (.i (decide (e.Op≤10)) (.i (decide ((0:Int)≤(0:Int))&&decide (0<Int.ofNat e.Args.length)) (.i (decide ((0:Int)≤(1:Int))&&decide (1<Int.ofNat e.Args.length)) (.bn (zbo x_ e.Op (Scalar.mk (e.Args.getD (Int.toNat 0) default).Kind (e.Args.getD (Int.toNat 0) default).Column (e.Args.getD (Int.toNat 0) default).Value (e.Args.getD (Int.toNat 0) default).Op (e.Args.getD (Int.toNat 0) default).Args) (Scalar.mk (e.Args.getD (Int.toNat 1) default).Kind (e.Args.getD (Int.toNat 1) default).Column (e.Args.getD (Int.toNat 1) default).Value (e.Args.getD (Int.toNat 1) default).Op (e.Args.getD (Int.toNat 1) default).Args)) fun r11=>.k r11) .d) .d) (.k 333)) (.k 333)))))))) (.i (e.Kind != 2) (.k 333) (.i (e.Op==13) (.i (Int.ofNat e.Args.length==1) (.i (decide ((0:Int)≤(0:Int))&&decide (0<Int.ofNat e.Args.length)) (.bn (zx x_ (Scalar.mk (e.Args.getD (Int.toNat 0) default).Kind (e.Args.getD (Int.toNat 0) default).Column (e.Args.getD (Int.toNat 0) default).Value (e.Args.getD (Int.toNat 0) default).Op (e.Args.getD (Int.toNat 0) default).Args)) fun r13=>.k (IntKind.i64.wrap (1000 - r13))) .d) (.i (Int.ofNat e.Args.length != 2) (.k 333) (.i (e.Op==11) (.i (decide ((0:Int)≤(0:Int))&&decide (0<Int.ofNat e.Args.length)) (.bn (zx x_ (Scalar.mk (e.Args.getD (Int.toNat 0) default).Kind (e.Args.getD (Int.toNat 0) default).Column (e.Args.getD (Int.toNat 0) default).Value (e.Args.getD (Int.toNat 0) default).Op (e.Args.getD (Int.toNat 0) default).Args)) fun r15=>.i (decide ((0:Int)≤(1:Int))&&decide (1<Int.ofNat e.Args.length)) (.bn (zx x_ (Scalar.mk (e.Args.getD (Int.toNat 1) default).Kind (e.Args.getD (Int.toNat 1) default).Column (e.Args.getD (Int.toNat 1) default).Value (e.Args.getD (Int.toNat 1) default).Op (e.Args.getD (Int.toNat 1) default).Args)) fun r14=>.k (IntKind.i64.wrap ((IntKind.i64.wrap (r15*r14)).tdiv 1000))) .d) .d) (.i (e.Op==12) (.i (decide ((0:Int)≤(0:Int))&&decide (0<Int.ofNat e.Args.length)) (.bn (zx x_ (Scalar.mk (e.Args.getD (Int.toNat 0) default).Kind (e.Args.getD (Int.toNat 0) default).Column (e.Args.getD (Int.toNat 0) default).Value (e.Args.getD (Int.toNat 0) default).Op (e.Args.getD (Int.toNat 0) default).Args)) fun r17=>.i (decide ((0:Int)≤(1:Int))&&decide (1<Int.ofNat e.Args.length)) (.bn (zx x_ (Scalar.mk (e.Args.getD (Int.toNat 1) default).Kind (e.Args.getD (Int.toNat 1) default).Column (e.Args.getD (Int.toNat 1) default).Value (e.Args.getD (Int.toNat 1) default).Op (e.Args.getD (Int.toNat 1) default).Args)) fun r16=>.k (IntKind.i64.wrap (IntKind.i64.wrap (r17+r16) - IntKind.i64.wrap ((IntKind.i64.wrap (r17*r16)).tdiv 1000)))) .d) .d) (.i (decide (e.Op≥5)) (.i (decide (e.Op≤10)) (.i (decide ((0:Int)≤(0:Int))&&decide (0<Int.ofNat e.Args.length)) (.i (decide ((0:Int)≤(1:Int))&&decide (1<Int.ofNat e.Args.length)) (.bn (zbo x_ e.Op (Scalar.mk (e.Args.getD (Int.toNat 0) default).Kind (e.Args.getD (Int.toNat 0) default).Column (e.Args.getD (Int.toNat 0) default).Value (e.Args.getD (Int.toNat 0) default).Op (e.Args.getD (Int.toNat 0) default).Args) (Scalar.mk (e.Args.getD (Int.toNat 1) default).Kind (e.Args.getD (Int.toNat 1) default).Column (e.Args.getD (Int.toNat 1) default).Value (e.Args.getD (Int.toNat 1) default).Op (e.Args.getD (Int.toNat 1) default).Args)) fun r18=>.k r18) .d) .d) (.k 333)) (.k 333)))))) (.i (Int.ofNat e.Args.length != 2) (.k 333) (.i (e.Op==11) (.i (decide ((0:Int)≤(0:Int))&&decide (0<Int.ofNat e.Args.length)) (.bn (zx x_ (Scalar.mk (e.Args.getD (Int.toNat 0) default).Kind (e.Args.getD (Int.toNat 0) default).Column (e.Args.getD (Int.toNat 0) default).Value (e.Args.getD (Int.toNat 0) default).Op (e.Args.getD (Int.toNat 0) default).Args)) fun r20=>.i (decide ((0:Int)≤(1:Int))&&decide (1<Int.ofNat e.Args.length)) (.bn (zx x_ (Scalar.mk (e.Args.getD (Int.toNat 1) default).Kind (e.Args.getD (Int.toNat 1) default).Column (e.Args.getD (Int.toNat 1) default).Value (e.Args.getD (Int.toNat 1) default).Op (e.Args.getD (Int.toNat 1) default).Args)) fun r19=>.k (IntKind.i64.wrap ((IntKind.i64.wrap (r20*r19)).tdiv 1000))) .d) .d) (.i (e.Op==12) (.i (decide ((0:Int)≤(0:Int))&&decide (0<Int.ofNat e.Args.length)) (.bn (zx x_ (Scalar.mk (e.Args.getD (Int.toNat 0) default).Kind (e.Args.getD (Int.toNat 0) default).Column (e.Args.getD (Int.toNat 0) default).Value (e.Args.getD (Int.toNat 0) default).Op (e.Args.getD (Int.toNat 0) default).Args)) fun r22=>.i (decide ((0:Int)≤(1:Int))&&decide (1<Int.ofNat e.Args.length)) (.bn (zx x_ (Scalar.mk (e.Args.getD (Int.toNat 1) default).Kind (e.Args.getD (Int.toNat 1) default).Column (e.Args.getD (Int.toNat 1) default).Value (e.Args.getD (Int.toNat 1) default).Op (e.Args.getD (Int.toNat 1) default).Args)) fun r21=>.k (IntKind.i64.wrap (IntKind.i64.wrap (r22+r21) - IntKind.i64.wrap ((IntKind.i64.wrap (r22*r21)).tdiv 1000)))) .d) .d) (.i (decide (e.Op≥5)) (.i (decide (e.Op≤10)) (.i (decide ((0:Int)≤(0:Int))&&decide (0<Int.ofNat e.Args.length)) (.i (decide ((0:Int)≤(1:Int))&&decide (1<Int.ofNat e.Args.length)) (.bn (zbo x_ e.Op (Scalar.mk (e.Args.getD (Int.toNat 0) default).Kind (e.Args.getD (Int.toNat 0) default).Column (e.Args.getD (Int.toNat 0) default).Value (e.Args.getD (Int.toNat 0) default).Op (e.Args.getD (Int.toNat 0) default).Args) (Scalar.mk (e.Args.getD (Int.toNat 1) default).Kind (e.Args.getD (Int.toNat 1) default).Column (e.Args.getD (Int.toNat 1) default).Value (e.Args.getD (Int.toNat 1) default).Op (e.Args.getD (Int.toNat 1) default).Args)) fun r23=>.k r23) .d) .d) (.k 333)) (.k 333))))))))
def zdZ (zx:estimator→Scalar→Bool×Int) (x_:estimator) (e:Scalar):Bool×Int:=(zhE zx x_ e).fin default
theorem zpy (zx:estimator→Scalar→Bool×Int) (zsq:Sound Tryz.prog base 46 (zdU zx)):Sound Tryz.prog base 46 (zdU (zdZ zx)):=
 zt (cx':=(zse zx)) zG zn zD (zw ⟨zsq,zky,zhH,znF,trivial⟩) Tryz.call46 Tryz.func46 (c:=body Tryz.f46) (by kernel_rfl) (zi (l:=[]) (by kernel_rfl) trivial) (sg:=⟨[.pure],[]⟩) (A:=zl1) (res:=zk0) (W:=fun x=>zhE zx x.1 x.2.1) (z:=default)
def zGr:Nat→(estimator→Scalar→Bool×Int)
 | 0=>fun _ _=>(false,default)
 | n+1=>zdZ (zGr n)
def zcQ (n:Nat):estimator→Scalar→Bool×Int:=zGr n
theorem zrp (n:Nat):zcQ (n+1)=zdZ (zcQ n):=rfl
theorem zD5:∀ n,Sound Tryz.prog base 46 (zdU (zcQ n))
 | 0=>zbe Tryz.call46 (fun _=>rfl)
 | n+1=>by
  have ih:=zD5 n
  exact zpy _ (ih)
def zjc:estimator→Scalar→Bool×Int:=zcQ 1000
def statistics_estimator_cond_spec:Ab.Spec ty:=zdU zjc
theorem zq4:Sound Tryz.prog base 46 statistics_estimator_cond_spec:=(zD5 1000)
def zvd:Cx ty:=mkCx base 12 [(15,ziB),(46,statistics_estimator_cond_spec)] [] [] [] [] []
def zjK (s:Stats) (cond:Scalar):Wy0 (Int):=.bn (zh2 s) fun r1=>.i (!r1) (.k 0) (.bn (zjc (estimator.mk s) (Scalar.mk cond.Kind cond.Column cond.Value cond.Op cond.Args)) fun r0=>.k r0)
def zgs (s:Stats) (cond:Scalar):Bool×Int:=(zjK s cond).fin default
def zmJ (r:Int):ARes ty:=⟨[.pure (.lit (.int .i64 r))],[]⟩
def znI:AL base (Stats×Scalar×Unit):=zg (zh (vAgg 30)) (zg (zh (vAgg 47)) aNil)
def zij:Ab.Spec ty:=zl znI fun x=>((zgs x.1 x.2.1).1,zmJ (zgs x.1 x.2.1).2)
theorem zlD:Sound Tryz.prog base 19 zij:=
 zt (cx':=zvd) zG zn zD (zw ⟨zkN,zq4,trivial⟩) Tryz.call19 Tryz.func19 (c:=body Tryz.f19) (by kernel_rfl) (zi (l:=[]) (by kernel_rfl) trivial) (sg:=⟨[.pure],[]⟩) (A:=znI) (res:=zmJ) (W:=fun x=>zjK x.1 x.2.1) (z:=default)
abbrev ttTlaw37awake0:=Unit×Unit×Int×Int×Unit
abbrev ttTlaw37awake1:=(Int×ByteArray×Unit×Unit×Unit)×List Int×List Column×List Row×Unit
abbrev ttTlaw37awake2:=Int×ByteArray×List Column×List Row
def zER (t10:Int) (t11:Int) (t_0:Int) (t_1:ByteArray) (t9:List Int) (b2:List Column) (b3:List Row):Wy ttTlaw37awake0 ttTlaw37awake1 ttTlaw37awake2:=.i (decide (t11<t10)) (.i (decide (0≤t11)&&decide (t11<Int.ofNat t9.length)) (.i (decide ((b3.length+[Row.mk [(zpN (t9.getD t11.toNat default)).2] []].length)*48≤zds)) (.h ((),(),t10,(IntKind.i64.wrap (t11+1)),()) ((t_0,t_1,(),(),()),t9,b2,(b3++[Row.mk [(zpN (t9.getD t11.toNat default)).2] []]),())) .d) .d) (.k (t_0,t_1,b2,b3))
def zyj (x:ttTlaw37awake0) (y:ttTlaw37awake1):Wy ttTlaw37awake0 ttTlaw37awake1 ttTlaw37awake2:=zER x.2.2.1 x.2.2.2.1 y.1.1 y.1.2.1 y.2.1 y.2.2.1 y.2.2.2.1
def zwR (r:ttTlaw37awake2):LTree ty:=.done (.exit 0) [.ptr 368 0] [.box ([.lit (.int .i64 r.1),.lit (.string r.2.1),.own 369,.own 370]) false,.arr 67 r.2.2.1 false,.arr 38 r.2.2.2 false]
def zyK:LL ty ttTlaw37awake0:=za (z6 368 0) (za (lOwn 369) (za (lInt .i64) (za (lInt .i64) zy)))
def zyt:BL ty ttTlaw37awake1:=bBox (za (lInt .i64) (za lStr (za (lOwn 370) (za (lOwn 371) zy)))) false (bArr 2 false (bArr 67 false (bArr 38 false (bNil))))
def zxm (x:ttTlaw37awake0) (y:ttTlaw37awake1):Nat:=(Int.toNat x.2.2.1+Int.toNat x.2.2.2.1+Int.toNat y.1.1+y.1.2.1.size+y.2.1.length+y.2.2.1.length+y.2.2.2.1.length+1000)
def zy6:Cx ty:=mkCx base0 92 [(12,zo8),(15,ziB),(19,zij),(21,ztG),(24,zoZ),(32,zt4),(33,zw4)] [] [(3,[(1,.boxOwn [(3,38)]),(9,.keep),(10,.keep),(11,.keep)])] [(3,1,[(1,.keep)])] [(3,spW zyK zyt (zyj) default zwR zxm)] []
theorem zD7:zZ zy6 (lp (body Tryz.f10) 0):=zP (id:=3) (V:=zyK) (B:=zyt) (W:=zyj) (z:=default) (tr:=zwR) (m:=zxm)
def zAA:Wy0 (Bool):=.k true
def zCT:Bool×Bool:=(zAA).fin default
def zw6 (r:Bool):ARes ty:=⟨[.pure (.lit (.bool r))],[]⟩
def zAu:AL base0 (Unit):=aNil
def zvt:Ab.Spec ty:=zl zAu fun x=>((zCT ).1,zw6 (zCT ).2)
theorem zCj:Sound Tryz.prog base0 10 zvt:=
 zt (cx':=zy6) zG zsZ zD (zw ⟨zwM.nodr,zkN.nodr,zlD.nodr,zAV.nodr,zwL,zAU.nodr,zDa.nodr,trivial⟩) Tryz.call10 Tryz.func10 (c:=body Tryz.f10) (by kernel_rfl) (zi (l:=[lp (body Tryz.f10) 0]) (by kernel_rfl) ⟨zD7,trivial⟩) (sg:=⟨[.pure],[]⟩) (A:=zAu) (res:=zw6) (W:=fun x=>zAA ) (z:=default)
abbrev ttTref01Short0:=List Value×Int×Int×Unit
abbrev ttTref01Short1:=Bool⊕(List Value×Int)
def ztq (l:List Value) (n_:Int) (i:Int):Wy ttTref01Short0 (Unit) ttTref01Short1:=.i (decide (i<Int.ofNat l.length)) (.i (decide (0≤i)&&decide (i<Int.ofNat l.length)) (.i (decide (Int.ofNat (l.getD i.toNat default).Text.size>300)) (.k (.inl false)) (.h (l,n_,(IntKind.i64.wrap (i+1)),()) ())) .d) (.k (.inr (l,n_)))
def zs1 (x:ttTref01Short0) (y:Unit):Wy ttTref01Short0 (Unit) ttTref01Short1:=ztq x.1 x.2.1 x.2.2.1
def zts (n:Nat) (l:List Value) (n_:Int) (i:Int):Bool×ttTref01Short1:=zN (zs1) (.inl default) n (l,n_,i,()) ()
def zxb (r:ttTref01Short1):LTree ty:=.ite (isL r) (.done .ret [.lit (.bool (getL r))] []) (.done (.exit 0) [.sl 40 (getR r).1,.lit (.int .i64 (getR r).2)] [])
def zyH:LL ty ttTref01Short0:=za (lSl 40) (za (lInt .i64) (za (lInt .i64) zy))
def zye:BL ty (Unit):=bNil
def zxv (x:ttTref01Short0) (y:Unit):Nat:=(x.1.length+Int.toNat x.2.1+Int.toNat x.2.2.1+1)
def zyE:Cx ty:=mkCx base 23 [] [] [(2,[(0,.keep),(1,.keep),(5,.keep)])] [(2,1,[(0,.keep),(1,.keep)]),(2,0,[(4,.keep)])] [(2,spW zyH zye (zs1) (.inl default) zxb zxv)] []
theorem zEd:zZ zyE (lp (body Tryz.f27) 0):=zP (id:=2) (V:=zyH) (B:=zye) (W:=zs1) (z:=.inl default) (tr:=zxb) (m:=zxv)
def zuv (l:List Value) (n_:Int):Wy0 (Bool):=.bn (zts (l.length+n_.toNat +Int.toNat 0+1) l n_ 0) fun r0=>.i (isL r0) (.k (getL r0)) (.k (decide (Int.ofNat (getR r0).1.length≤(getR r0).2)))
def zm0 (l:List Value) (n_:Int):Bool×Bool:=(zuv l n_).fin default
def zxg (r:Bool):ARes ty:=⟨[.pure (.lit (.bool r))],[]⟩
def zAM:AL base (List Value×Int×Unit):=zg (zh (vSl 40)) (zg (zh (vInt .i64)) aNil)
def zvB:Ab.Spec ty:=zl zAM fun x=>((zm0 x.1 x.2.1).1,zxg (zm0 x.1 x.2.1).2)
theorem zCo:Sound Tryz.prog base 27 zvB:=
 zt (cx':=zyE) zG zn zD (zw trivial) Tryz.call27 Tryz.func27 (c:=body Tryz.f27) (by kernel_rfl) (zi (l:=[lp (body Tryz.f27) 0]) (by kernel_rfl) ⟨zEd,trivial⟩) (sg:=⟨[.pure],[]⟩) (A:=zAM) (res:=zxg) (W:=fun x=>zuv x.1 x.2.1) (z:=default)
abbrev ttTref37Few0:=Unit×Int×Unit
def zwp (i:Int) (s:Stats):Wy ttTref37Few0 (Stats×Unit) (Bool⊕Stats):=.i (decide (i<Int.ofNat s.Columns.length)) (.i (decide (0≤i)&&decide (i<Int.ofNat s.Columns.length)) (.bn (zm0 (s.Columns.getD i.toNat default).Bounds 20) fun r0=>.i (!r0) (.k (.inl false)) (.i (decide (0≤i)&&decide (i<Int.ofNat s.Columns.length)) (.i (decide (0≤i)&&decide (i<Int.ofNat s.Columns.length)) (.i (decide (IntKind.i64.wrap (Int.ofNat (s.Columns.getD i.toNat default).Min.Text.size+Int.ofNat (s.Columns.getD i.toNat default).Max.Text.size)>600)) (.k (.inl false)) (.h ((),(IntKind.i64.wrap (i+1)),()) (s,()))) .d) .d)) .d) (.k (.inr s))
def zvJ (x:ttTref37Few0) (y:Stats×Unit):Wy ttTref37Few0 (Stats×Unit) (Bool⊕Stats):=zwp x.2.1 y.1
def zwf (n:Nat) (i:Int) (s:Stats):Bool×(Bool⊕Stats):=zN (zvJ) (.inl default) n ((),i,()) (s,())
def zAG (r:Bool⊕Stats):LTree ty:=.ite (isL r) (.done .ret [.lit (.bool (getL r))] []) (.done (.exit 0) [.ptr 172 0] [.box (base.enc 30 (getR r)) false])
def zBx:LL ty ttTref37Few0:=za (z6 172 0) (za (lInt .i64) zy)
def zBU:BL ty (Stats×Unit):=bBox (zbj (fun x=>(⟨x.1,x.2.1,x.2.2.1⟩:Stats)) (fun x=>(x.Table,x.Rows,x.Columns,())) (fun _=>rfl) (za (lInt .i64) (za (lInt .i64) (za (lSl 43) zy)))) false (bNil)
def zAt (x:ttTref37Few0) (y:Stats×Unit):Nat:=(Int.toNat x.2.1+y.1.Columns.length+1)
def zA8:Cx ty:=mkCx base 43 [(27,zvB)] [] [(2,[(1,.keep),(3,.keep)])] [(2,1,[(1,.keep)]),(2,0,[(2,.keep)])] [(2,spW zBx zBU (zvJ) (.inl default) zAG zAt)] []
theorem zFE:zZ zA8 (lp (body Tryz.f17) 0):=zP (id:=2) (V:=zBx) (B:=zBU) (W:=zvJ) (z:=.inl default) (tr:=zAG) (m:=zAt)
def zxN (s:Stats):Wy0 (Bool):=.bn (zwf (Int.toNat 0+s.Columns.length+1) 0 s) fun r2=>.i (isL r2) (.k (getL r2)) (.k (decide (Int.ofNat (getR r2).Columns.length≤20)))
def zuf (s:Stats):Bool×Bool:=(zxN s).fin default
def zAN (r:Bool):ARes ty:=⟨[.pure (.lit (.bool r))],[]⟩
def zC0:AL base (Stats×Unit):=zg (zh (vAgg 30)) aNil
def zyN:Ab.Spec ty:=zl zC0 fun x=>((zuf x.1).1,zAN (zuf x.1).2)
theorem zDP:Sound Tryz.prog base 17 zyN:=
 zt (cx':=zA8) zG zn zD (zw ⟨zCo,trivial⟩) Tryz.call17 Tryz.func17 (c:=body Tryz.f17) (by kernel_rfl) (zi (l:=[lp (body Tryz.f17) 0]) (by kernel_rfl) ⟨zFE,trivial⟩) (sg:=⟨[.pure],[]⟩) (A:=zC0) (res:=zAN) (W:=fun x=>zxN x.1) (z:=default)
def ztT (r:Int):ARes ty:=⟨[.pure (.lit (.int .i64 r))],[]⟩
def zv3:AL base (Stats×Scalar×Unit):=zg (zh (vAgg 30)) (zg (zh (vAgg 47)) aNil)
def zjU (F:Stats→Scalar→Bool×Int):Ab.Spec ty:=zl zv3 fun x=>((F x.1 x.2.1).1,ztT (F x.1 x.2.1).2)
def zDb:Cx ty:=mkCx base 39 [] [] [] [] [] []
def zr3 (s:Stats) (op:Int) (a:Int) (b:Int):Wy0 (Int):=.i (op != 5) (.i (op != 6) (.k 333) (.i (decide (s.Rows>0)) (.i (decide (0≤a)&&decide (a<Int.ofNat s.Columns.length)) (.i (decide (0≤b)&&decide (b<Int.ofNat s.Columns.length)) (.i (!decide ((if (s.Columns.getD b.toNat default).Distinct>(s.Columns.getD a.toNat default).Distinct then (s.Columns.getD b.toNat default).Distinct else (s.Columns.getD a.toNat default).Distinct)=0)) (.i (op==6) (.k (IntKind.i64.wrap (1000 - if IntKind.i64.wrap (Int.tdiv 1000 (if (s.Columns.getD b.toNat default).Distinct>(s.Columns.getD a.toNat default).Distinct then (s.Columns.getD b.toNat default).Distinct else (s.Columns.getD a.toNat default).Distinct))>1 then IntKind.i64.wrap (Int.tdiv 1000 (if (s.Columns.getD b.toNat default).Distinct>(s.Columns.getD a.toNat default).Distinct then (s.Columns.getD b.toNat default).Distinct else (s.Columns.getD a.toNat default).Distinct)) else 1))) (.k (if IntKind.i64.wrap (Int.tdiv 1000 (if (s.Columns.getD b.toNat default).Distinct>(s.Columns.getD a.toNat default).Distinct then (s.Columns.getD b.toNat default).Distinct else (s.Columns.getD a.toNat default).Distinct))>1 then IntKind.i64.wrap (Int.tdiv 1000 (if (s.Columns.getD b.toNat default).Distinct>(s.Columns.getD a.toNat default).Distinct then (s.Columns.getD b.toNat default).Distinct else (s.Columns.getD a.toNat default).Distinct)) else 1))) .d) .d) .d) (.i (op==6) (.k (IntKind.i64.wrap (1000 - 0))) (.k 0)))) (.i (decide (s.Rows>0)) (.i (decide (0≤a)&&decide (a<Int.ofNat s.Columns.length)) (.i (decide (0≤b)&&decide (b<Int.ofNat s.Columns.length)) (.i (!decide ((if (s.Columns.getD b.toNat default).Distinct>(s.Columns.getD a.toNat default).Distinct then (s.Columns.getD b.toNat default).Distinct else (s.Columns.getD a.toNat default).Distinct)=0)) (.i (op==6) (.k (IntKind.i64.wrap (1000 - if IntKind.i64.wrap (Int.tdiv 1000 (if (s.Columns.getD b.toNat default).Distinct>(s.Columns.getD a.toNat default).Distinct then (s.Columns.getD b.toNat default).Distinct else (s.Columns.getD a.toNat default).Distinct))>1 then IntKind.i64.wrap (Int.tdiv 1000 (if (s.Columns.getD b.toNat default).Distinct>(s.Columns.getD a.toNat default).Distinct then (s.Columns.getD b.toNat default).Distinct else (s.Columns.getD a.toNat default).Distinct)) else 1))) (.k (if IntKind.i64.wrap (Int.tdiv 1000 (if (s.Columns.getD b.toNat default).Distinct>(s.Columns.getD a.toNat default).Distinct then (s.Columns.getD b.toNat default).Distinct else (s.Columns.getD a.toNat default).Distinct))>1 then IntKind.i64.wrap (Int.tdiv 1000 (if (s.Columns.getD b.toNat default).Distinct>(s.Columns.getD a.toNat default).Distinct then (s.Columns.getD b.toNat default).Distinct else (s.Columns.getD a.toNat default).Distinct)) else 1))) .d) .d) .d) (.i (op==6) (.k (IntKind.i64.wrap (1000 - 0))) (.k 0)))
def zkl (s:Stats) (op:Int) (a:Int) (b:Int):Bool×Int:=(zr3 s op a b).fin default
def zu0 (r:Int):ARes ty:=⟨[.pure (.lit (.int .i64 r))],[]⟩
def zw8:AL base (Stats×Int×Int×Int×Unit):=zg (zh (vAgg 30)) (zg (zh (vInt .i64)) (zg (zh (vInt .i64)) (zg (zh (vInt .i64)) aNil)))
def ztD:Ab.Spec ty:=zl zw8 fun x=>((zkl x.1 x.2.1 x.2.2.1 x.2.2.2.1).1,zu0 (zkl x.1 x.2.1 x.2.2.1 x.2.2.2.1).2)
theorem zAW:Sound Tryz.prog base 92 ztD:=
 zt (cx':=zDb) zG zn zD (zw trivial) Tryz.call92 Tryz.func92 (c:=body Tryz.f92) (by kernel_rfl) (zi (l:=[]) (by kernel_rfl) trivial) (sg:=⟨[.pure],[]⟩) (A:=zw8) (res:=zu0) (W:=fun x=>zr3 x.1 x.2.1 x.2.2.1 x.2.2.2.1) (z:=default)
def zG6:Cx ty:=mkCx base 34 [(16,zii)] [] [] [] [] []
def zva (s:Stats) (k:Int) (v:Value):Wy0 (Int):=.i (decide (0≤k)&&decide (k<Int.ofNat s.Columns.length)) (.i (s.Rows==0) (.k 0) (.bn (zee v (s.Columns.getD k.toNat default).Min) fun r1=>.i (decide (r1<0)) (.k 0) (.bn (zee v (s.Columns.getD k.toNat default).Max) fun r0=>.i (decide (r0>0)) (.k 0) (.i (!decide ((s.Columns.getD k.toNat default).Distinct=0)) (.k (if IntKind.i64.wrap (Int.tdiv 1000 (s.Columns.getD k.toNat default).Distinct)>1 then IntKind.i64.wrap (Int.tdiv 1000 (s.Columns.getD k.toNat default).Distinct) else 1)) .d)))) .d
def zkV (s:Stats) (k:Int) (v:Value):Bool×Int:=(zva s k v).fin default
def zB2 (r:Int):ARes ty:=⟨[.pure (.lit (.int .i64 r))],[]⟩
def zEh:AL base (Stats×Int×Value×Unit):=zg (zh (vAgg 30)) (zg (zh (vInt .i64)) (zg (zh (vAgg 40)) aNil))
def zpO:Ab.Spec ty:=zl zEh fun x=>((zkV x.1 x.2.1 x.2.2.1).1,zB2 (zkV x.1 x.2.1 x.2.2.1).2)
theorem zs6:Sound Tryz.prog base 89 zpO:=
 zt (cx':=zG6) zG zn zD (zw ⟨zj1,trivial⟩) Tryz.call89 Tryz.func89 (c:=body Tryz.f89) (by kernel_rfl) (zi (l:=[]) (by kernel_rfl) trivial) (sg:=⟨[.pure],[]⟩) (A:=zEh) (res:=zB2) (W:=fun x=>zva x.1 x.2.1 x.2.2.1) (z:=default)
abbrev ttTref37lt0:=Int×Unit×Unit×Int×Int×Unit
abbrev ttTref37lt1:=Stats×Value×Unit
def zxM (k:Int) (n_:Int) (i:Int) (s:Stats) (v:Value):Wy ttTref37lt0 ttTref37lt1 (Int):=.i (decide (0≤k)&&decide (k<Int.ofNat s.Columns.length)) (.i (decide (i<Int.ofNat (s.Columns.getD k.toNat default).Bounds.length)) (.i (decide (0≤k)&&decide (k<Int.ofNat s.Columns.length)) (.i (decide (0≤i)&&decide (i<Int.ofNat (s.Columns.getD k.toNat default).Bounds.length)) (.bn (zee ((s.Columns.getD k.toNat default).Bounds.getD i.toNat default) v) fun r0=>.i (decide (r0<0)) (.h (k,(),(),(IntKind.i64.wrap (n_+125)),(IntKind.i64.wrap (i+1)),()) (s,v,())) (.h (k,(),(),n_,(IntKind.i64.wrap (i+1)),()) (s,v,()))) .d) .d) (.k n_)) .d
def zxQ (x:ttTref37lt0) (y:ttTref37lt1):Wy ttTref37lt0 ttTref37lt1 (Int):=zxM x.1 x.2.2.2.1 x.2.2.2.2.1 y.1 y.2.1
def ztz (n:Nat) (k:Int) (n_:Int) (i:Int) (s:Stats) (v:Value):Bool×Int:=zN (zxQ) default n (k,(),(),n_,i,()) (s,v,())
def zBB (r:Int):LTree ty:=.done (.exit 0) [.lit (.int .i64 r)] []
def zCC:LL ty ttTref37lt0:=za (lInt .i64) (za (z6 140 0) (za (z6 141 0) (za (lInt .i64) (za (lInt .i64) zy))))
def zCX:BL ty ttTref37lt1:=bBox (zbj (fun x=>(⟨x.1,x.2.1,x.2.2.1⟩:Stats)) (fun x=>(x.Table,x.Rows,x.Columns,())) (fun _=>rfl) (za (lInt .i64) (za (lInt .i64) (za (lSl 43) zy)))) false (bBox (zbj (fun x=>(⟨x.1,x.2.1,x.2.2.1⟩:Value)) (fun x=>(x.Kind,x.Int,x.Text,())) (fun _=>rfl) (za (lInt .i64) (za (lInt .i64) (za lStr zy)))) false (bNil))
def zA9 (x:ttTref37lt0) (y:ttTref37lt1):Nat:=(Int.toNat x.1+Int.toNat x.2.2.2.1+Int.toNat x.2.2.2.2.1+y.1.Columns.length+1000)
def zCD:Cx ty:=mkCx base 35 [(16,zii)] [] [(3,[(1,.keep),(3,.keep),(5,.keep),(7,.keep),(8,.keep)])] [(3,1,[(7,.keep)])] [(3,spW zCC zCX (zxQ) default zBB zA9)] []
theorem zGj:zZ zCD (lp (body Tryz.f63) 0):=zP (id:=3) (V:=zCC) (B:=zCX) (W:=zxQ) (z:=default) (tr:=zBB) (m:=zA9)
def zzx (s:Stats) (k:Int) (v:Value):Wy0 (Int):=.bn (ztz (k.toNat +Int.toNat 0+Int.toNat 0+s.Columns.length+1000) k 0 0 s v) fun r2=>.k r2
def zpZ (s:Stats) (k:Int) (v:Value):Bool×Int:=(zzx s k v).fin default
def zBZ (r:Int):ARes ty:=⟨[.pure (.lit (.int .i64 r))],[]⟩
def zD9:AL base (Stats×Int×Value×Unit):=zg (zh (vAgg 30)) (zg (zh (vInt .i64)) (zg (zh (vAgg 40)) aNil))
def zuC:Ab.Spec ty:=zl zD9 fun x=>((zpZ x.1 x.2.1 x.2.2.1).1,zBZ (zpZ x.1 x.2.1 x.2.2.1).2)
theorem zy8:Sound Tryz.prog base 63 zuC:=
 zt (cx':=zCD) zG zn zD (zw ⟨zj1,trivial⟩) Tryz.call63 Tryz.func63 (c:=body Tryz.f63) (by kernel_rfl) (zi (l:=[lp (body Tryz.f63) 0]) (by kernel_rfl) ⟨zGj,trivial⟩) (sg:=⟨[.pure],[]⟩) (A:=zD9) (res:=zBZ) (W:=fun x=>zzx x.1 x.2.1 x.2.2.1) (z:=default)
def zHi:Cx ty:=mkCx base 17 [(63,zuC),(89,zpO)] [] [] [] [] []
def zzs (s:Stats) (k:Int) (v:Value):Wy0 (Int):=.bn (zpZ s k v) fun r1=>.bn (zkV s k v) fun r0=>.k (if IntKind.i64.wrap (r1+r0)<1000 then IntKind.i64.wrap (r1+r0) else 1000)
def ztr (s:Stats) (k:Int) (v:Value):Bool×Int:=(zzs s k v).fin default
def zBc (r:Int):ARes ty:=⟨[.pure (.lit (.int .i64 r))],[]⟩
def zD1:AL base (Stats×Int×Value×Unit):=zg (zh (vAgg 30)) (zg (zh (vInt .i64)) (zg (zh (vAgg 40)) aNil))
def zAB:Ab.Spec ty:=zl zD1 fun x=>((ztr x.1 x.2.1 x.2.2.1).1,zBc (ztr x.1 x.2.1 x.2.2.1).2)
theorem zEO:Sound Tryz.prog base 64 zAB:=
 zt (cx':=zHi) zG zn zD (zw ⟨zy8,zs6,trivial⟩) Tryz.call64 Tryz.func64 (c:=body Tryz.f64) (by kernel_rfl) (zi (l:=[]) (by kernel_rfl) trivial) (sg:=⟨[.pure],[]⟩) (A:=zD1) (res:=zBc) (W:=fun x=>zzs x.1 x.2.1 x.2.2.1) (z:=default)
def zCg:Cx ty:=mkCx base 47 [(63,zuC),(64,zAB),(89,zpO)] [] [] [] [] []
def zmp (s:Stats) (op:Int) (k:Int) (v:Value):Wy0 (Int):=.i (op==5) (.bn (zkV s k v) fun r0=>.k r0) (.i (op==6) (.bn (zkV s k v) fun r1=>.k (IntKind.i64.wrap (1000 - r1))) (.i (op==7) (.bn (zpZ s k v) fun r2=>.k r2) (.i (op==8) (.bn (ztr s k v) fun r3=>.k r3) (.i (op==9) (.bn (ztr s k v) fun r4=>.k (IntKind.i64.wrap (1000 - r4))) (.bn (zpZ s k v) fun r5=>.k (IntKind.i64.wrap (1000 - r5)))))))
def zg1 (s:Stats) (op:Int) (k:Int) (v:Value):Bool×Int:=(zmp s op k v).fin default
def zt9 (r:Int):ARes ty:=⟨[.pure (.lit (.int .i64 r))],[]⟩
def zwb:AL base (Stats×Int×Int×Value×Unit):=zg (zh (vAgg 30)) (zg (zh (vInt .i64)) (zg (zh (vInt .i64)) (zg (zh (vAgg 40)) aNil)))
def zsJ:Ab.Spec ty:=zl zwb fun x=>((zg1 x.1 x.2.1 x.2.2.1 x.2.2.2.1).1,zt9 (zg1 x.1 x.2.1 x.2.2.1 x.2.2.2.1).2)
theorem zzG:Sound Tryz.prog base 90 zsJ:=
 zt (cx':=zCg) zG zn zD (zw ⟨zy8,zEO,zs6,trivial⟩) Tryz.call90 Tryz.func90 (c:=body Tryz.f90) (by kernel_rfl) (zi (l:=[]) (by kernel_rfl) trivial) (sg:=⟨[.pure],[]⟩) (A:=zwb) (res:=zt9) (W:=fun x=>zmp x.1 x.2.1 x.2.2.1 x.2.2.2.1) (z:=default)
def zG3:Cx ty:=mkCx base 14 [] [] [] [] [] []
def zxz (s:Stats) (k:Int):Wy0 (Bool):=.i (decide (k≥0)) (.k (decide (k<Int.ofNat s.Columns.length))) (.k false)
def zlX (s:Stats) (k:Int):Bool×Bool:=(zxz s k).fin default
def zAl (r:Bool):ARes ty:=⟨[.pure (.lit (.bool r))],[]⟩
def zCF:AL base (Stats×Int×Unit):=zg (zh (vAgg 30)) (zg (zh (vInt .i64)) aNil)
def zyv:Ab.Spec ty:=zl zCF fun x=>((zlX x.1 x.2.1).1,zAl (zlX x.1 x.2.1).2)
theorem zD3:Sound Tryz.prog base 62 zyv:=
 zt (cx':=zG3) zG zn zD (zw trivial) Tryz.call62 Tryz.func62 (c:=body Tryz.f62) (by kernel_rfl) (zi (l:=[]) (by kernel_rfl) trivial) (sg:=⟨[.pure],[]⟩) (A:=zCF) (res:=zAl) (W:=fun x=>zxz x.1 x.2.1) (z:=default)
def zEt:Cx ty:=mkCx base 13 [] [] [] [] [] []
def ztb (op:Int):Wy0 (Int):=.i (op==7) (.k 9) (.i (op==8) (.k 10) (.i (op==9) (.k 7) (.i (op==10) (.k 8) (.k op))))
def znQ (op:Int):Bool×Int:=(ztb op).fin default
def zwv (r:Int):ARes ty:=⟨[.pure (.lit (.int .i64 r))],[]⟩
def zyS:AL base (Int×Unit):=zg (zh (vInt .i64)) aNil
def zuM:Ab.Spec ty:=zl zyS fun x=>((znQ x.1).1,zwv (znQ x.1).2)
theorem zB4:Sound Tryz.prog base 91 zuM:=
 zt (cx':=zEt) zG zn zD (zw trivial) Tryz.call91 Tryz.func91 (c:=body Tryz.f91) (by kernel_rfl) (zi (l:=[]) (by kernel_rfl) trivial) (sg:=⟨[.pure],[]⟩) (A:=zyS) (res:=zwv) (W:=fun x=>ztb x.1) (z:=default)
end Go.Proofs.YtddkaehkimnklaaGreatDoor
end
