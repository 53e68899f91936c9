/- Texts of this claim, joined (the program, its functions in plain words, and what they compute). -/
import Derived.WalkKit
import Derived.WalkSpells
import Derived.Test.YtddkaehkimnklaaGreatDoorGC1
import Derived.Test.YtddkaehkimnklaaGreatDoorGA3
import Derived.Test.YtddkaehkimnklaaGreatDoorGC3
import Derived.Test.YtddkaehkimnklaaGreatDoorGB1
import Derived.Test.YtddkaehkimnklaaGreatDoorGC2
set_option autoImplicit false
set_option linter.unusedVariables false
set_option linter.unusedSectionVars false
set_option linter.unusedSimpArgs false
set_option maxRecDepth 1000000
set_option maxHeartbeats 0
noncomputable section
namespace Go.Proofs.YtddkaehkimnklaaGreatDoor
open Go Go.Ab
abbrev ttTslicesIndexFuncLapiRowapiRowno0:=List Row×Unit×Int×Int×Unit
def zmB (s:List Row) (t7:Int) (t8:Int):Wy ttTslicesIndexFuncLapiRowapiRowno0 (Unit) (Int⊕Unit):=.i (decide (t8<t7)) (.i (decide (0≤t8)&&decide (t8<Int.ofNat s.length)) (.i ((zio (s.getD t8.toNat default)).2) (.k (.inl t8)) (.h (s,(),t7,(IntKind.i64.wrap (t8+1)),()) ())) .d) (.k (.inr ()))
def zek (x:ttTslicesIndexFuncLapiRowapiRowno0) (y:Unit):Wy ttTslicesIndexFuncLapiRowapiRowno0 (Unit) (Int⊕Unit):=zmB x.1 x.2.2.1 x.2.2.2.1
def zmK (n:Nat) (s:List Row) (t7:Int) (t8:Int):Bool×(Int⊕Unit):=zN (zek) (.inl default) n (s,(),t7,t8,()) ()
def zhf (r:Int⊕Unit):LTree ty:=.ite (isL r) (.done .ret [.lit (.int .i64 (getL r))] []) (.done (.exit 0) [] [])
def zhp:LL ty ttTslicesIndexFuncLapiRowapiRowno0:=za (lSl 38) (za (lFn 72 (zG)) (za (lInt .i64) (za (lInt .i64) zG)))
def zhq:BL ty (Unit):=bNil
def zhb (x:ttTslicesIndexFuncLapiRowapiRowno0) (y:Unit):Nat:=(x.1.length+Int.toNat x.2.2.1+Int.toNat x.2.2.2.1+1000)
def zhr:Cx ty:=mkCx base 19 [(72,zgD)] [] [(2,[(0,.keep),(1,.keep),(7,.keep),(8,.keep)])] [(2,1,[]),(2,0,[(4,.keep)])] [(2,spW zhp zhq (zek) (.inl default) zhf zhb)] []
theorem zmo:zS zhr (lp (body Tryz.f112) 0):=zL (id:=2) (V:=zhp) (B:=zhq) (W:=zek) (z:=.inl default) (tr:=zhf) (m:=zhb)
def zhG (s:List Row):Wy0 (Int):=.bn (zmK (s.length+(Int.ofNat s.length).toNat +Int.toNat 0+1000) s (Int.ofNat s.length) 0) fun r0=>.i (isL r0) (.k (getL r0)) (.k (-1:Int))
def zfq (s:List Row):Bool×Int:=(zhG s).fin default
def zhd (r:Int):ARes ty:=⟨[.pure (.lit (.int .i64 r))],[]⟩
def zhH:AL base (List Row×Unit×Unit):=zf (zg (vSl 38)) (zf (zg (vFn 72 vNil)) aNil)
def zg6:Ab.Spec ty:=zm zhH fun x=>((zfq x.1).1,zhd (zfq x.1).2)
theorem zlo:Sound Tryz.prog base 112 zg6:=
 zu (cx':=zhr) zH zn zD (zx ⟨zih,trivial⟩) Tryz.call112 Tryz.func112 (c:=body Tryz.f112) (by kernel_rfl) (zh (l:=[lp (body Tryz.f112) 0]) (by kernel_rfl) ⟨zmo,trivial⟩) (sg:=⟨[.pure],[]⟩) (A:=zhH) (res:=zhd) (W:=fun x=>zhG x.1) (z:=default)
abbrev ttTslicesDeleteFuncLapiRowapiRow0:=Unit×Unit×Int×Int×Unit
abbrev ttTslicesDeleteFuncLapiRowapiRow1:=List Row×Unit
abbrev ttTslicesDeleteFuncLapiRowapiRow2:=Int×List Row
def znH (i:Int) (j:Int) (s:List Row):Wy ttTslicesDeleteFuncLapiRowapiRow0 ttTslicesDeleteFuncLapiRowapiRow1 ttTslicesDeleteFuncLapiRowapiRow2:=.i (decide (j<Int.ofNat s.length)) (.i (decide (0≤j)&&decide (j<Int.ofNat s.length)) (.i (!(zio (s.getD j.toNat default)).2) (.i (decide (0≤i)&&decide (i<Int.ofNat s.length)) (.i (decide (i.toNat<s.length)) (.h ((),(),(IntKind.i64.wrap (i+1)),(IntKind.i64.wrap (j+1)),()) ((s.set i.toNat (s.getD j.toNat default)),())) .d) .d) (.h ((),(),i,(IntKind.i64.wrap (j+1)),()) (s,()))) .d) (.k (i,s))
def ze0 (x:ttTslicesDeleteFuncLapiRowapiRow0) (y:ttTslicesDeleteFuncLapiRowapiRow1):Wy ttTslicesDeleteFuncLapiRowapiRow0 ttTslicesDeleteFuncLapiRowapiRow1 ttTslicesDeleteFuncLapiRowapiRow2:=znH x.2.2.1 x.2.2.2.1 y.1
def znJ (n:Nat) (i:Int) (j:Int) (s:List Row):Bool×ttTslicesDeleteFuncLapiRowapiRow2:=zN (ze0) default n ((),(),i,j,()) (s,())
def zhL (r:ttTslicesDeleteFuncLapiRowapiRow2):LTree ty:=.done (.exit 0) [.own 168,.lit (.int .i64 r.1)] [.arr 38 r.2 false]
def zhU:LL ty ttTslicesDeleteFuncLapiRowapiRow0:=za (lOwn 168) (za (lFn 72 (zG)) (za (lInt .i64) (za (lInt .i64) zG)))
def zhT:BL ty ttTslicesDeleteFuncLapiRowapiRow1:=bArr 38 false (bNil)
def zhE (x:ttTslicesDeleteFuncLapiRowapiRow0) (y:ttTslicesDeleteFuncLapiRowapiRow1):Nat:=(Int.toNat x.2.2.1+Int.toNat x.2.2.2.1+y.1.length+1000)
def zhV:Cx ty:=mkCx base 42 [(72,zgD),(112,zg6)] [] [(5,[(0,.keep),(1,.keep),(5,.keep),(6,.keep)])] [(5,1,[(0,.keep),(5,.keep)])] [(5,spW zhU zhT (ze0) default zhL zhE)] []
theorem zmU:zS zhV (lp (body Tryz.f70) 0):=zL (id:=5) (V:=zhU) (B:=zhT) (W:=ze0) (z:=default) (tr:=zhL) (m:=zhE)
def zii (s:List Row):Wy0 (List Row):=.bn (zfq s) fun r1=>.i (r1==(-1:Int)) (.k s) (.bn (znJ (r1.toNat +(IntKind.i64.wrap (r1+1)).toNat +s.length+1000) r1 (IntKind.i64.wrap (r1+1)) s) fun r0=>.i (decide (0≤r0.1)&&decide (r0.1≤Int.ofNat r0.2.length)&&decide (Int.ofNat r0.2.length≤Int.ofNat r0.2.length)) (.i (decide (r0.1.toNat +((Int.ofNat r0.2.length).toNat - r0.1.toNat)≤r0.2.length)) (.i (decide ((0:Int)≤(0:Int))&&decide (0≤r0.1)&&decide (r0.1≤Int.ofNat (List.take r0.1.toNat r0.2++List.replicate ((Int.ofNat r0.2.length).toNat - r0.1.toNat) (Row.mk [] [])++List.drop (r0.1.toNat +((Int.ofNat r0.2.length).toNat - r0.1.toNat)) r0.2).length)) (.k (List.take (r0.1.toNat - Int.toNat 0) (List.take r0.1.toNat r0.2++List.replicate ((Int.ofNat r0.2.length).toNat - r0.1.toNat) (Row.mk [] [])++List.drop (r0.1.toNat +((Int.ofNat r0.2.length).toNat - r0.1.toNat)) r0.2))) .d) .d) .d)
def zcx (s:List Row):Bool×List Row:=(zii s).fin default
def zhD (r:List Row):ARes ty:=⟨[.own 38 r],[none]⟩
def zh6:AL base (List Row×Unit×Unit):=zf (aOwn 38) (zf (zg (vFn 72 vNil)) aNil)
def zhs:Ab.Spec ty:=zm zh6 fun x=>((zcx x.1).1,zhD (zcx x.1).2)
theorem zmm:Sound Tryz.prog base 70 zhs:=
 zu (cx':=zhV) zH zn zD (zx ⟨zih,zlo,trivial⟩) Tryz.call70 Tryz.func70 (c:=body Tryz.f70) (by kernel_rfl) (zh (l:=[lp (body Tryz.f70) 0]) (by kernel_rfl) ⟨zmU,trivial⟩) (sg:=⟨[.own 38],[false]⟩) (A:=zh6) (res:=zhD) (W:=fun x=>zii x.1) (z:=default)
def zfH (x:List Row) (a b:Int):Bool×List Row:=zEN zbC x a b
def slices_insertionSortCmpFunc_api_Row_spec:Ab.Spec ty:=zm (cx:=base) (zf (aOwn 38) (zf (zg (vInt .i64)) (zf (zg (vInt .i64)) (zf (zg (vFn 74 vNil)) aNil)))) fun x=>((zfH x.1 x.2.1 x.2.2.1).1,⟨[],[some ⟨38,(zfH x.1 x.2.1 x.2.2.1).2⟩]⟩)
theorem zmv (c:Unit) (x y:Row) (h:(zbC x y).1=true):zkW ((AV.agg (base.enc 38 x)::AV.agg (base.enc 38 y)::(vNil:VL base Unit).enc c).map Arg.pure)=some (true,⟨[.pure (.lit (.int .i64 (zbC x y).2))],[]⟩):=by
 rw [← h]; kernel_rfl
theorem zlp:Sound Tryz.prog base 159 slices_insertionSortCmpFunc_api_Row_spec:=by
 letI:DecidableEq (ty 38):=inferInstanceAs (DecidableEq Row)
 exact zIu (T:=38) zn rfl Go.Proofs.Tryz.insR Tryz.isAgg38 (by unfold szOf; exact Tryz.sizeOf38) Tryz.call159 zp1 vNil (fun c=>zbC) zmv
open Go.Proofs Go.RowKit
def zb4 (x:List Row) (m:Int):Bool×List Row:=(decide (SortOK zbC x)&&(decide (m=x.length)&&decide (m<20)),zi5 zbC x)
def zjo:Ab.Spec ty:=zm (cx:=base) (zf (aOwn 38) (zf (zg (vInt .i64)) (zf (zg (vFn 74 vNil)) aNil))) fun x=>((zb4 x.1 x.2.1).1,⟨[],[some ⟨38,(zb4 x.1 x.2.1).2⟩]⟩)
set_option maxHeartbeats 1000000 in
theorem zo2:Sound Tryz.prog base 113 zjo where
 enters:=Tryz.call113
 calls:=fun avs r hsp w F vs hF ha hsep=>by
  unfold zjo zm at hsp
  split at hsp
  ·rename_i x hx
   simp only [Option.some.injEq,Prod.mk.injEq] at hsp
   obtain ⟨hpre,rfl⟩:=hsp
   have hk:=(zf (aOwn 38) (zf (zg (vInt .i64)) (zf (zg (vFn 74 vNil)) aNil)):AL base _).kind vs avs x hx
   have ha':=(zf (aOwn 38) (zf (zg (vInt .i64)) (zf (zg (vFn 74 vNil)) aNil)):AL base _).ok Tryz.prog zn F w vs avs x hx ha
   rw [hk] at hsep ⊢
   clear hk hx ha
   obtain ⟨l0,m,c,u0⟩:=x
   obtain ⟨l,rfl⟩:∃ l:List Row,l=l0:=⟨l0,rfl⟩
   obtain ⟨v,vs',rfl,hv,hv'⟩:=ha'.inv
   obtain ⟨mv,vs1,rfl,hm,hv1⟩:=hv'.inv
   obtain ⟨fv,vs'',rfl,hfv,h0⟩:=hv1.inv
   obtain rfl:=h0.nil_left.1
   have hm:Rep base F w mv (.lit (.int .i64 m)):=hm
   obtain rfl:mv=.int .i64 m:=by cases hm; rfl
   have hsl:∃ p cap,v=.slice p l.length cap:=by
    obtain ⟨⟨xs,hown,_⟩,_⟩:=(show zb8 base F w v 38 l∧∀ b,zO v=some b→¬ F b from hv)
    rcases hown.2 with ⟨h1,h2⟩ | ⟨g0,cap,cur,h1,_⟩
    ·exact ⟨none,0,by rw [h1,show l.length=0 from h2]⟩
    ·exact ⟨_,cap,h1⟩
   have hpre:(decide (SortOK (α:=Row) zbC l)&&(decide (m=l.length)&&decide (m<20)))=true:=hpre
   simp only [Bool.and_eq_true,decide_eq_true_eq] at hpre
   obtain ⟨hok,rfl,h20⟩:=hpre
   have hpp:(zfH l 0 (l.length:Int)).1=true:=by
    show (decide (SortOK (α:=Row) zbC l)&&(decide ((0:Int)=0)&&decide ((l.length:Int)=l.length)))=true
    simp only [Bool.and_eq_true,decide_eq_true_eq]
    exact ⟨hok,trivial,trivial⟩
   have hp:=(zlp).calls [.own 38 l,.pure (.lit (.int .i64 0)),.pure (.lit (.int .i64 (l.length:Int))),.pure (.fn 74 [])] ⟨[],[some ⟨38,(zb4 l (l.length:Int)).2⟩]⟩
    (by rw [← hpp]; kernel_rfl) w F [v,.int .i64 0,.int .i64 (l.length:Int),fv] hF (.cons hv (.cons (Rep.lit _) (.cons (Rep.lit _) (.cons hfv .nil)))) hsep
   replace hp:Calls Tryz.prog 159 #[v,.int .i64 0,.int .i64 (l.length:Int),fv] w fun e w'=>∃ u,e=.returned u∧Post base F w [v] ⟨[],[some ⟨38,(zb4 l (l.length:Int)).2⟩]⟩ u w':=hp
   show Calls Tryz.prog 113 #[v,.int .i64 (l.length:Int),fv] w fun e w'=>∃ u,e=.returned u∧Post base F w [v] ⟨[],[some ⟨38,(zb4 l (l.length:Int)).2⟩]⟩ u w'
   generalize (zb4 l (l.length:Int)).2=res at hp ⊢
   generalize hn:l.length=m at *
   clear hpp hv hfv hsep hok hF hm
   obtain ⟨p,cap,rfl⟩:=hsl
   clear hn
   go_enter Tryz.func113,Tryz.ntmps113
   go_wp2
   refine wp_loop_rounds 1 ?_
   rw [rounds_succ]
   go_wp2_with (go_at_call 159; refine hp.mono ?_; rintro e w' ⟨u,rfl,hpost⟩; obtain rfl:=hpost.unit)
   refine wp_loop_rounds 1 ?_
   rw [rounds_succ]
   go_wp2
   all_goals first | (exfalso; omega) | (go_end0; exact ⟨_,rfl,hpost⟩)
  ·cases hsp
end Go.Proofs.YtddkaehkimnklaaGreatDoor
namespace Go.Proofs.YtddkaehkimnklaaGreatDoor
open Go Go.Ab
open Go.Proofs Go.RowKit
def zZ (x:List Row):Bool×List Row:=(decide (SortOK zbC x)&&decide (x.length<20),zi5 zbC x)
def zdi:Ab.Spec ty:=zm (cx:=base) (zf (aOwn 38) (zf (zg (vFn 74 vNil)) aNil)) fun x=>((zZ x.1).1,⟨[],[some ⟨38,(zZ x.1).2⟩]⟩)
set_option maxHeartbeats 1000000 in
theorem zkt:Sound Tryz.prog base 73 zdi where
 enters:=Tryz.call73
 calls:=fun avs r hsp w F vs hF ha hsep=>by
  unfold zdi zm at hsp
  split at hsp
  ·rename_i x hx
   simp only [Option.some.injEq,Prod.mk.injEq] at hsp
   obtain ⟨hpre,rfl⟩:=hsp
   have hk:=(zf (aOwn 38) (zf (zg (vFn 74 vNil)) aNil):AL base _).kind vs avs x hx
   have ha':=(zf (aOwn 38) (zf (zg (vFn 74 vNil)) aNil):AL base _).ok Tryz.prog zn F w vs avs x hx ha
   rw [hk] at hsep ⊢
   clear hk hx ha
   obtain ⟨l0,c,u0⟩:=x
   obtain ⟨l,rfl⟩:∃ l:List Row,l=l0:=⟨l0,rfl⟩
   obtain ⟨v,vs',rfl,hv,hv'⟩:=ha'.inv
   obtain ⟨fv,vs'',rfl,hfv,h0⟩:=hv'.inv
   obtain rfl:=h0.nil_left.1
   have hsl:∃ p cap,v=.slice p l.length cap:=by
    obtain ⟨⟨xs,hown,_⟩,_⟩:=(show zb8 base F w v 38 l∧∀ b,zO v=some b→¬ F b from hv)
    rcases hown.2 with ⟨h1,h2⟩ | ⟨g0,cap,cur,h1,_⟩
    ·exact ⟨none,0,by rw [h1,show l.length=0 from h2]⟩
    ·exact ⟨_,cap,h1⟩
   have hpre:(decide (SortOK (α:=Row) zbC l)&&decide (l.length<20))=true:=hpre
   simp only [Bool.and_eq_true,decide_eq_true_eq] at hpre
   obtain ⟨hok,h20⟩:=hpre
   have hpp:(zb4 l (l.length:Int)).1=true:=by
    show (decide (SortOK (α:=Row) zbC l)&&(decide ((l.length:Int)=l.length)&&decide ((l.length:Int)<20)))=true
    simp only [Bool.and_eq_true,decide_eq_true_eq]
    exact ⟨hok,trivial,by omega⟩
   have hp:=(zo2).calls [.own 38 l,.pure (.lit (.int .i64 (l.length:Int))),.pure (.fn 74 [])] ⟨[],[some ⟨38,(zZ l).2⟩]⟩
    (by rw [← hpp]; kernel_rfl) w F [v,.int .i64 (l.length:Int),fv] hF (.cons hv (.cons (Rep.lit _) (.cons hfv .nil))) hsep
   replace hp:Calls Tryz.prog 113 #[v,.int .i64 (l.length:Int),fv] w fun e w'=>∃ u,e=.returned u∧Post base F w [v] ⟨[],[some ⟨38,(zZ l).2⟩]⟩ u w':=hp
   show Calls Tryz.prog 73 #[v,fv] w fun e w'=>∃ u,e=.returned u∧Post base F w [v] ⟨[],[some ⟨38,(zZ l).2⟩]⟩ u w'
   generalize (zZ l).2=res at hp ⊢
   generalize hn:l.length=m at *
   clear hpp hv hfv hsep hok hF
   obtain ⟨p,cap,rfl⟩:=hsl
   clear hn
   go_enter Tryz.func73,Tryz.ntmps73
   go_wp2_with (go_at_call 113; refine hp.mono ?_; rintro e w' ⟨u,rfl,hpost⟩; obtain rfl:=hpost.unit)
   go_end0
   exact ⟨_,rfl,hpost⟩
  ·cases hsp
end Go.Proofs.YtddkaehkimnklaaGreatDoor
namespace Go.Proofs.YtddkaehkimnklaaGreatDoor
open Go Go.Ab
abbrev ttTrelationNormalize0:=Unit×Unit×List Row×Int×Int×Unit
abbrev ttTrelationNormalize1:=Relation×(Unit×Unit×Unit)×Unit
abbrev ttTrelationNormalize2:=Int⊕Relation
abbrev ttTrelationNormalize3:=Unit×Unit×Unit×Int×Int×Unit
abbrev ttTrelationNormalize4:=(Unit×Unit×Unit)×(Unit×Unit×Unit)×List Row×List Column×List Row×Unit
abbrev ttTrelationNormalize5:=List Column×List Row
def zk9 (t19:List Row) (t20:Int) (t21:Int) (r:Relation):Wy ttTrelationNormalize0 ttTrelationNormalize1 ttTrelationNormalize2:=.i (decide (t21<t20)) (.i (decide (0≤t21)&&decide (t21<Int.ofNat t19.length)) (.bn (zj6 r.Columns (t19.getD t21.toNat default).Values) fun r5=>.i (!r5) (.k (.inl 7)) (.bn (zmn (t19.getD t21.toNat default).Ann) fun r4=>.i (!r4) (.k (.inl 1)) (.h ((),(),t19,t20,(IntKind.i64.wrap (t21+1)),()) (r,((),(),()),())))) .d) (.k (.inr r))
def zgX (x:ttTrelationNormalize0) (y:ttTrelationNormalize1):Wy ttTrelationNormalize0 ttTrelationNormalize1 ttTrelationNormalize2:=zk9 x.2.2.1 x.2.2.2.1 x.2.2.2.2.1 y.1
def zkP (n:Nat) (t19:List Row) (t20:Int) (t21:Int) (r:Relation):Bool×ttTrelationNormalize2:=zN (zgX) (.inl default) n ((),(),t19,t20,t21,()) (r,((),(),()),())
def zpx (r:ttTrelationNormalize2):LTree ty:=.ite (isL r) (.done .ret [.ptr 440 0,.lit (.int .i64 (getL r))] [.box ([.lit (.slice none 0 0),.lit (.slice none 0 0)]) false]) (.done (.exit 0) [.ptr 440 0,.ptr 441 0] [.box (base.enc 73 (getR r)) false,.box ([.lit (.slice none 0 0),.lit (.slice none 0 0)]) false])
def zqP:LL ty ttTrelationNormalize0:=za (zct 440 0) (za (zct 441 0) (za (lSl 38) (za (lInt .i64) (za (lInt .i64) zG))))
def zqw:BL ty ttTrelationNormalize1:=bBox (zhc (fun x=>(⟨x.1,x.2.1⟩:Relation)) (fun x=>(x.Columns,x.Rows,())) (fun _=>rfl) (za (lSl 67) (za (lSl 38) zG))) false (bBox (za lNil (za lNil zG)) false (bNil))
def zyq (t49:Int) (t50:Int) (t48:List Row) (b3:List Column) (b4:List Row):Wy ttTrelationNormalize3 ttTrelationNormalize4 ttTrelationNormalize5:=.i (decide (t50<t49)) (.i (decide (0≤t50)&&decide (t50<Int.ofNat t48.length)) (.i (Int.ofNat b4.length==0) (.bn (znv (t48.getD t50.toNat default) (t48.getD t50.toNat default).Ann) fun r8=>.i (decide ((b4.length+[r8].length)*48≤reach)) (.h ((),(),(),t49,(IntKind.i64.wrap (t50+1)),()) (((),(),()),((),(),()),t48,b3,(b4++[r8]),())) .d) (.i (decide (0≤IntKind.i64.wrap (Int.ofNat b4.length - 1))&&decide (IntKind.i64.wrap (Int.ofNat b4.length - 1)<Int.ofNat b4.length)) (.bn (zbC (b4.getD (IntKind.i64.wrap (Int.ofNat b4.length - 1)).toNat default) (t48.getD t50.toNat default)) fun r11=>.i (r11 != 0) (.bn (znv (t48.getD t50.toNat default) (t48.getD t50.toNat default).Ann) fun r9=>.i (decide ((b4.length+[r9].length)*48≤reach)) (.h ((),(),(),t49,(IntKind.i64.wrap (t50+1)),()) (((),(),()),((),(),()),t48,b3,(b4++[r9]),())) .d) (.i (decide (0≤IntKind.i64.wrap (Int.ofNat b4.length - 1))&&decide (IntKind.i64.wrap (Int.ofNat b4.length - 1)<Int.ofNat b4.length)) (.bn (zyJ (b4.getD (IntKind.i64.wrap (Int.ofNat b4.length - 1)).toNat default).Ann (t48.getD t50.toNat default).Ann) fun r10=>.i (decide (0≤IntKind.i64.wrap (Int.ofNat b4.length - 1))&&decide (IntKind.i64.wrap (Int.ofNat b4.length - 1)<Int.ofNat b4.length)) (.i (decide ((IntKind.i64.wrap (Int.ofNat b4.length - 1)).toNat<b4.length)) (.h ((),(),(),t49,(IntKind.i64.wrap (t50+1)),()) (((),(),()),((),(),()),t48,b3,(b4.set (IntKind.i64.wrap (Int.ofNat b4.length - 1)).toNat (Row.mk (b4.getD (IntKind.i64.wrap (Int.ofNat b4.length - 1)).toNat default).Values r10.1)),())) .d) .d) .d)) .d)) .d) (.k (b3,b4))
def zkv (x:ttTrelationNormalize3) (y:ttTrelationNormalize4):Wy ttTrelationNormalize3 ttTrelationNormalize4 ttTrelationNormalize5:=zyq x.2.2.2.1 x.2.2.2.2.1 y.2.2.1 y.2.2.2.1 y.2.2.2.2.1
def zpl (n:Nat) (t49:Int) (t50:Int) (t48:List Row) (b3:List Column) (b4:List Row):Bool×ttTrelationNormalize5:=zN (zkv) default n ((),(),(),t49,t50,()) (((),(),()),((),(),()),t48,b3,b4,())
def zoN (r:ttTrelationNormalize5):LTree ty:=.done (.exit 2) [.ptr 440 0,.ptr 441 0] [.box ([.lit (.slice none 0 0),.lit (.slice none 0 0)]) false,.box ([.own 442,.own 443]) false,.arr 67 r.1 false,.arr 38 r.2 false]
def zp0:LL ty ttTrelationNormalize3:=za (zct 440 0) (za (zct 441 0) (za (lOwn 442) (za (lInt .i64) (za (lInt .i64) zG))))
def zpo:BL ty ttTrelationNormalize4:=bBox (za lNil (za lNil zG)) false (bBox (za (lOwn 443) (za (lOwn 444) zG)) false (bArr 38 false (bArr 67 false (bArr 38 false (bNil)))))
def zpy (x:ttTrelationNormalize0) (y:ttTrelationNormalize1):Nat:=(x.2.2.1.length+Int.toNat x.2.2.2.1+Int.toNat x.2.2.2.2.1+y.1.Columns.length+y.1.Rows.length+1000)
def zoC (x:ttTrelationNormalize3) (y:ttTrelationNormalize4):Nat:=(Int.toNat x.2.2.2.1+Int.toNat x.2.2.2.2.1+y.2.2.1.length+y.2.2.2.1.length+y.2.2.2.2.1.length+1000)
def zli:Cx ty:=mkCx base 110 [(67,zms),(68,ztB),(69,annotation_Valid_spec),(70,zhs),(71,zi1),(72,zgD),(73,zdi),(74,zkW),(75,zhh),(76,zrV),(77,annotation_Add_spec)] [(70,[true,false]),(73,[true,false])] [(4,[(1,.keep),(2,.keep),(19,.keep),(20,.keep),(21,.keep)]),(15,[(2,.keep),(7,.boxOwn [(1,38)]),(48,.keep),(49,.keep),(50,.keep)])] [(4,1,[(1,.keep),(2,.keep)]),(4,0,[(2,.keep),(3,.keep)]),(15,3,[(2,.keep),(7,.keep)]),(15,0,[(2,.keep),(3,.keep)])] [(4,spW zqP zqw (zgX) (.inl default) zpx zpy),(15,spW zp0 zpo (zkv) default zoN zoC)] []
theorem zx8:zS zli (lp (body Tryz.f35) 0):=zL (id:=4) (V:=zqP) (B:=zqw) (W:=zgX) (z:=.inl default) (tr:=zpx) (m:=zpy)
theorem zwU:zS zli (lp (body Tryz.f35) 1):=zL (id:=15) (V:=zp0) (B:=zpo) (W:=zkv) (z:=default) (tr:=zoN) (m:=zoC)
def zi8 (r:Relation):Wy0 (Relation×Int):=.bn (zgT r.Columns) fun r22=>.i (!r22) (.k ((⟨[],[]⟩:Relation),1)) (.bn (zkP (r.Rows.length+(Int.ofNat r.Rows.length).toNat +Int.toNat 0+r.Columns.length+r.Rows.length+1000) r.Rows (Int.ofNat r.Rows.length) 0 r) fun r21=>.i (isL r21) (.k ((⟨[],[]⟩:Relation),getL r21)) (.bn (zbT (getR r21).Rows) fun r20=>.bn (zcx r20) fun r19=>.bn (zZ r19) fun r18=>.bn (zcm (getR r21).Columns) fun r17=>.bn (zpl ((Int.ofNat r18.length).toNat +Int.toNat 0+r18.length+r17.length+0+1000) (Int.ofNat r18.length) 0 r18 r17 []) fun r16=>.i (decide (Int.ofNat r16.2.length>1024)) (.k ((⟨[],[]⟩:Relation),6)) (.k ((⟨r16.1,r16.2⟩:Relation),0))))
def zd0 (r:Relation):Bool×(Relation×Int):=(zi8 r).fin default
def zpV (r:Relation×Int):ARes ty:=⟨[.pure (.agg (base.enc 73 r.1)),.pure (.lit (.int .i64 r.2))],[]⟩
def zrJ:AL base (Relation×Unit):=zf (zg (vAgg 73)) aNil
def zoE:Ab.Spec ty:=zm zrJ fun x=>((zd0 x.1).1,zpV (zd0 x.1).2)
theorem zwQ:Sound Tryz.prog base 35 zoE:=
 zu (cx':=zli) zH zn zD (zx ⟨ztz,zA4,zyp,zmm,zoA,zih,zkt,zp1,zlr,zyV,zzG,trivial⟩) Tryz.call35 Tryz.func35 (c:=body Tryz.f35) (by kernel_rfl) (zh (l:=[lp (body Tryz.f35) 0,lp (body Tryz.f35) 1]) (by kernel_rfl) ⟨zx8,zwU,trivial⟩) (sg:=⟨[.pure,.pure],[]⟩) (A:=zrJ) (res:=zpV) (W:=fun x=>zi8 x.1) (z:=default)
def zL0 (k:Go.Value) (l:List (Go.Value×Int)):Option Int:=mget (ty:=ty) (V:=3) k l
def zLK (k:Go.Value) (l:List (Go.Value×Int)):Bool:=mhas (ty:=ty) (V:=3) k l
def zxw (k:Go.Value) (x:Int) (l:List (Go.Value×Int)):List (Go.Value×Int):=mset (ty:=ty) (V:=3) k x l
def zFV (k:Go.Value) (x:Bool) (l:List (Go.Value×Bool)):List (Go.Value×Bool):=mset (ty:=ty) (V:=4) k x l
def zc7 (x:List Value):Bool×List Value:=zDr (fun a b=>zbd a b) x
def slices_SortFunc_Lapi_Value_api_Value_spec:Ab.Spec ty:=zm (cx:=base) (zf (aOwn 40) (zf (zg (vFn 79 (vNil))) aNil)) fun x=>((zc7 x.1).1,⟨[],[some ⟨40,(zc7 x.1).2⟩]⟩)
theorem zmj (c:Unit) (x y:Value) (h:(zbd x y).1=true):zcb ((AV.agg (base.enc 40 x)::AV.agg (base.enc 40 y)::(vNil:VL base (Unit)).enc c).map Arg.pure)=some (true,⟨[.pure (.lit (.int .i64 (zbd x y).2))],[]⟩):=by
 rw [← h]; kernel_rfl
theorem zkY:Sound Tryz.prog base 78 slices_SortFunc_Lapi_Value_api_Value_spec:=by
 letI:DecidableEq (ty 40):=inferInstanceAs (DecidableEq Value)
 exact zHs (T:=40) zn rfl Go.Proofs.Tryz.sortVal Tryz.isAgg40 (by unfold szOf; exact Tryz.sizeOf40) Tryz.call78 zcp (vNil) (fun c=>fun a b=>zbd a b) zmj
abbrev ttTstatisticscolumn0:=Unit×Unit×Int×Unit×Unit×Int×Int×Unit
abbrev ttTstatisticscolumn1:=List Value×(Int×Int×Int×ByteArray×Int×Int×ByteArray×Unit×Unit)×(List (_root_.Go.Value×Bool))×Unit
abbrev ttTstatisticscolumn2:=Int×List Value×Int×Int×Int×ByteArray×Int×Int×ByteArray×(List (_root_.Go.Value×Bool))
abbrev ttTstatisticscolumn3:=Unit×Unit×Int×Unit×Int×Unit
abbrev ttTstatisticscolumn4:=List Value×(Int×Int×Int×ByteArray×Int×Int×ByteArray×Unit×Unit)×(Int×Int×Int×ByteArray×Int×Int×ByteArray×Unit×Unit)×List Value×Unit
abbrev ttTstatisticscolumn5:=Int×Int×Int×ByteArray×Int×Int×ByteArray×Int×Int×Int×ByteArray×Int×Int×ByteArray×List Value
def zmf (n_:Int) (t18:Int) (t19:Int) (l:List Value) (t2_0:Int) (t2_1:Int) (t2_2:Int) (t2_3:ByteArray) (t2_4:Int) (t2_5:Int) (t2_6:ByteArray) (seen:List (_root_.Go.Value×Bool)):Wy ttTstatisticscolumn0 ttTstatisticscolumn1 ttTstatisticscolumn2:=.i (decide (t19<t18)) (.i (decide (0≤t19)&&decide (t19<Int.ofNat l.length)) (.h ((),(),n_,(),(),t18,(IntKind.i64.wrap (t19+1)),()) (l,(t2_0,t2_1,t2_2,t2_3,t2_4,t2_5,t2_6,(),()),(zFV (Value.agg #[Value.int IntKind.i64 (l.getD t19.toNat default).Kind,Value.int IntKind.i64 (l.getD t19.toNat default).Int,Value.string (l.getD t19.toNat default).Text]) true seen),())) .d) (.k (n_,l,t2_0,t2_1,t2_2,t2_3,t2_4,t2_5,t2_6,seen))
def zi2 (x:ttTstatisticscolumn0) (y:ttTstatisticscolumn1):Wy ttTstatisticscolumn0 ttTstatisticscolumn1 ttTstatisticscolumn2:=zmf x.2.2.1 x.2.2.2.2.2.1 x.2.2.2.2.2.2.1 y.1 y.2.1.1 y.2.1.2.1 y.2.1.2.2.1 y.2.1.2.2.2.1 y.2.1.2.2.2.2.1 y.2.1.2.2.2.2.2.1 y.2.1.2.2.2.2.2.2.1 y.2.2.1
def zmg (n:Nat) (n_:Int) (t18:Int) (t19:Int) (l:List Value) (t2_0:Int) (t2_1:Int) (t2_2:Int) (t2_3:ByteArray) (t2_4:Int) (t2_5:Int) (t2_6:ByteArray) (seen:List (_root_.Go.Value×Bool)):Bool×ttTstatisticscolumn2:=zN (zi2) default n ((),(),n_,(),(),t18,t19,()) (l,(t2_0,t2_1,t2_2,t2_3,t2_4,t2_5,t2_6,(),()),seen,())
def zq0 (r:ttTstatisticscolumn2):LTree ty:=.done (.exit 0) [.own 224,.ptr 225 0,.lit (.int .i64 r.1),.mp 226] [.arr 40 r.2.1 false,.box ([.lit (.int .i64 r.2.2.1),.lit (.int .i64 r.2.2.2.1),.lit (.int .i64 r.2.2.2.2.1),.lit (.string r.2.2.2.2.2.1),.lit (.int .i64 r.2.2.2.2.2.2.1),.lit (.int .i64 r.2.2.2.2.2.2.2.1),.lit (.string r.2.2.2.2.2.2.2.2.1),.lit (.slice none 0 0)]) false,.mp 40 4 r.2.2.2.2.2.2.2.2.2 false]
def zrv:LL ty ttTstatisticscolumn0:=za (lOwn 224) (za (zct 225 0) (za (lInt .i64) (za (lMp 226) (za (lOwn 224) (za (lInt .i64) (za (lInt .i64) zG))))))
def zrC:BL ty ttTstatisticscolumn1:=bArr 40 false (bBox (za (lInt .i64) (za (lInt .i64) (za (lInt .i64) (za lStr (za (lInt .i64) (za (lInt .i64) (za lStr (za lNil zG)))))))) false (bMp 40 4 false (bNil)))
def zll (n_:Int) (i:Int) (l:List Value) (t2_0:Int) (t2_1:Int) (t2_2:Int) (t2_3:ByteArray) (t2_4:Int) (t2_5:Int) (t2_6:ByteArray) (c_0:Int) (c_1:Int) (c_2:Int) (c_3:ByteArray) (c_4:Int) (c_5:Int) (c_6:ByteArray) (b3:List Value):Wy ttTstatisticscolumn3 ttTstatisticscolumn4 ttTstatisticscolumn5:=.i (decide (i≤8)) (.i (decide (0≤IntKind.i64.wrap (IntKind.i64.wrap ((IntKind.i64.wrap (IntKind.i64.wrap (i*n_)+7)).tdiv 8) - 1))&&decide (IntKind.i64.wrap (IntKind.i64.wrap ((IntKind.i64.wrap (IntKind.i64.wrap (i*n_)+7)).tdiv 8) - 1)<Int.ofNat l.length)) (.i (decide ((b3.length+[l.getD (IntKind.i64.wrap (IntKind.i64.wrap ((IntKind.i64.wrap (IntKind.i64.wrap (i*n_)+7)).tdiv 8) - 1)).toNat default].length)*32≤reach)) (.h ((),(),n_,(),(IntKind.i64.wrap (i+1)),()) (l,(t2_0,t2_1,t2_2,t2_3,t2_4,t2_5,t2_6,(),()),(c_0,c_1,c_2,c_3,c_4,c_5,c_6,(),()),(b3++[l.getD (IntKind.i64.wrap (IntKind.i64.wrap ((IntKind.i64.wrap (IntKind.i64.wrap (i*n_)+7)).tdiv 8) - 1)).toNat default]),())) .d) .d) (.k (t2_0,t2_1,t2_2,t2_3,t2_4,t2_5,t2_6,c_0,c_1,c_2,c_3,c_4,c_5,c_6,b3))
def ziB (x:ttTstatisticscolumn3) (y:ttTstatisticscolumn4):Wy ttTstatisticscolumn3 ttTstatisticscolumn4 ttTstatisticscolumn5:=zll x.2.2.1 x.2.2.2.2.1 y.1 y.2.1.1 y.2.1.2.1 y.2.1.2.2.1 y.2.1.2.2.2.1 y.2.1.2.2.2.2.1 y.2.1.2.2.2.2.2.1 y.2.1.2.2.2.2.2.2.1 y.2.2.1.1 y.2.2.1.2.1 y.2.2.1.2.2.1 y.2.2.1.2.2.2.1 y.2.2.1.2.2.2.2.1 y.2.2.1.2.2.2.2.2.1 y.2.2.1.2.2.2.2.2.2.1 y.2.2.2.1
def zlj (n:Nat) (n_:Int) (i:Int) (l:List Value) (t2_0:Int) (t2_1:Int) (t2_2:Int) (t2_3:ByteArray) (t2_4:Int) (t2_5:Int) (t2_6:ByteArray) (c_0:Int) (c_1:Int) (c_2:Int) (c_3:ByteArray) (c_4:Int) (c_5:Int) (c_6:ByteArray) (b3:List Value):Bool×ttTstatisticscolumn5:=zN (ziB) default n ((),(),n_,(),i,()) (l,(t2_0,t2_1,t2_2,t2_3,t2_4,t2_5,t2_6,(),()),(c_0,c_1,c_2,c_3,c_4,c_5,c_6,(),()),b3,())
def zpK (r:ttTstatisticscolumn5):LTree ty:=.done (.exit 2) [.ptr 224 0,.ptr 225 0] [.box ([.lit (.int .i64 r.1),.lit (.int .i64 r.2.1),.lit (.int .i64 r.2.2.1),.lit (.string r.2.2.2.1),.lit (.int .i64 r.2.2.2.2.1),.lit (.int .i64 r.2.2.2.2.2.1),.lit (.string r.2.2.2.2.2.2.1),.lit (.slice none 0 0)]) false,.box ([.lit (.int .i64 r.2.2.2.2.2.2.2.1),.lit (.int .i64 r.2.2.2.2.2.2.2.2.1),.lit (.int .i64 r.2.2.2.2.2.2.2.2.2.1),.lit (.string r.2.2.2.2.2.2.2.2.2.2.1),.lit (.int .i64 r.2.2.2.2.2.2.2.2.2.2.2.1),.lit (.int .i64 r.2.2.2.2.2.2.2.2.2.2.2.2.1),.lit (.string r.2.2.2.2.2.2.2.2.2.2.2.2.2.1),.own 226]) false,.arr 40 r.2.2.2.2.2.2.2.2.2.2.2.2.2.2 false]
def zq3:LL ty ttTstatisticscolumn3:=za (lOwn 224) (za (zct 225 0) (za (lInt .i64) (za (zct 226 0) (za (lInt .i64) zG))))
def zqR:BL ty ttTstatisticscolumn4:=bArr 40 false (bBox (za (lInt .i64) (za (lInt .i64) (za (lInt .i64) (za lStr (za (lInt .i64) (za (lInt .i64) (za lStr (za lNil zG)))))))) false (bBox (za (lInt .i64) (za (lInt .i64) (za (lInt .i64) (za lStr (za (lInt .i64) (za (lInt .i64) (za lStr (za (lOwn 227) zG)))))))) false (bArr 40 false (bNil))))
def zqj (x:ttTstatisticscolumn0) (y:ttTstatisticscolumn1):Nat:=(Int.toNat x.2.2.1+Int.toNat x.2.2.2.2.2.1+Int.toNat x.2.2.2.2.2.2.1+y.1.length+Int.toNat y.2.1.1+Int.toNat y.2.1.2.1+Int.toNat y.2.1.2.2.1+y.2.1.2.2.2.1.size+Int.toNat y.2.1.2.2.2.2.1+Int.toNat y.2.1.2.2.2.2.2.1+y.2.1.2.2.2.2.2.2.1.size+y.2.2.1.length+1000)
def zpO (x:ttTstatisticscolumn3) (y:ttTstatisticscolumn4):Nat:=(Int.toNat x.2.2.1+Int.toNat x.2.2.2.2.1+y.1.length+Int.toNat y.2.1.1+Int.toNat y.2.1.2.1+Int.toNat y.2.1.2.2.1+y.2.1.2.2.2.1.size+Int.toNat y.2.1.2.2.2.2.1+Int.toNat y.2.1.2.2.2.2.2.1+y.2.1.2.2.2.2.2.2.1.size+Int.toNat y.2.2.1.1+Int.toNat y.2.2.1.2.1+Int.toNat y.2.2.1.2.2.1+y.2.2.1.2.2.2.1.size+Int.toNat y.2.2.1.2.2.2.2.1+Int.toNat y.2.2.1.2.2.2.2.2.1+y.2.2.1.2.2.2.2.2.2.1.size+y.2.2.2.1.length+1000)
def zml:Cx ty:=mkCx base 56 [(78,slices_SortFunc_Lapi_Value_api_Value_spec),(79,zcb)] [(78,[true,false])] [(7,[(0,.keep),(2,.keep),(3,.keep),(4,.keep),(17,.keep),(18,.keep),(19,.keep)]),(13,[(0,.keep),(2,.keep),(3,.keep),(7,.boxOwn [(7,40)]),(8,.keep)])] [(7,1,[(0,.keep),(2,.keep),(3,.keep),(4,.keep)]),(13,3,[(2,.keep),(7,.keep)])] [(7,spW zrv zrC (zi2) default zq0 zqj),(13,spW zq3 zqR (ziB) default zpK zpO)] []
theorem zyS:zS zml (lp (body Tryz.f36) 0):=zL (id:=7) (V:=zrv) (B:=zrC) (W:=zi2) (z:=default) (tr:=zq0) (m:=zqj)
theorem zya:zS zml (lp (body Tryz.f36) 1):=zL (id:=13) (V:=zq3) (B:=zqR) (W:=ziB) (z:=default) (tr:=zpK) (m:=zpO)
def zmV (l:List Value):Wy0 (ColumnStats):=.i (Int.ofNat l.length==0) (.k (⟨0,(⟨0,0,ByteArray.mk #[]⟩:Value),(⟨0,0,ByteArray.mk #[]⟩:Value),[]⟩:ColumnStats)) (.bn (zc7 l) fun r2=>.bn (zmg ((Int.ofNat l.length).toNat +(Int.ofNat r2.length).toNat +Int.toNat 0+r2.length+Int.toNat 0+Int.toNat 0+Int.toNat 0+(ByteArray.mk #[]).size+Int.toNat 0+Int.toNat 0+(ByteArray.mk #[]).size+0+1000) (Int.ofNat l.length) (Int.ofNat r2.length) 0 r2 0 0 0 (ByteArray.mk #[]) 0 0 (ByteArray.mk #[]) []) fun r1=>.i (decide ((0:Int)≤(0:Int))&&decide (0<Int.ofNat r1.2.1.length)) (.i (decide (0≤IntKind.i64.wrap (r1.1 - 1))&&decide (IntKind.i64.wrap (r1.1 - 1)<Int.ofNat r1.2.1.length)) (.bn (zlj (r1.1.toNat +Int.toNat 1+r1.2.1.length+r1.2.2.1.toNat +r1.2.2.2.1.toNat +r1.2.2.2.2.1.toNat +r1.2.2.2.2.2.1.size+r1.2.2.2.2.2.2.1.toNat +r1.2.2.2.2.2.2.2.1.toNat +r1.2.2.2.2.2.2.2.2.1.size+(Int.ofNat r1.2.2.2.2.2.2.2.2.2.length).toNat +(r1.2.1.getD (Int.toNat 0) default).Kind.toNat +(r1.2.1.getD (Int.toNat 0) default).Int.toNat +(r1.2.1.getD (Int.toNat 0) default).Text.size+(r1.2.1.getD (IntKind.i64.wrap (r1.1 - 1)).toNat default).Kind.toNat +(r1.2.1.getD (IntKind.i64.wrap (r1.1 - 1)).toNat default).Int.toNat +(r1.2.1.getD (IntKind.i64.wrap (r1.1 - 1)).toNat default).Text.size+0+1000) r1.1 1 r1.2.1 r1.2.2.1 r1.2.2.2.1 r1.2.2.2.2.1 r1.2.2.2.2.2.1 r1.2.2.2.2.2.2.1 r1.2.2.2.2.2.2.2.1 r1.2.2.2.2.2.2.2.2.1 (Int.ofNat r1.2.2.2.2.2.2.2.2.2.length) (r1.2.1.getD (Int.toNat 0) default).Kind (r1.2.1.getD (Int.toNat 0) default).Int (r1.2.1.getD (Int.toNat 0) default).Text (r1.2.1.getD (IntKind.i64.wrap (r1.1 - 1)).toNat default).Kind (r1.2.1.getD (IntKind.i64.wrap (r1.1 - 1)).toNat default).Int (r1.2.1.getD (IntKind.i64.wrap (r1.1 - 1)).toNat default).Text []) fun r0=>.k (⟨r0.2.2.2.2.2.2.2.1,(⟨r0.2.2.2.2.2.2.2.2.1,r0.2.2.2.2.2.2.2.2.2.1,r0.2.2.2.2.2.2.2.2.2.2.1⟩:Value),(⟨r0.2.2.2.2.2.2.2.2.2.2.2.1,r0.2.2.2.2.2.2.2.2.2.2.2.2.1,r0.2.2.2.2.2.2.2.2.2.2.2.2.2.1⟩:Value),r0.2.2.2.2.2.2.2.2.2.2.2.2.2.2⟩:ColumnStats)) .d) .d)
def ziU (l:List Value):Bool×ColumnStats:=(zmV l).fin default
def zqh (r:ColumnStats):ARes ty:=⟨[.pure (.agg (base.enc 43 r))],[none]⟩
def zsH:AL base (List Value×Unit):=zf (aOwn 40) aNil
def zpI:Ab.Spec ty:=zm zsH fun x=>((ziU x.1).1,zqh (ziU x.1).2)
theorem zwX:Sound Tryz.prog base 36 zpI:=
 zu (cx':=zml) zH zn zD (zx ⟨zkY,zcp,trivial⟩) Tryz.call36 Tryz.func36 (c:=body Tryz.f36) (by kernel_rfl) (zh (l:=[lp (body Tryz.f36) 0,lp (body Tryz.f36) 1]) (by kernel_rfl) ⟨zyS,zya,trivial⟩) (sg:=⟨[.pure],[false]⟩) (A:=zsH) (res:=zqh) (W:=fun x=>zmV x.1) (z:=default)
abbrev ttTstatisticsGather0:=Unit×Unit×Unit×Int×Int×Unit
abbrev ttTstatisticsGather1:=Table×(Int×Int×Unit×Unit)×List Row×Unit
abbrev ttTstatisticsGather2:=(Int×Int)⊕(Table×Int×Int)
abbrev ttTstatisticsGather3:=Unit×Unit×Unit×Int×Unit×Int×Int×List Row×Int×Int×Unit
abbrev ttTstatisticsGather4:=Table×(Int×Int×Unit×Unit)×(Int×Int×Unit×Unit)×List Value×List ColumnStats×Unit
abbrev ttTstatisticsGather5:=Int×Int×Table×Int×Int×Int×Int×List Value×List ColumnStats
abbrev ttTstatisticsGather6:=Table×(Int×Int×Unit×Unit)×(Int×Int×Unit×Unit)×List ColumnStats×Unit
abbrev ttTstatisticsGather7:=Int×Int×Int×Int×List ColumnStats
def zhj (t23:Int) (t24:Int) (t:Table) (t2_0:Int) (t2_1:Int) (t22:List Row):Wy ttTstatisticsGather0 ttTstatisticsGather1 ttTstatisticsGather2:=.i (decide (t24<t23)) (.i (decide (0≤t24)&&decide (t24<Int.ofNat t22.length)) (.bn (zd0 (Relation.mk t.Columns [Row.mk (t22.getD t24.toNat default).Values []])) fun r4=>.i (r4.2 != 0) (.k (.inl (0,0))) (.h ((),(),(),t23,(IntKind.i64.wrap (t24+1)),()) (t,(t2_0,t2_1,(),()),t22,()))) .d) (.k (.inr (t,t2_0,t2_1)))
def zjc (x:ttTstatisticsGather0) (y:ttTstatisticsGather1):Wy ttTstatisticsGather0 ttTstatisticsGather1 ttTstatisticsGather2:=zhj x.2.2.2.1 x.2.2.2.2.1 y.1 y.2.1.1 y.2.1.2.1 y.2.2.1
def zsg (n:Nat) (t23:Int) (t24:Int) (t:Table) (t2_0:Int) (t2_1:Int) (t22:List Row):Bool×ttTstatisticsGather2:=zN (zjc) (.inl default) n ((),(),(),t23,t24,()) (t,(t2_0,t2_1,(),()),t22,())
def zqQ (r:ttTstatisticsGather2):LTree ty:=.ite (isL r) (.done .ret [.ptr 360 0] [.box ([.lit (.int .i64 ((getL r).1)),.lit (.int .i64 ((getL r).2)),.lit (.slice none 0 0)]) false]) (.done (.exit 0) [.ptr 360 0,.ptr 361 0] [.box (base.enc 25 (getR r).1) false,.box ([.lit (.int .i64 (getR r).2.1),.lit (.int .i64 (getR r).2.2),.lit (.slice none 0 0)]) false])
def zsk:LL ty ttTstatisticsGather0:=za (zct 360 0) (za (zct 361 0) (za (lOwn 362) (za (lInt .i64) (za (lInt .i64) zG))))
def zrn:BL ty ttTstatisticsGather1:=bBox (zhc (fun x=>(⟨x.1,x.2.1,x.2.2.1,x.2.2.2.1⟩:Table)) (fun x=>(x.ID,x.Name,x.Columns,x.Rows,())) (fun _=>rfl) (za (lInt .i64) (za lStr (za (lSl 67) (za (lSl 38) zG))))) false (bBox (za (lInt .i64) (za (lInt .i64) (za lNil zG))) false (bArr 38 false (bNil)))
def zkX (i:Int) (t61:Int) (t62:Int) (t66:List Row) (t67:Int) (t68:Int) (t:Table) (t2_0:Int) (t2_1:Int) (s_0:Int) (s_1:Int) (l:List Value) (b4:List ColumnStats):Wy ttTstatisticsGather3 ttTstatisticsGather4 ttTstatisticsGather5:=.i (decide (t68<t67)) (.i (decide (0≤t68)&&decide (t68<Int.ofNat t66.length)) (.i (decide (0≤i)&&decide (i<Int.ofNat (t66.getD t68.toNat default).Values.length)) (.i (decide ((l.length+[(t66.getD t68.toNat default).Values.getD i.toNat default].length)*32≤reach)) (.h ((),(),(),i,(),t61,t62,t66,t67,(IntKind.i64.wrap (t68+1)),()) (t,(t2_0,t2_1,(),()),(s_0,s_1,(),()),(l++[(t66.getD t68.toNat default).Values.getD i.toNat default]),b4,())) .d) .d) .d) (.k (t61,t62,t,t2_0,t2_1,s_0,s_1,l,b4))
def zim (x:ttTstatisticsGather3) (y:ttTstatisticsGather4):Wy ttTstatisticsGather3 ttTstatisticsGather4 ttTstatisticsGather5:=zkX x.2.2.2.1 x.2.2.2.2.2.1 x.2.2.2.2.2.2.1 x.2.2.2.2.2.2.2.1 x.2.2.2.2.2.2.2.2.1 x.2.2.2.2.2.2.2.2.2.1 y.1 y.2.1.1 y.2.1.2.1 y.2.2.1.1 y.2.2.1.2.1 y.2.2.2.1 y.2.2.2.2.1
def zkT (n:Nat) (i:Int) (t61:Int) (t62:Int) (t66:List Row) (t67:Int) (t68:Int) (t:Table) (t2_0:Int) (t2_1:Int) (s_0:Int) (s_1:Int) (l:List Value) (b4:List ColumnStats):Bool×ttTstatisticsGather5:=zN (zim) default n ((),(),(),i,(),t61,t62,t66,t67,t68,()) (t,(t2_0,t2_1,(),()),(s_0,s_1,(),()),l,b4,())
def zpN (r:ttTstatisticsGather5):LTree ty:=.done (.exit 4) [.ptr 360 0,.ptr 361 0,.ptr 362 0,.own 363,.lit (.int .i64 r.1),.lit (.int .i64 r.2.1)] [.box (base.enc 25 r.2.2.1) false,.box ([.lit (.int .i64 r.2.2.2.1),.lit (.int .i64 r.2.2.2.2.1),.lit (.slice none 0 0)]) false,.box ([.lit (.int .i64 r.2.2.2.2.2.1),.lit (.int .i64 r.2.2.2.2.2.2.1),.own 364]) false,.arr 40 r.2.2.2.2.2.2.2.1 false,.arr 43 r.2.2.2.2.2.2.2.2 false]
def zqE:LL ty ttTstatisticsGather3:=za (zct 360 0) (za (zct 361 0) (za (zct 362 0) (za (lInt .i64) (za (lOwn 363) (za (lInt .i64) (za (lInt .i64) (za (lSl 38) (za (lInt .i64) (za (lInt .i64) zG)))))))))
def zqK:BL ty ttTstatisticsGather4:=bBox (zhc (fun x=>(⟨x.1,x.2.1,x.2.2.1,x.2.2.2.1⟩:Table)) (fun x=>(x.ID,x.Name,x.Columns,x.Rows,())) (fun _=>rfl) (za (lInt .i64) (za lStr (za (lSl 67) (za (lSl 38) zG))))) false (bBox (za (lInt .i64) (za (lInt .i64) (za lNil zG))) false (bBox (za (lInt .i64) (za (lInt .i64) (za (lOwn 364) zG))) false (bArr 40 false (bArr 43 false (bNil)))))
def zkS (t61:Int) (t62:Int) (t:Table) (t2_0:Int) (t2_1:Int) (s_0:Int) (s_1:Int) (b3:List ColumnStats):Wy ttTstatisticsGather0 ttTstatisticsGather6 ttTstatisticsGather7:=.i (decide (t62<t61)) (.bn (zkT (t62.toNat +t61.toNat +t62.toNat +t.Rows.length+(Int.ofNat t.Rows.length).toNat +Int.toNat 0+t.Columns.length+t.Rows.length+t2_0.toNat +t2_1.toNat +s_0.toNat +s_1.toNat +0+b3.length+1000) t62 t61 t62 t.Rows (Int.ofNat t.Rows.length) 0 t t2_0 t2_1 s_0 s_1 [] b3) fun r7=>.bn (ziU r7.2.2.2.2.2.2.2.1) fun r6=>.i (decide ((r7.2.2.2.2.2.2.2.2.length+[r6].length)*96≤reach)) (.h ((),(),(),(r7.1),(IntKind.i64.wrap (r7.2.1+1)),()) ((r7.2.2.1),((r7.2.2.2.1),(r7.2.2.2.2.1),(),()),((r7.2.2.2.2.2.1),(r7.2.2.2.2.2.2.1),(),()),(r7.2.2.2.2.2.2.2.2++[r6]),())) .d) (.k (t2_0,t2_1,s_0,s_1,b3))
def ziv (x:ttTstatisticsGather0) (y:ttTstatisticsGather6):Wy ttTstatisticsGather0 ttTstatisticsGather6 ttTstatisticsGather7:=zkS x.2.2.2.1 x.2.2.2.2.1 y.1 y.2.1.1 y.2.1.2.1 y.2.2.1.1 y.2.2.1.2.1 y.2.2.2.1
def zk8 (n:Nat) (t61:Int) (t62:Int) (t:Table) (t2_0:Int) (t2_1:Int) (s_0:Int) (s_1:Int) (b3:List ColumnStats):Bool×ttTstatisticsGather7:=zN (ziv) default n ((),(),(),t61,t62,()) (t,(t2_0,t2_1,(),()),(s_0,s_1,(),()),b3,())
def zpn (r:ttTstatisticsGather7):LTree ty:=.done (.exit 2) [.ptr 360 0,.ptr 361 0] [.box ([.lit (.int .i64 r.1),.lit (.int .i64 r.2.1),.lit (.slice none 0 0)]) false,.box ([.lit (.int .i64 r.2.2.1),.lit (.int .i64 r.2.2.2.1),.own 362]) false,.arr 43 r.2.2.2.2 false]
def zqL:LL ty ttTstatisticsGather0:=za (zct 360 0) (za (zct 361 0) (za (zct 362 0) (za (lInt .i64) (za (lInt .i64) zG))))
def zqy:BL ty ttTstatisticsGather6:=bBox (zhc (fun x=>(⟨x.1,x.2.1,x.2.2.1,x.2.2.2.1⟩:Table)) (fun x=>(x.ID,x.Name,x.Columns,x.Rows,())) (fun _=>rfl) (za (lInt .i64) (za lStr (za (lSl 67) (za (lSl 38) zG))))) false (bBox (za (lInt .i64) (za (lInt .i64) (za lNil zG))) false (bBox (za (lInt .i64) (za (lInt .i64) (za (lOwn 363) zG))) false (bArr 43 false (bNil))))
def zq1 (x:ttTstatisticsGather0) (y:ttTstatisticsGather1):Nat:=(Int.toNat x.2.2.2.1+Int.toNat x.2.2.2.2.1+y.1.Columns.length+y.1.Rows.length+Int.toNat y.2.1.1+Int.toNat y.2.1.2.1+y.2.2.1.length+1000)
def zps (x:ttTstatisticsGather3) (y:ttTstatisticsGather4):Nat:=(Int.toNat x.2.2.2.1+Int.toNat x.2.2.2.2.2.1+Int.toNat x.2.2.2.2.2.2.1+x.2.2.2.2.2.2.2.1.length+Int.toNat x.2.2.2.2.2.2.2.2.1+Int.toNat x.2.2.2.2.2.2.2.2.2.1+y.1.Columns.length+y.1.Rows.length+Int.toNat y.2.1.1+Int.toNat y.2.1.2.1+Int.toNat y.2.2.1.1+Int.toNat y.2.2.1.2.1+y.2.2.2.1.length+y.2.2.2.2.1.length+1000)
def zpH (x:ttTstatisticsGather0) (y:ttTstatisticsGather6):Nat:=(Int.toNat x.2.2.2.1+Int.toNat x.2.2.2.2.1+y.1.Columns.length+y.1.Rows.length+Int.toNat y.2.1.1+Int.toNat y.2.1.2.1+Int.toNat y.2.2.1.1+Int.toNat y.2.2.1.2.1+y.2.2.2.1.length+1000)
def zi4:Cx ty:=mkCx base 90 [(35,zoE),(36,zpI)] [(36,[true])] [(4,[(1,.keep),(2,.keep),(22,.keep),(23,.keep),(24,.keep)]),(15,[(1,.keep),(2,.keep),(9,.boxOwn [(2,43)]),(61,.keep),(62,.keep)]),(19,[(1,.keep),(2,.keep),(9,.keep),(10,.keep),(11,.own 40),(61,.keep),(62,.keep),(66,.keep),(67,.keep),(68,.keep)])] [(4,1,[(1,.keep),(2,.keep)]),(4,0,[(2,.keep)]),(15,3,[(2,.keep),(9,.keep)]),(19,5,[(1,.keep),(2,.keep),(9,.keep),(11,.keep),(61,.keep),(62,.keep)])] [(4,spW zsk zrn (zjc) (.inl default) zqQ zq1),(19,spW zqE zqK (zim) default zpN zps),(15,spW zqL zqy (ziv) default zpn zpH)] []
theorem zzb:zS zi4 (lp (body Tryz.f12) 0):=zL (id:=4) (V:=zsk) (B:=zrn) (W:=zjc) (z:=.inl default) (tr:=zqQ) (m:=zq1)
theorem zx1:zS zi4 (lp (body Tryz.f12) 2):=zL (id:=19) (V:=zqE) (B:=zqK) (W:=zim) (z:=default) (tr:=zpN) (m:=zps)
theorem zx6:zS zi4 (lp (body Tryz.f12) 1):=zL (id:=15) (V:=zqL) (B:=zqy) (W:=ziv) (z:=default) (tr:=zpn) (m:=zpH)
def zmQ (t:Table):Wy0 (Stats):=.i (decide (Int.ofNat t.Rows.length>1000000)) (.k (⟨0,0,[]⟩:Stats)) (.i (decide ((0+t.Rows.length)*48≤reach)) (.bn (zsg ((Int.ofNat ([]++t.Rows).length).toNat +Int.toNat 0+t.Columns.length+t.Rows.length+Int.toNat 0+Int.toNat 0+([]++t.Rows).length+1000) (Int.ofNat ([]++t.Rows).length) 0 t 0 0 ([]++t.Rows)) fun r12=>.i (isL r12) (.k (⟨(getL r12).1,(getL r12).2,[]⟩:Stats)) (.bn (zd0 (Relation.mk (getR r12).1.Columns [])) fun r11=>.i (r11.2 != 0) (.k (⟨0,0,[]⟩:Stats)) (.bn (zk8 ((Int.ofNat (getR r12).1.Columns.length).toNat +Int.toNat 0+(getR r12).1.Columns.length+(getR r12).1.Rows.length+(getR r12).2.1.toNat +(getR r12).2.2.toNat +(getR r12).1.ID.toNat +(Int.ofNat (getR r12).1.Rows.length).toNat +0+1000) (Int.ofNat (getR r12).1.Columns.length) 0 (getR r12).1 (getR r12).2.1 (getR r12).2.2 (getR r12).1.ID (Int.ofNat (getR r12).1.Rows.length) []) fun r10=>.k (⟨r10.2.2.1,r10.2.2.2.1,r10.2.2.2.2⟩:Stats)))) .d)
def ziV (t:Table):Bool×Stats:=(zmQ t).fin default
def zqS (r:Stats):ARes ty:=⟨[.pure (.agg (base.enc 30 r))],[]⟩
def zsE:AL base (Table×Unit):=zf (zg (vAgg 25)) aNil
def zkr:Ab.Spec ty:=zm zsE fun x=>((ziV x.1).1,zqS (ziV x.1).2)
theorem zoQ:Sound Tryz.prog base 12 zkr:=
 zu (cx':=zi4) zH zn zD (zx ⟨zwQ,zwX,trivial⟩) Tryz.call12 Tryz.func12 (c:=body Tryz.f12) (by kernel_rfl) (zh (l:=[lp (body Tryz.f12) 0,lp (body Tryz.f12) 1,lp (body Tryz.f12) 2]) (by kernel_rfl) ⟨zzb,zx6,zx1,trivial⟩) (sg:=⟨[.pure],[]⟩) (A:=zsE) (res:=zqS) (W:=fun x=>zmQ x.1) (z:=default)
def zkE (r:Int):ARes ty:=⟨[.pure (.lit (.int .i64 r))],[]⟩
def zlC:AL base (estimator×Scalar×Unit):=zf (zg (vAgg 88)) (zf (zg (vAgg 47)) aNil)
def zdZ (F:estimator→Scalar→Bool×Int):Ab.Spec ty:=zm zlC fun x=>((F x.1 x.2.1).1,zkE (F x.1 x.2.1).2)
def zrc:Cx ty:=mkCx base 39 [] [] [] [] [] []
def zkn (x_:estimator) (op:Int) (i:Int) (k:Int):Wy0 (Int):=.i (decide (x_.s.Rows>0)) (.i (decide (0≤i)&&decide (i<Int.ofNat x_.s.Columns.length)) (.i (decide (0≤k)&&decide (k<Int.ofNat x_.s.Columns.length)) (.i (!decide ((if (x_.s.Columns.getD k.toNat default).Distinct>(x_.s.Columns.getD i.toNat default).Distinct then (x_.s.Columns.getD k.toNat default).Distinct else (x_.s.Columns.getD i.toNat default).Distinct)=0)) (.i (op==5) (.k (if IntKind.i64.wrap (Int.tdiv 1000 (if (x_.s.Columns.getD k.toNat default).Distinct>(x_.s.Columns.getD i.toNat default).Distinct then (x_.s.Columns.getD k.toNat default).Distinct else (x_.s.Columns.getD i.toNat default).Distinct))>1 then IntKind.i64.wrap (Int.tdiv 1000 (if (x_.s.Columns.getD k.toNat default).Distinct>(x_.s.Columns.getD i.toNat default).Distinct then (x_.s.Columns.getD k.toNat default).Distinct else (x_.s.Columns.getD i.toNat default).Distinct)) else 1)) (.i (op==6) (.k (IntKind.i64.wrap (1000 - if IntKind.i64.wrap (Int.tdiv 1000 (if (x_.s.Columns.getD k.toNat default).Distinct>(x_.s.Columns.getD i.toNat default).Distinct then (x_.s.Columns.getD k.toNat default).Distinct else (x_.s.Columns.getD i.toNat default).Distinct))>1 then IntKind.i64.wrap (Int.tdiv 1000 (if (x_.s.Columns.getD k.toNat default).Distinct>(x_.s.Columns.getD i.toNat default).Distinct then (x_.s.Columns.getD k.toNat default).Distinct else (x_.s.Columns.getD i.toNat default).Distinct)) else 1))) (.k 333))) .d) .d) .d) (.i (op==5) (.k 0) (.i (op==6) (.k (IntKind.i64.wrap (1000 - 0))) (.k 333)))
def zcK (x_:estimator) (op:Int) (i:Int) (k:Int):Bool×Int:=(zkn x_ op i k).fin default
def zjN (r:Int):ARes ty:=⟨[.pure (.lit (.int .i64 r))],[]⟩
def zkl:AL base (estimator×Int×Int×Int×Unit):=zf (zg (vAgg 88)) (zf (zg (vInt .i64)) (zf (zg (vInt .i64)) (zf (zg (vInt .i64)) aNil)))
def zjp:Ab.Spec ty:=zm zkl fun x=>((zcK x.1 x.2.1 x.2.2.1 x.2.2.2.1).1,zjN (zcK x.1 x.2.1 x.2.2.1 x.2.2.2.1).2)
theorem zpi:Sound Tryz.prog base 127 zjp:=
 zu (cx':=zrc) zH zn zD (zx trivial) Tryz.call127 Tryz.func127 (c:=body Tryz.f127) (by kernel_rfl) (zh (l:=[]) (by kernel_rfl) trivial) (sg:=⟨[.pure],[]⟩) (A:=zkl) (res:=zjN) (W:=fun x=>zkn x.1 x.2.1 x.2.2.1 x.2.2.2.1) (z:=default)
def zun:Cx ty:=mkCx base 36 [(79,zcb)] [] [] [] [] []
def zno (x_:estimator) (i:Int) (v:Value):Wy0 (Int):=.i (decide (0≤i)&&decide (i<Int.ofNat x_.s.Columns.length)) (.i (x_.s.Rows==0) (.k 0) (.bn (zbd v (x_.s.Columns.getD i.toNat default).Min) fun r1=>.i (decide (r1<0)) (.k 0) (.bn (zbd v (x_.s.Columns.getD i.toNat default).Max) fun r0=>.i (decide (r0>0)) (.k 0) (.i (!decide ((x_.s.Columns.getD i.toNat default).Distinct=0)) (.k (if IntKind.i64.wrap (Int.tdiv 1000 (x_.s.Columns.getD i.toNat default).Distinct)>1 then IntKind.i64.wrap (Int.tdiv 1000 (x_.s.Columns.getD i.toNat default).Distinct) else 1)) .d)))) .d
def zd4 (x_:estimator) (i:Int) (v:Value):Bool×Int:=(zno x_ i v).fin default
def zlI (r:Int):ARes ty:=⟨[.pure (.lit (.int .i64 r))],[]⟩
def znj:AL base (estimator×Int×Value×Unit):=zf (zg (vAgg 88)) (zf (zg (vInt .i64)) (zf (zg (vAgg 40)) aNil))
def zfL:Ab.Spec ty:=zm znj fun x=>((zd4 x.1 x.2.1 x.2.2.1).1,zlI (zd4 x.1 x.2.1 x.2.2.1).2)
theorem zhB:Sound Tryz.prog base 87 zfL:=
 zu (cx':=zun) zH zn zD (zx ⟨zcp,trivial⟩) Tryz.call87 Tryz.func87 (c:=body Tryz.f87) (by kernel_rfl) (zh (l:=[]) (by kernel_rfl) trivial) (sg:=⟨[.pure],[]⟩) (A:=znj) (res:=zlI) (W:=fun x=>zno x.1 x.2.1 x.2.2.1) (z:=default)
abbrev ttTstatisticsestimatorlt0:=Unit×Int×List Value×Int×Int×Unit
def zuE (n_:Int) (t16:List Value) (t17:Int) (t18:Int) (v:Value):Wy ttTstatisticsestimatorlt0 (Value×Unit) (Int):=.i (decide (t18<t17)) (.i (decide (0≤t18)&&decide (t18<Int.ofNat t16.length)) (.bn (zbd (t16.getD t18.toNat default) v) fun r0=>.i (decide (r0<0)) (.h ((),(IntKind.i64.wrap (n_+125)),t16,t17,(IntKind.i64.wrap (t18+1)),()) (v,())) (.h ((),n_,t16,t17,(IntKind.i64.wrap (t18+1)),()) (v,()))) .d) (.k n_)
def ziH (x:ttTstatisticsestimatorlt0) (y:Value×Unit):Wy ttTstatisticsestimatorlt0 (Value×Unit) (Int):=zuE x.2.1 x.2.2.1 x.2.2.2.1 x.2.2.2.2.1 y.1
def zup (n:Nat) (n_:Int) (t16:List Value) (t17:Int) (t18:Int) (v:Value):Bool×Int:=zN (ziH) default n ((),n_,t16,t17,t18,()) (v,())
def zlV (r:Int):LTree ty:=.done (.exit 0) [.lit (.int .i64 r)] []
def zmC:LL ty ttTstatisticsestimatorlt0:=za (zct 120 0) (za (lInt .i64) (za (lSl 40) (za (lInt .i64) (za (lInt .i64) zG))))
def zmp:BL ty (Value×Unit):=bBox (zhc (fun x=>(⟨x.1,x.2.1,x.2.2.1⟩:Value)) (fun x=>(x.Kind,x.Int,x.Text,())) (fun _=>rfl) (za (lInt .i64) (za (lInt .i64) (za lStr zG)))) false (bNil)
def zlw (x:ttTstatisticsestimatorlt0) (y:Value×Unit):Nat:=(Int.toNat x.2.1+x.2.2.1.length+Int.toNat x.2.2.2.1+Int.toNat x.2.2.2.2.1+1000)
def zmt:Cx ty:=mkCx base 30 [(79,zcb)] [] [(3,[(5,.keep),(7,.keep),(16,.keep),(17,.keep),(18,.keep)])] [(3,1,[(7,.keep)])] [(3,spW zmC zmp (ziH) default zlV zlw)] []
theorem ztR:zS zmt (lp (body Tryz.f60) 0):=zL (id:=3) (V:=zmC) (B:=zmp) (W:=ziH) (z:=default) (tr:=zlV) (m:=zlw)
def znx (x_:estimator) (i:Int) (v:Value):Wy0 (Int):=.i (decide (0≤i)&&decide (i<Int.ofNat x_.s.Columns.length)) (.bn (zup (Int.toNat 0+(x_.s.Columns.getD i.toNat default).Bounds.length+(Int.ofNat (x_.s.Columns.getD i.toNat default).Bounds.length).toNat +Int.toNat 0+1000) 0 (x_.s.Columns.getD i.toNat default).Bounds (Int.ofNat (x_.s.Columns.getD i.toNat default).Bounds.length) 0 v) fun r2=>.k r2) .d
def zfO (x_:estimator) (i:Int) (v:Value):Bool×Int:=(znx x_ i v).fin default
def zlD (r:Int):ARes ty:=⟨[.pure (.lit (.int .i64 r))],[]⟩
def zmX:AL base (estimator×Int×Value×Unit):=zf (zg (vAgg 88)) (zf (zg (vInt .i64)) (zf (zg (vAgg 40)) aNil))
def zhO:Ab.Spec ty:=zm zmX fun x=>((zfO x.1 x.2.1 x.2.2.1).1,zlD (zfO x.1 x.2.1 x.2.2.1).2)
theorem zkG:Sound Tryz.prog base 60 zhO:=
 zu (cx':=zmt) zH zn zD (zx ⟨zcp,trivial⟩) Tryz.call60 Tryz.func60 (c:=body Tryz.f60) (by kernel_rfl) (zh (l:=[lp (body Tryz.f60) 0]) (by kernel_rfl) ⟨ztR,trivial⟩) (sg:=⟨[.pure],[]⟩) (A:=zmX) (res:=zlD) (W:=fun x=>znx x.1 x.2.1 x.2.2.1) (z:=default)
def zuy:Cx ty:=mkCx base 17 [(60,zhO),(87,zfL)] [] [] [] [] []
def znb (x_:estimator) (i:Int) (v:Value):Wy0 (Int):=.bn (zfO x_ i v) fun r1=>.bn (zd4 x_ i v) fun r0=>.k (if IntKind.i64.wrap (r1+r0)<1000 then IntKind.i64.wrap (r1+r0) else 1000)
def zhC (x_:estimator) (i:Int) (v:Value):Bool×Int:=(znb x_ i v).fin default
def zlS (r:Int):ARes ty:=⟨[.pure (.lit (.int .i64 r))],[]⟩
def zm6:AL base (estimator×Int×Value×Unit):=zf (zg (vAgg 88)) (zf (zg (vInt .i64)) (zf (zg (vAgg 40)) aNil))
def zld:Ab.Spec ty:=zm zm6 fun x=>((zhC x.1 x.2.1 x.2.2.1).1,zlS (zhC x.1 x.2.1 x.2.2.1).2)
theorem zsm:Sound Tryz.prog base 61 zld:=
 zu (cx':=zuy) zH zn zD (zx ⟨zkG,zhB,trivial⟩) Tryz.call61 Tryz.func61 (c:=body Tryz.f61) (by kernel_rfl) (zh (l:=[]) (by kernel_rfl) trivial) (sg:=⟨[.pure],[]⟩) (A:=zm6) (res:=zlS) (W:=fun x=>znb x.1 x.2.1 x.2.2.1) (z:=default)
def zre:Cx ty:=mkCx base 47 [(60,zhO),(61,zld),(87,zfL)] [] [] [] [] []
def zka (x_:estimator) (op:Int) (i:Int) (v:Value):Wy0 (Int):=.i (op==5) (.bn (zd4 x_ i v) fun r0=>.k r0) (.i (op==6) (.bn (zd4 x_ i v) fun r1=>.k (IntKind.i64.wrap (1000 - r1))) (.i (op==7) (.bn (zfO x_ i v) fun r2=>.k r2) (.i (op==8) (.bn (zhC x_ i v) fun r3=>.k r3) (.i (op==9) (.bn (zhC x_ i v) fun r4=>.k (IntKind.i64.wrap (1000 - r4))) (.bn (zfO x_ i v) fun r5=>.k (IntKind.i64.wrap (1000 - r5)))))))
def zcJ (x_:estimator) (op:Int) (i:Int) (v:Value):Bool×Int:=(zka x_ op i v).fin default
def zjH (r:Int):ARes ty:=⟨[.pure (.lit (.int .i64 r))],[]⟩
def zj8:AL base (estimator×Int×Int×Value×Unit):=zf (zg (vAgg 88)) (zf (zg (vInt .i64)) (zf (zg (vInt .i64)) (zf (zg (vAgg 40)) aNil)))
def zjk:Ab.Spec ty:=zm zj8 fun x=>((zcJ x.1 x.2.1 x.2.2.1 x.2.2.2.1).1,zjH (zcJ x.1 x.2.1 x.2.2.1 x.2.2.2.1).2)
theorem zpg:Sound Tryz.prog base 128 zjk:=
 zu (cx':=zre) zH zn zD (zx ⟨zkG,zsm,zhB,trivial⟩) Tryz.call128 Tryz.func128 (c:=body Tryz.f128) (by kernel_rfl) (zh (l:=[]) (by kernel_rfl) trivial) (sg:=⟨[.pure],[]⟩) (A:=zj8) (res:=zjH) (W:=fun x=>zka x.1 x.2.1 x.2.2.1 x.2.2.2.1) (z:=default)
def zua:Cx ty:=mkCx base 15 [] [] [] [] [] []
def zmF (x_:estimator) (i:Int):Wy0 (Bool):=.i (decide (i≥0)) (.k (decide (i<Int.ofNat x_.s.Columns.length))) (.k false)
def zcP (x_:estimator) (i:Int):Bool×Bool:=(zmF x_ i).fin default
def zle (r:Bool):ARes ty:=⟨[.pure (.lit (.bool r))],[]⟩
def zmJ:AL base (estimator×Int×Unit):=zf (zg (vAgg 88)) (zf (zg (vInt .i64)) aNil)
def zhA:Ab.Spec ty:=zm zmJ fun x=>((zcP x.1 x.2.1).1,zle (zcP x.1 x.2.1).2)
theorem zkc:Sound Tryz.prog base 59 zhA:=
 zu (cx':=zua) zH zn zD (zx trivial) Tryz.call59 Tryz.func59 (c:=body Tryz.f59) (by kernel_rfl) (zh (l:=[]) (by kernel_rfl) trivial) (sg:=⟨[.pure],[]⟩) (A:=zmJ) (res:=zle) (W:=fun x=>zmF x.1 x.2.1) (z:=default)
def zyi:Cx ty:=mkCx base 17 [] [] [] [] [] []
def zqm (op:Int):Wy0 (Int):=.i (zLK (Value.int IntKind.i64 op) (zxw (Value.int IntKind.i64 10) 8 (zxw (Value.int IntKind.i64 8) 10 (zxw (Value.int IntKind.i64 9) 7 (zxw (Value.int IntKind.i64 7) 9 []))))) (.k ((zL0 (Value.int IntKind.i64 op) (zxw (Value.int IntKind.i64 10) 8 (zxw (Value.int IntKind.i64 8) 10 (zxw (Value.int IntKind.i64 9) 7 (zxw (Value.int IntKind.i64 7) 9 []))))).getD 0)) (.k op)
def zmT (op:Int):Bool×Int:=(zqm op).fin default
def zoP (r:Int):ARes ty:=⟨[.pure (.lit (.int .i64 r))],[]⟩
def zqs:AL base (Int×Unit):=zf (zg (vInt .i64)) aNil
def znU:Ab.Spec ty:=zm zqs fun x=>((zmT x.1).1,zoP (zmT x.1).2)
theorem zvg:Sound Tryz.prog base 126 znU:=
 zu (cx':=zyi) zH zn zD (zx trivial) Tryz.call126 Tryz.func126 (c:=body Tryz.f126) (by kernel_rfl) (zh (l:=[]) (by kernel_rfl) trivial) (sg:=⟨[.pure],[]⟩) (A:=zqs) (res:=zoP) (W:=fun x=>zqm x.1) (z:=default)
def zo4:Cx ty:=mkCx base 63 [(59,zhA),(126,znU),(127,zjp),(128,zjk)] [] [] [] [] []
def zjl (x_:estimator) (op:Int) (a:Scalar) (b:Scalar):Wy0 (Int):=.i (a.Kind==0) (.bn (zmT op) fun r6=>.i (b.Kind != 1) (.k 333) (.i (a.Kind==2) (.k 333) (.bn (zcP x_ b.Column) fun r5=>.i (!r5) (.k 333) (.i (a.Kind==1) (.bn (zcP x_ a.Column) fun r2=>.i (!r2) (.k 333) (.i (a.Kind==1) (.bn (zcK x_ r6 b.Column a.Column) fun r0=>.k r0) (.i (a.Kind==0) (.bn (zcJ x_ r6 b.Column a.Value) fun r1=>.k r1) (.k 333)))) (.i (a.Kind==1) (.bn (zcK x_ r6 b.Column a.Column) fun r3=>.k r3) (.i (a.Kind==0) (.bn (zcJ x_ r6 b.Column a.Value) fun r4=>.k r4) (.k 333))))))) (.i (a.Kind != 1) (.k 333) (.i (b.Kind==2) (.k 333) (.bn (zcP x_ a.Column) fun r12=>.i (!r12) (.k 333) (.i (b.Kind==1) (.bn (zcP x_ b.Column) fun r9=>.i (!r9) (.k 333) (.i (b.Kind==1) (.bn (zcK x_ op a.Column b.Column) fun r7=>.k r7) (.i (b.Kind==0) (.bn (zcJ x_ op a.Column b.Value) fun r8=>.k r8) (.k 333)))) (.i (b.Kind==1) (.bn (zcK x_ op a.Column b.Column) fun r10=>.k r10) (.i (b.Kind==0) (.bn (zcJ x_ op a.Column b.Value) fun r11=>.k r11) (.k 333)))))))
def zca (x_:estimator) (op:Int) (a:Scalar) (b:Scalar):Bool×Int:=(zjl x_ op a b).fin default
def zis (r:Int):ARes ty:=⟨[.pure (.lit (.int .i64 r))],[]⟩
def zjn:AL base (estimator×Int×Scalar×Scalar×Unit):=zf (zg (vAgg 88)) (zf (zg (vInt .i64)) (zf (zg (vAgg 47)) (zf (zg (vAgg 47)) aNil)))
def zib:Ab.Spec ty:=zm zjn fun x=>((zca x.1 x.2.1 x.2.2.1 x.2.2.2.1).1,zis (zca x.1 x.2.1 x.2.2.1 x.2.2.2.1).2)
theorem znK:Sound Tryz.prog base 88 zib:=
 zu (cx':=zo4) zH zn zD (zx ⟨zkc,zvg,zpi,zpg,trivial⟩) Tryz.call88 Tryz.func88 (c:=body Tryz.f88) (by kernel_rfl) (zh (l:=[]) (by kernel_rfl) trivial) (sg:=⟨[.pure],[]⟩) (A:=zjn) (res:=zis) (W:=fun x=>zjl x.1 x.2.1 x.2.2.1 x.2.2.2.1) (z:=default)
def zrK (zy:estimator→Scalar→Bool×Int):Cx ty:=mkCx base 121 [(46,(zdZ zy)),(59,zhA),(87,zfL),(88,zib)] [] [] [] [] []
def zkA (zy:estimator→Scalar→Bool×Int) (x_:estimator) (e:Scalar):Wy0 (Int):=.i (e.Kind==0) (.i (e.Value.Kind==2&&(e.Value.Int==1&&(e.Value.Text.toList==(ByteArray.mk #[]).toList&&true))) (.k 1000) (.k 0)) (.i (e.Kind==1) (.bn (zcP x_ e.Column) fun r12=>.i (r12) (.bn (zd4 x_ e.Column (Value.mk 2 1 (ByteArray.mk #[]))) fun r0=>.k r0) (.i (e.Kind != 2) (.k 333) (.i (e.Op==13) (.i (Int.ofNat e.Args.length==1) (.i (decide ((0:Int)≤(0:Int))&&decide (0<Int.ofNat e.Args.length)) (.bn (zy x_ (Scalar.mk (e.Args.getD (Int.toNat 0) default).Kind (e.Args.getD (Int.toNat 0) default).Column (e.Args.getD (Int.toNat 0) default).Value (e.Args.getD (Int.toNat 0) default).Op (e.Args.getD (Int.toNat 0) default).Args)) fun r1=>.k (IntKind.i64.wrap (1000 - r1))) .d) (.i (Int.ofNat e.Args.length != 2) (.k 333) (.i (e.Op==11) (.i (decide ((0:Int)≤(0:Int))&&decide (0<Int.ofNat e.Args.length)) (.bn (zy x_ (Scalar.mk (e.Args.getD (Int.toNat 0) default).Kind (e.Args.getD (Int.toNat 0) default).Column (e.Args.getD (Int.toNat 0) default).Value (e.Args.getD (Int.toNat 0) default).Op (e.Args.getD (Int.toNat 0) default).Args)) fun r3=>.i (decide ((0:Int)≤(1:Int))&&decide (1<Int.ofNat e.Args.length)) (.bn (zy x_ (Scalar.mk (e.Args.getD (Int.toNat 1) default).Kind (e.Args.getD (Int.toNat 1) default).Column (e.Args.getD (Int.toNat 1) default).Value (e.Args.getD (Int.toNat 1) default).Op (e.Args.getD (Int.toNat 1) default).Args)) fun r2=>.k (IntKind.i64.wrap ((IntKind.i64.wrap (r3*r2)).tdiv 1000))) .d) .d) (.i (e.Op==12) (.i (decide ((0:Int)≤(0:Int))&&decide (0<Int.ofNat e.Args.length)) (.bn (zy x_ (Scalar.mk (e.Args.getD (Int.toNat 0) default).Kind (e.Args.getD (Int.toNat 0) default).Column (e.Args.getD (Int.toNat 0) default).Value (e.Args.getD (Int.toNat 0) default).Op (e.Args.getD (Int.toNat 0) default).Args)) fun r5=>.i (decide ((0:Int)≤(1:Int))&&decide (1<Int.ofNat e.Args.length)) (.bn (zy x_ (Scalar.mk (e.Args.getD (Int.toNat 1) default).Kind (e.Args.getD (Int.toNat 1) default).Column (e.Args.getD (Int.toNat 1) default).Value (e.Args.getD (Int.toNat 1) default).Op (e.Args.getD (Int.toNat 1) default).Args)) fun r4=>.k (IntKind.i64.wrap (IntKind.i64.wrap (r5+r4) - IntKind.i64.wrap ((IntKind.i64.wrap (r5*r4)).tdiv 1000)))) .d) .d) (.i (decide (e.Op≥5)) (.i (decide (e.Op≤10)) (.i (decide ((0:Int)≤(0:Int))&&decide (0<Int.ofNat e.Args.length)) (.i (decide ((0:Int)≤(1:Int))&&decide (1<Int.ofNat e.Args.length)) (.bn (zca x_ e.Op (Scalar.mk (e.Args.getD (Int.toNat 0) default).Kind (e.Args.getD (Int.toNat 0) default).Column (e.Args.getD (Int.toNat 0) default).Value (e.Args.getD (Int.toNat 0) default).Op (e.Args.getD (Int.toNat 0) default).Args) (Scalar.mk (e.Args.getD (Int.toNat 1) default).Kind (e.Args.getD (Int.toNat 1) default).Column (e.Args.getD (Int.toNat 1) default).Value (e.Args.getD (Int.toNat 1) default).Op (e.Args.getD (Int.toNat 1) default).Args)) fun r6=>.k r6) .d) .d) (.k 333)) (.k 333)))))) (.i (Int.ofNat e.Args.length != 2) (.k 333) (.i (e.Op==11) (.i (decide ((0:Int)≤(0:Int))&&decide (0<Int.ofNat e.Args.length)) (.bn (zy x_ (Scalar.mk (e.Args.getD (Int.toNat 0) default).Kind (e.Args.getD (Int.toNat 0) default).Column (e.Args.getD (Int.toNat 0) default).Value (e.Args.getD (Int.toNat 0) default).Op (e.Args.getD (Int.toNat 0) default).Args)) fun r8=>.i (decide ((0:Int)≤(1:Int))&&decide (1<Int.ofNat e.Args.length)) (.bn (zy x_ (Scalar.mk (e.Args.getD (Int.toNat 1) default).Kind (e.Args.getD (Int.toNat 1) default).Column (e.Args.getD (Int.toNat 1) default).Value (e.Args.getD (Int.toNat 1) default).Op (e.Args.getD (Int.toNat 1) default).Args)) fun r7=>.k (IntKind.i64.wrap ((IntKind.i64.wrap (r8*r7)).tdiv 1000))) .d) .d) (.i (e.Op==12) (.i (decide ((0:Int)≤(0:Int))&&decide (0<Int.ofNat e.Args.length)) (.bn (zy x_ (Scalar.mk (e.Args.getD (Int.toNat 0) default).Kind (e.Args.getD (Int.toNat 0) default).Column (e.Args.getD (Int.toNat 0) default).Value (e.Args.getD (Int.toNat 0) default).Op (e.Args.getD (Int.toNat 0) default).Args)) fun r10=>.i (decide ((0:Int)≤(1:Int))&&decide (1<Int.ofNat e.Args.length)) (.bn (zy x_ (Scalar.mk (e.Args.getD (Int.toNat 1) default).Kind (e.Args.getD (Int.toNat 1) default).Column (e.Args.getD (Int.toNat 1) default).Value (e.Args.getD (Int.toNat 1) default).Op (e.Args.getD (Int.toNat 1) default).Args)) fun r9=>.k (IntKind.i64.wrap (IntKind.i64.wrap (r10+r9) - IntKind.i64.wrap ((IntKind.i64.wrap (r10*r9)).tdiv 1000)))) .d) .d) (.i (decide (e.Op≥5)) (.i (decide (e.Op≤10)) (.i (decide ((0:Int)≤(0:Int))&&decide (0<Int.ofNat e.Args.length)) (.i (decide ((0:Int)≤(1:Int))&&decide (1<Int.ofNat e.Args.length)) (.bn (zca x_ e.Op (Scalar.mk (e.Args.getD (Int.toNat 0) default).Kind (e.Args.getD (Int.toNat 0) default).Column (e.Args.getD (Int.toNat 0) default).Value (e.Args.getD (Int.toNat 0) default).Op (e.Args.getD (Int.toNat 0) default).Args) (Scalar.mk (e.Args.getD (Int.toNat 1) default).Kind (e.Args.getD (Int.toNat 1) default).Column (e.Args.getD (Int.toNat 1) default).Value (e.Args.getD (Int.toNat 1) default).Op (e.Args.getD (Int.toNat 1) default).Args)) fun r11=>.k r11) .d) .d) (.k 333)) (.k 333)))))))) (.i (e.Kind != 2) (.k 333) (.i (e.Op==13) (.i (Int.ofNat e.Args.length==1) (.i (decide ((0:Int)≤(0:Int))&&decide (0<Int.ofNat e.Args.length)) (.bn (zy x_ (Scalar.mk (e.Args.getD (Int.toNat 0) default).Kind (e.Args.getD (Int.toNat 0) default).Column (e.Args.getD (Int.toNat 0) default).Value (e.Args.getD (Int.toNat 0) default).Op (e.Args.getD (Int.toNat 0) default).Args)) fun r13=>.k (IntKind.i64.wrap (1000 - r13))) .d) (.i (Int.ofNat e.Args.length != 2) (.k 333) (.i (e.Op==11) (.i (decide ((0:Int)≤(0:Int))&&decide (0<Int.ofNat e.Args.length)) (.bn (zy x_ (Scalar.mk (e.Args.getD (Int.toNat 0) default).Kind (e.Args.getD (Int.toNat 0) default).Column (e.Args.getD (Int.toNat 0) default).Value (e.Args.getD (Int.toNat 0) default).Op (e.Args.getD (Int.toNat 0) default).Args)) fun r15=>.i (decide ((0:Int)≤(1:Int))&&decide (1<Int.ofNat e.Args.length)) (.bn (zy x_ (Scalar.mk (e.Args.getD (Int.toNat 1) default).Kind (e.Args.getD (Int.toNat 1) default).Column (e.Args.getD (Int.toNat 1) default).Value (e.Args.getD (Int.toNat 1) default).Op (e.Args.getD (Int.toNat 1) default).Args)) fun r14=>.k (IntKind.i64.wrap ((IntKind.i64.wrap (r15*r14)).tdiv 1000))) .d) .d) (.i (e.Op==12) (.i (decide ((0:Int)≤(0:Int))&&decide (0<Int.ofNat e.Args.length)) (.bn (zy x_ (Scalar.mk (e.Args.getD (Int.toNat 0) default).Kind (e.Args.getD (Int.toNat 0) default).Column (e.Args.getD (Int.toNat 0) default).Value (e.Args.getD (Int.toNat 0) default).Op (e.Args.getD (Int.toNat 0) default).Args)) fun r17=>.i (decide ((0:Int)≤(1:Int))&&decide (1<Int.ofNat e.Args.length)) (.bn (zy x_ (Scalar.mk (e.Args.getD (Int.toNat 1) default).Kind (e.Args.getD (Int.toNat 1) default).Column (e.Args.getD (Int.toNat 1) default).Value (e.Args.getD (Int.toNat 1) default).Op (e.Args.getD (Int.toNat 1) default).Args)) fun r16=>.k (IntKind.i64.wrap (IntKind.i64.wrap (r17+r16) - IntKind.i64.wrap ((IntKind.i64.wrap (r17*r16)).tdiv 1000)))) .d) .d) (.i (decide (e.Op≥5)) (.i (decide (e.Op≤10)) (.i (decide ((0:Int)≤(0:Int))&&decide (0<Int.ofNat e.Args.length)) (.i (decide ((0:Int)≤(1:Int))&&decide (1<Int.ofNat e.Args.length)) (.bn (zca x_ e.Op (Scalar.mk (e.Args.getD (Int.toNat 0) default).Kind (e.Args.getD (Int.toNat 0) default).Column (e.Args.getD (Int.toNat 0) default).Value (e.Args.getD (Int.toNat 0) default).Op (e.Args.getD (Int.toNat 0) default).Args) (Scalar.mk (e.Args.getD (Int.toNat 1) default).Kind (e.Args.getD (Int.toNat 1) default).Column (e.Args.getD (Int.toNat 1) default).Value (e.Args.getD (Int.toNat 1) default).Op (e.Args.getD (Int.toNat 1) default).Args)) fun r18=>.k r18) .d) .d) (.k 333)) (.k 333)))))) (.i (Int.ofNat e.Args.length != 2) (.k 333) (.i (e.Op==11) (.i (decide ((0:Int)≤(0:Int))&&decide (0<Int.ofNat e.Args.length)) (.bn (zy x_ (Scalar.mk (e.Args.getD (Int.toNat 0) default).Kind (e.Args.getD (Int.toNat 0) default).Column (e.Args.getD (Int.toNat 0) default).Value (e.Args.getD (Int.toNat 0) default).Op (e.Args.getD (Int.toNat 0) default).Args)) fun r20=>.i (decide ((0:Int)≤(1:Int))&&decide (1<Int.ofNat e.Args.length)) (.bn (zy x_ (Scalar.mk (e.Args.getD (Int.toNat 1) default).Kind (e.Args.getD (Int.toNat 1) default).Column (e.Args.getD (Int.toNat 1) default).Value (e.Args.getD (Int.toNat 1) default).Op (e.Args.getD (Int.toNat 1) default).Args)) fun r19=>.k (IntKind.i64.wrap ((IntKind.i64.wrap (r20*r19)).tdiv 1000))) .d) .d) (.i (e.Op==12) (.i (decide ((0:Int)≤(0:Int))&&decide (0<Int.ofNat e.Args.length)) (.bn (zy x_ (Scalar.mk (e.Args.getD (Int.toNat 0) default).Kind (e.Args.getD (Int.toNat 0) default).Column (e.Args.getD (Int.toNat 0) default).Value (e.Args.getD (Int.toNat 0) default).Op (e.Args.getD (Int.toNat 0) default).Args)) fun r22=>.i (decide ((0:Int)≤(1:Int))&&decide (1<Int.ofNat e.Args.length)) (.bn (zy x_ (Scalar.mk (e.Args.getD (Int.toNat 1) default).Kind (e.Args.getD (Int.toNat 1) default).Column (e.Args.getD (Int.toNat 1) default).Value (e.Args.getD (Int.toNat 1) default).Op (e.Args.getD (Int.toNat 1) default).Args)) fun r21=>.k (IntKind.i64.wrap (IntKind.i64.wrap (r22+r21) - IntKind.i64.wrap ((IntKind.i64.wrap (r22*r21)).tdiv 1000)))) .d) .d) (.i (decide (e.Op≥5)) (.i (decide (e.Op≤10)) (.i (decide ((0:Int)≤(0:Int))&&decide (0<Int.ofNat e.Args.length)) (.i (decide ((0:Int)≤(1:Int))&&decide (1<Int.ofNat e.Args.length)) (.bn (zca x_ e.Op (Scalar.mk (e.Args.getD (Int.toNat 0) default).Kind (e.Args.getD (Int.toNat 0) default).Column (e.Args.getD (Int.toNat 0) default).Value (e.Args.getD (Int.toNat 0) default).Op (e.Args.getD (Int.toNat 0) default).Args) (Scalar.mk (e.Args.getD (Int.toNat 1) default).Kind (e.Args.getD (Int.toNat 1) default).Column (e.Args.getD (Int.toNat 1) default).Value (e.Args.getD (Int.toNat 1) default).Op (e.Args.getD (Int.toNat 1) default).Args)) fun r23=>.k r23) .d) .d) (.k 333)) (.k 333))))))))
def zlQ (zy:estimator→Scalar→Bool×Int) (x_:estimator) (e:Scalar):Bool×Int:=(zkA zy x_ e).fin default
theorem zpw (zy:estimator→Scalar→Bool×Int) (zsl:Sound Tryz.prog base 46 (zdZ zy)):Sound Tryz.prog base 46 (zdZ (zlQ zy)):=
 zu (cx':=(zrK zy)) zH zn zD (zx ⟨zsl,zkc,zhB,znK,trivial⟩) Tryz.call46 Tryz.func46 (c:=body Tryz.f46) (by kernel_rfl) (zh (l:=[]) (by kernel_rfl) trivial) (sg:=⟨[.pure],[]⟩) (A:=zlC) (res:=zkE) (W:=fun x=>zkA zy x.1 x.2.1) (z:=default)
def zG0:Nat→(estimator→Scalar→Bool×Int)
 | 0=>fun _ _=>(false,default)
 | n+1=>zlQ (zG0 n)
def zlu (n:Nat):estimator→Scalar→Bool×Int:=zG0 n
theorem zDQ:∀ n,Sound Tryz.prog base 46 (zdZ (zlu n))
 | 0=>zbs Tryz.call46 (fun _=>rfl)
 | n+1=>by
  have ih:=zDQ n
  exact zpw _ (ih)
def znk:estimator→Scalar→Bool×Int:=zlu 1000
def statistics_estimator_cond_spec:Ab.Spec ty:=zdZ znk
theorem zrb:Sound Tryz.prog base 46 statistics_estimator_cond_spec:=(zDQ 1000)
def zvr:Cx ty:=mkCx base 12 [(15,zgU),(46,statistics_estimator_cond_spec)] [] [] [] [] []
def znQ (s:Stats) (cond:Scalar):Wy0 (Int):=.bn (zgN s) fun r1=>.i (!r1) (.k 0) (.bn (znk (estimator.mk s) (Scalar.mk cond.Kind cond.Column cond.Value cond.Op cond.Args)) fun r0=>.k r0)
def zpz (s:Stats) (cond:Scalar):Bool×Int:=(znQ s cond).fin default
def zmE (r:Int):ARes ty:=⟨[.pure (.lit (.int .i64 r))],[]⟩
def znX:AL base (Stats×Scalar×Unit):=zf (zg (vAgg 30)) (zf (zg (vAgg 47)) aNil)
def zlR:Ab.Spec ty:=zm znX fun x=>((zpz x.1 x.2.1).1,zmE (zpz x.1 x.2.1).2)
theorem zs4:Sound Tryz.prog base 19 zlR:=
 zu (cx':=zvr) zH zn zD (zx ⟨zhZ,zrb,trivial⟩) Tryz.call19 Tryz.func19 (c:=body Tryz.f19) (by kernel_rfl) (zh (l:=[]) (by kernel_rfl) trivial) (sg:=⟨[.pure],[]⟩) (A:=znX) (res:=zmE) (W:=fun x=>znQ x.1 x.2.1) (z:=default)
abbrev ttTlaw37awake0:=Unit×Unit×Int×Int×Unit
abbrev ttTlaw37awake1:=(Int×ByteArray×Unit×Unit×Unit)×List Int×List Column×List Row×Unit
abbrev ttTlaw37awake2:=Int×ByteArray×List Column×List Row
def zEE (t10:Int) (t11:Int) (t_0:Int) (t_1:ByteArray) (t9:List Int) (b2:List Column) (b3:List Row):Wy ttTlaw37awake0 ttTlaw37awake1 ttTlaw37awake2:=.i (decide (t11<t10)) (.i (decide (0≤t11)&&decide (t11<Int.ofNat t9.length)) (.i (decide ((b3.length+[Row.mk [(zp2 (t9.getD t11.toNat default)).2] []].length)*48≤reach)) (.h ((),(),t10,(IntKind.i64.wrap (t11+1)),()) ((t_0,t_1,(),(),()),t9,b2,(b3++[Row.mk [(zp2 (t9.getD t11.toNat default)).2] []]),())) .d) .d) (.k (t_0,t_1,b2,b3))
def zyQ (x:ttTlaw37awake0) (y:ttTlaw37awake1):Wy ttTlaw37awake0 ttTlaw37awake1 ttTlaw37awake2:=zEE x.2.2.1 x.2.2.2.1 y.1.1 y.1.2.1 y.2.1 y.2.2.1 y.2.2.2.1
def zxs (r:ttTlaw37awake2):LTree ty:=.done (.exit 0) [.ptr 368 0] [.box ([.lit (.int .i64 r.1),.lit (.string r.2.1),.own 369,.own 370]) false,.arr 67 r.2.2.1 false,.arr 38 r.2.2.2 false]
def zyZ:LL ty ttTlaw37awake0:=za (zct 368 0) (za (lOwn 369) (za (lInt .i64) (za (lInt .i64) zG)))
def zy4:BL ty ttTlaw37awake1:=bBox (za (lInt .i64) (za lStr (za (lOwn 370) (za (lOwn 371) zG)))) false (bArr 2 false (bArr 67 false (bArr 38 false (bNil))))
def zxz (x:ttTlaw37awake0) (y:ttTlaw37awake1):Nat:=(Int.toNat x.2.2.1+Int.toNat x.2.2.2.1+Int.toNat y.1.1+y.1.2.1.size+y.2.1.length+y.2.2.1.length+y.2.2.2.1.length+1000)
def zzu:Cx ty:=mkCx base0 92 [(12,zkr),(15,zgU),(19,zlR),(21,ztu),(24,zpQ),(32,zud),(33,zr8)] [] [(3,[(1,.boxOwn [(3,38)]),(9,.keep),(10,.keep),(11,.keep)])] [(3,1,[(1,.keep)])] [(3,spW zyZ zy4 (zyQ) default zxs zxz)] []
theorem zD4:zS zzu (lp (body Tryz.f10) 0):=zL (id:=3) (V:=zyZ) (B:=zy4) (W:=zyQ) (z:=default) (tr:=zxs) (m:=zxz)
def zAS:Wy0 (Bool):=.k true
def zCZ:Bool×Bool:=(zAS).fin default
def zxc (r:Bool):ARes ty:=⟨[.pure (.lit (.bool r))],[]⟩
def zAp:AL base0 (Unit):=aNil
def zwC:Ab.Spec ty:=zm zAp fun x=>((zCZ ).1,zxc (zCZ ).2)
theorem zCt:Sound Tryz.prog base0 10 zwC:=
 zu (cx':=zzu) zH zs3 zD (zx ⟨zoQ.nodr,zhZ.nodr,zs4.nodr,zA3.nodr,zwY,zAY.nodr,zvK.nodr,trivial⟩) Tryz.call10 Tryz.func10 (c:=body Tryz.f10) (by kernel_rfl) (zh (l:=[lp (body Tryz.f10) 0]) (by kernel_rfl) ⟨zD4,trivial⟩) (sg:=⟨[.pure],[]⟩) (A:=zAp) (res:=zxc) (W:=fun x=>zAS ) (z:=default)
abbrev ttTref01Short0:=List Value×Int×Int×Unit
abbrev ttTref01Short1:=Bool⊕(List Value×Int)
def zsY (l:List Value) (n_:Int) (i:Int):Wy ttTref01Short0 (Unit) ttTref01Short1:=.i (decide (i<Int.ofNat l.length)) (.i (decide (0≤i)&&decide (i<Int.ofNat l.length)) (.i (decide (Int.ofNat (l.getD i.toNat default).Text.size>300)) (.k (.inl false)) (.h (l,n_,(IntKind.i64.wrap (i+1)),()) ())) .d) (.k (.inr (l,n_)))
def zsS (x:ttTref01Short0) (y:Unit):Wy ttTref01Short0 (Unit) ttTref01Short1:=zsY x.1 x.2.1 x.2.2.1
def zsR (n:Nat) (l:List Value) (n_:Int) (i:Int):Bool×ttTref01Short1:=zN (zsS) (.inl default) n (l,n_,i,()) ()
def zxe (r:ttTref01Short1):LTree ty:=.ite (isL r) (.done .ret [.lit (.bool (getL r))] []) (.done (.exit 0) [.sl 40 (getR r).1,.lit (.int .i64 (getR r).2)] [])
def zyF:LL ty ttTref01Short0:=za (lSl 40) (za (lInt .i64) (za (lInt .i64) zG))
def zyw:BL ty (Unit):=bNil
def zxy (x:ttTref01Short0) (y:Unit):Nat:=(x.1.length+Int.toNat x.2.1+Int.toNat x.2.2.1+1)
def zzp:Cx ty:=mkCx base 23 [] [] [(2,[(0,.keep),(1,.keep),(5,.keep)])] [(2,1,[(0,.keep),(1,.keep)]),(2,0,[(4,.keep)])] [(2,spW zyF zyw (zsS) (.inl default) zxe zxy)] []
theorem zDG:zS zzp (lp (body Tryz.f27) 0):=zL (id:=2) (V:=zyF) (B:=zyw) (W:=zsS) (z:=.inl default) (tr:=zxe) (m:=zxy)
def zuj (l:List Value) (n_:Int):Wy0 (Bool):=.bn (zsR (l.length+n_.toNat +Int.toNat 0+1) l n_ 0) fun r0=>.i (isL r0) (.k (getL r0)) (.k (decide (Int.ofNat (getR r0).1.length≤(getR r0).2)))
def zmM (l:List Value) (n_:Int):Bool×Bool:=(zuj l n_).fin default
def zxM (r:Bool):ARes ty:=⟨[.pure (.lit (.bool r))],[]⟩
def zAL:AL base (List Value×Int×Unit):=zf (zg (vSl 40)) (zf (zg (vInt .i64)) aNil)
def zwG:Ab.Spec ty:=zm zAL fun x=>((zmM x.1 x.2.1).1,zxM (zmM x.1 x.2.1).2)
theorem zCx:Sound Tryz.prog base 27 zwG:=
 zu (cx':=zzp) zH zn zD (zx trivial) Tryz.call27 Tryz.func27 (c:=body Tryz.f27) (by kernel_rfl) (zh (l:=[lp (body Tryz.f27) 0]) (by kernel_rfl) ⟨zDG,trivial⟩) (sg:=⟨[.pure],[]⟩) (A:=zAL) (res:=zxM) (W:=fun x=>zuj x.1 x.2.1) (z:=default)
def zwj (r:Int):ARes ty:=⟨[.pure (.lit (.int .i64 r))],[]⟩
def zyY:AL base (List Term×Int×Int×Unit):=zf (zg (vSl 152)) (zf (zg (vInt .i64)) (zf (zg (vInt .i64)) aNil))
def zk3 (F:List Term→Int→Int→Bool×Int):Ab.Spec ty:=zm zyY fun x=>((F x.1 x.2.1 x.2.2.1).1,zwj (F x.1 x.2.1 x.2.2.1).2)
abbrev ttTref05weight0:=List Term×Int×Int×Int×Int×Int×Unit×Int×Unit
abbrev ttTref05weight1:=List Term×Int×Int×Int×Int×Int×Atom
abbrev ttTref05weight2:=List Term×Int×Int×Int×Int×Int
abbrev ttTref05weight3:=List Term×Int×Int×Int×Int×Int×Unit
abbrev ttTref05weight4:=List Term×Int×Int×Int×Int
abbrev ttTref05weight5:=List Term×Int×Int×Int×Int×Unit
def zn2 (zw:List Term→Int→Int→Bool×Int) (a:List Term) (limit:Int) (deep:Int) (n_:Int) (i:Int) (k:Int) (j:Int) (x_:Atom):Wy ttTref05weight0 (Atom×Unit) ttTref05weight1:=.i (decide (j<Int.ofNat x_.Args.length)) (.i (decide (n_≤limit)) (.i (decide (0≤j)&&decide (j<Int.ofNat x_.Args.length)) (.bn (zw (x_.Args.getD j.toNat default) (IntKind.i64.wrap (limit - n_)) (IntKind.i64.wrap (deep - 1))) fun r0=>.h (a,limit,deep,(IntKind.i64.wrap (n_+r0)),i,k,(),(IntKind.i64.wrap (j+1)),()) (x_,())) .d) (.k (a,limit,deep,n_,i,k,x_))) (.k (a,limit,deep,n_,i,k,x_))
def zom (zw:List Term→Int→Int→Bool×Int) (x:ttTref05weight0) (y:Atom×Unit):Wy ttTref05weight0 (Atom×Unit) ttTref05weight1:=zn2 zw x.1 x.2.1 x.2.2.1 x.2.2.2.1 x.2.2.2.2.1 x.2.2.2.2.2.1 x.2.2.2.2.2.2.2.1 y.1
def znN (zw:List Term→Int→Int→Bool×Int) (n:Nat) (a:List Term) (limit:Int) (deep:Int) (n_:Int) (i:Int) (k:Int) (j:Int) (x_:Atom):Bool×ttTref05weight1:=zN (zom zw) default n (a,limit,deep,n_,i,k,(),j,()) (x_,())
def zsq (r:ttTref05weight1):LTree ty:=.done (.exit 4) [.sl 152 r.1,.lit (.int .i64 r.2.1),.lit (.int .i64 r.2.2.1),.lit (.int .i64 r.2.2.2.1),.lit (.int .i64 r.2.2.2.2.1),.lit (.int .i64 r.2.2.2.2.2.1),.ptr 544 0] [.box (base.enc 158 r.2.2.2.2.2.2) false]
def ztW:LL ty ttTref05weight0:=za (lSl 152) (za (lInt .i64) (za (lInt .i64) (za (lInt .i64) (za (lInt .i64) (za (lInt .i64) (za (zct 544 0) (za (lInt .i64) zG)))))))
def ztD:BL ty (Atom×Unit):=bBox (zhc (fun x=>(⟨x.1,⟨x.2.1,x.2.2.1⟩,x.2.2.2.1,x.2.2.2.2.1,x.2.2.2.2.2.1,x.2.2.2.2.2.2.1,⟨x.2.2.2.2.2.2.2.1,x.2.2.2.2.2.2.2.2.1,x.2.2.2.2.2.2.2.2.2.1⟩⟩:Atom)) (fun x=>(x.Kind,x.Row.Table,x.Row.Seq,x.Args,x.Func,x.Items,x.Op,x.Bound.Kind,x.Bound.Int,x.Bound.Text,())) (fun _=>rfl) (za (lInt .i64) (za (lInt .i64) (za (lInt .i64) (za (lSl 36) (za (lInt .i64) (za (lSl 182) (za (lInt .i64) (za (lInt .i64) (za (lInt .i64) (za lStr zG))))))))))) false (bNil)
def zn0 (zw:List Term→Int→Int→Bool×Int) (a:List Term) (limit:Int) (deep:Int) (n_:Int) (i:Int) (k:Int) (j:Int) (x_:Atom):Wy ttTref05weight0 (Atom×Unit) ttTref05weight2:=.i (decide (j<Int.ofNat x_.Items.length)) (.i (decide (n_≤limit)) (.i (decide (0≤j)&&decide (j<Int.ofNat x_.Items.length)) (.i (decide (0≤j)&&decide (j<Int.ofNat x_.Items.length)) (.bn (zw (x_.Items.getD j.toNat default).Ann (IntKind.i64.wrap (limit - n_)) (IntKind.i64.wrap (deep - 1))) fun r2=>.h (a,limit,deep,(IntKind.i64.wrap (IntKind.i64.wrap (n_+Int.ofNat (x_.Items.getD j.toNat default).Value.Text.size)+r2)),i,k,(),(IntKind.i64.wrap (j+1)),()) (x_,())) .d) .d) (.k (a,limit,deep,n_,i,k))) (.k (a,limit,deep,n_,i,k))
def znW (zw:List Term→Int→Int→Bool×Int) (x:ttTref05weight0) (y:Atom×Unit):Wy ttTref05weight0 (Atom×Unit) ttTref05weight2:=zn0 zw x.1 x.2.1 x.2.2.1 x.2.2.2.1 x.2.2.2.2.1 x.2.2.2.2.2.1 x.2.2.2.2.2.2.2.1 y.1
def zon (zw:List Term→Int→Int→Bool×Int) (n:Nat) (a:List Term) (limit:Int) (deep:Int) (n_:Int) (i:Int) (k:Int) (j:Int) (x_:Atom):Bool×ttTref05weight2:=zN (znW zw) default n (a,limit,deep,n_,i,k,(),j,()) (x_,())
def zsF (r:ttTref05weight2):LTree ty:=.done (.exit 6) [.sl 152 r.1,.lit (.int .i64 r.2.1),.lit (.int .i64 r.2.2.1),.lit (.int .i64 r.2.2.2.1),.lit (.int .i64 r.2.2.2.2.1),.lit (.int .i64 r.2.2.2.2.2)] []
def ztL:LL ty ttTref05weight0:=za (lSl 152) (za (lInt .i64) (za (lInt .i64) (za (lInt .i64) (za (lInt .i64) (za (lInt .i64) (za (zct 544 0) (za (lInt .i64) zG)))))))
def ztX:BL ty (Atom×Unit):=bBox (zhc (fun x=>(⟨x.1,⟨x.2.1,x.2.2.1⟩,x.2.2.2.1,x.2.2.2.2.1,x.2.2.2.2.2.1,x.2.2.2.2.2.2.1,⟨x.2.2.2.2.2.2.2.1,x.2.2.2.2.2.2.2.2.1,x.2.2.2.2.2.2.2.2.2.1⟩⟩:Atom)) (fun x=>(x.Kind,x.Row.Table,x.Row.Seq,x.Args,x.Func,x.Items,x.Op,x.Bound.Kind,x.Bound.Int,x.Bound.Text,())) (fun _=>rfl) (za (lInt .i64) (za (lInt .i64) (za (lInt .i64) (za (lSl 36) (za (lInt .i64) (za (lSl 182) (za (lInt .i64) (za (lInt .i64) (za (lInt .i64) (za lStr zG))))))))))) false (bNil)
def zpa (zw:List Term→Int→Int→Bool×Int) (a:List Term) (limit:Int) (deep:Int) (n_:Int) (i:Int) (k:Int):Wy ttTref05weight3 (Unit) ttTref05weight4:=.i (decide (0≤i)&&decide (i<Int.ofNat a.length)) (.i (decide (k<Int.ofNat (a.getD i.toNat default).Factors.length)) (.i (decide (n_≤limit)) (.i (decide (0≤i)&&decide (i<Int.ofNat a.length)) (.i (decide (0≤k)&&decide (k<Int.ofNat (a.getD i.toNat default).Factors.length)) (.bn (znN zw (a.length+limit.toNat +deep.toNat +(IntKind.i64.wrap (IntKind.i64.wrap (IntKind.i64.wrap (n_+Int.ofNat ((a.getD i.toNat default).Factors.getD k.toNat default).Atom.Items.length)+Int.ofNat ((a.getD i.toNat default).Factors.getD k.toNat default).Atom.Args.length)+Int.ofNat ((a.getD i.toNat default).Factors.getD k.toNat default).Atom.Bound.Text.size)).toNat +i.toNat +k.toNat +Int.toNat 0+((a.getD i.toNat default).Factors.getD k.toNat default).Atom.Args.length+((a.getD i.toNat default).Factors.getD k.toNat default).Atom.Items.length+1000) a limit deep (IntKind.i64.wrap (IntKind.i64.wrap (IntKind.i64.wrap (n_+Int.ofNat ((a.getD i.toNat default).Factors.getD k.toNat default).Atom.Items.length)+Int.ofNat ((a.getD i.toNat default).Factors.getD k.toNat default).Atom.Args.length)+Int.ofNat ((a.getD i.toNat default).Factors.getD k.toNat default).Atom.Bound.Text.size)) i k 0 (Atom.mk ((a.getD i.toNat default).Factors.getD k.toNat default).Atom.Kind ((a.getD i.toNat default).Factors.getD k.toNat default).Atom.Row ((a.getD i.toNat default).Factors.getD k.toNat default).Atom.Args ((a.getD i.toNat default).Factors.getD k.toNat default).Atom.Func ((a.getD i.toNat default).Factors.getD k.toNat default).Atom.Items ((a.getD i.toNat default).Factors.getD k.toNat default).Atom.Op ((a.getD i.toNat default).Factors.getD k.toNat default).Atom.Bound)) fun r5=>.bn (zon zw (r5.1.length+r5.2.1.toNat +r5.2.2.1.toNat +r5.2.2.2.1.toNat +r5.2.2.2.2.1.toNat +r5.2.2.2.2.2.1.toNat +Int.toNat 0+r5.2.2.2.2.2.2.Args.length+r5.2.2.2.2.2.2.Items.length+1000) r5.1 r5.2.1 r5.2.2.1 r5.2.2.2.1 r5.2.2.2.2.1 r5.2.2.2.2.2.1 0 (Atom.mk r5.2.2.2.2.2.2.Kind r5.2.2.2.2.2.2.Row r5.2.2.2.2.2.2.Args r5.2.2.2.2.2.2.Func r5.2.2.2.2.2.2.Items r5.2.2.2.2.2.2.Op r5.2.2.2.2.2.2.Bound)) fun r4=>.h ((r4.1),(r4.2.1),(r4.2.2.1),(r4.2.2.2.1),(r4.2.2.2.2.1),(IntKind.i64.wrap (r4.2.2.2.2.2+1)),()) ()) .d) .d) (.k (a,limit,deep,n_,i))) (.k (a,limit,deep,n_,i))) .d
def zo8 (zw:List Term→Int→Int→Bool×Int) (x:ttTref05weight3) (y:Unit):Wy ttTref05weight3 (Unit) ttTref05weight4:=zpa zw x.1 x.2.1 x.2.2.1 x.2.2.2.1 x.2.2.2.2.1 x.2.2.2.2.2.1
def zo3 (zw:List Term→Int→Int→Bool×Int) (n:Nat) (a:List Term) (limit:Int) (deep:Int) (n_:Int) (i:Int) (k:Int):Bool×ttTref05weight4:=zN (zo8 zw) default n (a,limit,deep,n_,i,k,()) ()
def zts (r:ttTref05weight4):LTree ty:=.done (.exit 2) [.sl 152 r.1,.lit (.int .i64 r.2.1),.lit (.int .i64 r.2.2.1),.lit (.int .i64 r.2.2.2.1),.lit (.int .i64 r.2.2.2.2)] []
def zuK:LL ty ttTref05weight3:=za (lSl 152) (za (lInt .i64) (za (lInt .i64) (za (lInt .i64) (za (lInt .i64) (za (lInt .i64) zG)))))
def zuP:BL ty (Unit):=bNil
def zo7 (zw:List Term→Int→Int→Bool×Int) (a:List Term) (limit:Int) (deep:Int) (n_:Int) (i:Int):Wy ttTref05weight5 (Unit) (Int):=.i (decide (i<Int.ofNat a.length)) (.i (decide (n_≤limit)) (.i (decide (0≤i)&&decide (i<Int.ofNat a.length)) (.bn (zo3 zw (a.length+limit.toNat +deep.toNat +(IntKind.i64.wrap (IntKind.i64.wrap (n_+1)+Int.ofNat (a.getD i.toNat default).Factors.length)).toNat +i.toNat +Int.toNat 0+1000) a limit deep (IntKind.i64.wrap (IntKind.i64.wrap (n_+1)+Int.ofNat (a.getD i.toNat default).Factors.length)) i 0) fun r8=>.h ((r8.1),(r8.2.1),(r8.2.2.1),(r8.2.2.2.1),(IntKind.i64.wrap (r8.2.2.2.2+1)),()) ()) .d) (.k n_)) (.k n_)
def zo5 (zw:List Term→Int→Int→Bool×Int) (x:ttTref05weight5) (y:Unit):Wy ttTref05weight5 (Unit) (Int):=zo7 zw x.1 x.2.1 x.2.2.1 x.2.2.2.1 x.2.2.2.2.1
def zo6 (zw:List Term→Int→Int→Bool×Int) (n:Nat) (a:List Term) (limit:Int) (deep:Int) (n_:Int) (i:Int):Bool×Int:=zN (zo5 zw) default n (a,limit,deep,n_,i,()) ()
def zt3 (r:Int):LTree ty:=.done (.exit 0) [.lit (.int .i64 r)] []
def zuX:LL ty ttTref05weight5:=za (lSl 152) (za (lInt .i64) (za (lInt .i64) (za (lInt .i64) (za (lInt .i64) zG))))
def zuI:BL ty (Unit):=bNil
def zsr (x:ttTref05weight0) (y:Atom×Unit):Nat:=(x.1.length+Int.toNat x.2.1+Int.toNat x.2.2.1+Int.toNat x.2.2.2.1+Int.toNat x.2.2.2.2.1+Int.toNat x.2.2.2.2.2.1+Int.toNat x.2.2.2.2.2.2.2.1+y.1.Args.length+y.1.Items.length+1000)
def zsz (x:ttTref05weight0) (y:Atom×Unit):Nat:=(x.1.length+Int.toNat x.2.1+Int.toNat x.2.2.1+Int.toNat x.2.2.2.1+Int.toNat x.2.2.2.2.1+Int.toNat x.2.2.2.2.2.1+Int.toNat x.2.2.2.2.2.2.2.1+y.1.Args.length+y.1.Items.length+1000)
def ztS (x:ttTref05weight3) (y:Unit):Nat:=(x.1.length+Int.toNat x.2.1+Int.toNat x.2.2.1+Int.toNat x.2.2.2.1+Int.toNat x.2.2.2.2.1+Int.toNat x.2.2.2.2.2.1+1000)
def ztp (x:ttTref05weight5) (y:Unit):Nat:=(x.1.length+Int.toNat x.2.1+Int.toNat x.2.2.1+Int.toNat x.2.2.2.1+Int.toNat x.2.2.2.2.1+1000)
def ziY (zw:List Term→Int→Int→Bool×Int):Cx ty:=mkCx base 136 [(100,(zk3 zw))] [] [(5,[(0,.keep),(1,.keep),(2,.keep),(7,.keep),(8,.keep)]),(9,[(0,.keep),(1,.keep),(2,.keep),(7,.keep),(8,.keep),(9,.keep)]),(14,[(0,.keep),(1,.keep),(2,.keep),(7,.keep),(8,.keep),(9,.keep),(10,.keep),(11,.keep)]),(18,[(0,.keep),(1,.keep),(2,.keep),(7,.keep),(8,.keep),(9,.keep),(10,.keep),(12,.keep)])] [(5,1,[(7,.keep)]),(9,3,[(0,.keep),(1,.keep),(2,.keep),(7,.keep),(8,.keep)]),(14,5,[(0,.keep),(1,.keep),(2,.keep),(7,.keep),(8,.keep),(9,.keep),(10,.keep)]),(18,7,[(0,.keep),(1,.keep),(2,.keep),(7,.keep),(8,.keep),(9,.keep)])] [(14,spW ztW ztD (zom zw) default zsq zsr),(18,spW ztL ztX (znW zw) default zsF zsz),(9,spW zuK zuP (zo8 zw) default zts ztS),(5,spW zuX zuI (zo5 zw) default zt3 ztp)] []
theorem zAW (zw:List Term→Int→Int→Bool×Int):zS (ziY zw) (lp (body Tryz.f100) 2):=zL (id:=14) (V:=ztW) (B:=ztD) (W:=zom zw) (z:=default) (tr:=zsq) (m:=zsr)
theorem zAV (zw:List Term→Int→Int→Bool×Int):zS (ziY zw) (lp (body Tryz.f100) 3):=zL (id:=18) (V:=ztL) (B:=ztX) (W:=znW zw) (z:=default) (tr:=zsF) (m:=zsz)
theorem zBz (zw:List Term→Int→Int→Bool×Int):zS (ziY zw) (lp (body Tryz.f100) 1):=zL (id:=9) (V:=zuK) (B:=zuP) (W:=zo8 zw) (z:=default) (tr:=zts) (m:=ztS)
theorem zBA (zw:List Term→Int→Int→Bool×Int):zS (ziY zw) (lp (body Tryz.f100) 0):=zL (id:=5) (V:=zuX) (B:=zuI) (W:=zo5 zw) (z:=default) (tr:=zt3) (m:=ztp)
def zmc (zw:List Term→Int→Int→Bool×Int) (a:List Term) (limit:Int) (deep:Int):Wy0 (Int):=.i (deep==0) (.k (IntKind.i64.wrap (limit+1))) (.bn (zo6 zw (a.length+limit.toNat +deep.toNat +Int.toNat 0+Int.toNat 0+1000) a limit deep 0 0) fun r10=>.k r10)
def zkU (zw:List Term→Int→Int→Bool×Int) (a:List Term) (limit:Int) (deep:Int):Bool×Int:=(zmc zw a limit deep).fin default
theorem zzB (zw:List Term→Int→Int→Bool×Int) (zDn:Sound Tryz.prog base 100 (zk3 zw)):Sound Tryz.prog base 100 (zk3 (zkU zw)):=
 zu (cx':=(ziY zw)) zH zn zD (zx ⟨zDn,trivial⟩) Tryz.call100 Tryz.func100 (c:=body Tryz.f100) (by kernel_rfl) (zh (l:=[lp (body Tryz.f100) 0,lp (body Tryz.f100) 1,lp (body Tryz.f100) 2,lp (body Tryz.f100) 3]) (by kernel_rfl) ⟨zBA zw,zBz zw,zAW zw,zAV zw,trivial⟩) (sg:=⟨[.pure],[]⟩) (A:=zyY) (res:=zwj) (W:=fun x=>zmc zw x.1 x.2.1 x.2.2.1) (z:=default)
def zCK:Nat→(List Term→Int→Int→Bool×Int)
 | 0=>fun _ _ _=>(false,default)
 | n+1=>zkU (zCK n)
def zjx (n:Nat):List Term→Int→Int→Bool×Int:=zCK n
theorem zuH (n:Nat):zjx (n+1)=zkU (zjx n):=rfl
theorem zAA:∀ n,Sound Tryz.prog base 100 (zk3 (zjx n))
 | 0=>zbs Tryz.call100 (fun _=>rfl)
 | n+1=>by
  have ih:=zAA n
  exact zzB _ (ih)
def zvG:List Term→Int→Int→Bool×Int:=zjx 1000
def ref05_weight_spec:Ab.Spec ty:=zk3 zvG
theorem zB4:Sound Tryz.prog base 100 ref05_weight_spec:=(zAA 1000)
abbrev ttTref05Few0:=Int×List (List Term)×Int×Unit
def zwP (limit:Int) (l:List (List Term)) (i:Int):Wy ttTref05Few0 (Unit) (Bool⊕Unit):=.i (decide (i<Int.ofNat l.length)) (.i (decide (0≤i)&&decide (i<Int.ofNat l.length)) (.bn (zvG (l.getD i.toNat default) limit 12) fun r0=>.i (decide (r0>limit)) (.k (.inl false)) (.h (limit,l,(IntKind.i64.wrap (i+1)),()) ())) .d) (.k (.inr ()))
def zwq (x:ttTref05Few0) (y:Unit):Wy ttTref05Few0 (Unit) (Bool⊕Unit):=zwP x.1 x.2.1 x.2.2.1
def zvC (n:Nat) (limit:Int) (l:List (List Term)) (i:Int):Bool×(Bool⊕Unit):=zN (zwq) (.inl default) n (limit,l,i,()) ()
def zAR (r:Bool⊕Unit):LTree ty:=.ite (isL r) (.done .ret [.lit (.bool (getL r))] []) (.done (.exit 0) [] [])
def zB1:LL ty ttTref05Few0:=za (lInt .i64) (za (lSl 36) (za (lInt .i64) zG))
def zBn:BL ty (Unit):=bNil
def zAQ (x:ttTref05Few0) (y:Unit):Nat:=(Int.toNat x.1+x.2.1.length+Int.toNat x.2.2.1+1000)
def zCc:Cx ty:=mkCx base 20 [(100,ref05_weight_spec)] [] [(2,[(0,.keep),(1,.keep),(5,.keep)])] [(2,1,[]),(2,0,[(4,.keep)])] [(2,spW zB1 zBn (zwq) (.inl default) zAR zAQ)] []
theorem zFG:zS zCc (lp (body Tryz.f66) 0):=zL (id:=2) (V:=zB1) (B:=zBn) (W:=zwq) (z:=.inl default) (tr:=zAR) (m:=zAQ)
def zyd (limit:Int) (l:List (List Term)):Wy0 (Bool):=.bn (zvC (limit.toNat +l.length+Int.toNat 0+1000) limit l 0) fun r2=>.i (isL r2) (.k (getL r2)) (.k true)
def zqk (limit:Int) (l:List (List Term)):Bool×Bool:=(zyd limit l).fin default
def zAq (r:Bool):ARes ty:=⟨[.pure (.lit (.bool r))],[]⟩
def zCS:AL base (Int×List (List Term)×Unit):=zf (zg (vInt .i64)) (zf (zg (vSl 36)) aNil)
def zzg:Ab.Spec ty:=zm zCS fun x=>((zqk x.1 x.2.1).1,zAq (zqk x.1 x.2.1).2)
theorem zDD:Sound Tryz.prog base 66 zzg:=
 zu (cx':=zCc) zH zn zD (zx ⟨zB4,trivial⟩) Tryz.call66 Tryz.func66 (c:=body Tryz.f66) (by kernel_rfl) (zh (l:=[lp (body Tryz.f66) 0]) (by kernel_rfl) ⟨zFG,trivial⟩) (sg:=⟨[.pure],[]⟩) (A:=zCS) (res:=zAq) (W:=fun x=>zyd x.1 x.2.1) (z:=default)
abbrev ttTref29Few0:=Int×Int×List Relation×Int×Int×Unit
abbrev ttTref29Few1:=Bool⊕(Int×Int×List Relation×Int)
abbrev ttTref29Few2:=Int×Int×List Relation×Int×Unit
def zvV (rows:Int) (weight:Int) (l:List Relation) (i:Int) (k:Int):Wy ttTref29Few0 (Unit) ttTref29Few1:=.i (decide (0≤i)&&decide (i<Int.ofNat l.length)) (.i (decide (k<Int.ofNat (l.getD i.toNat default).Columns.length)) (.i (decide (0≤i)&&decide (i<Int.ofNat l.length)) (.i (decide (0≤k)&&decide (k<Int.ofNat (l.getD i.toNat default).Columns.length)) (.i (decide (Int.ofNat ((l.getD i.toNat default).Columns.getD k.toNat default).Name.size>100)) (.k (.inl false)) (.h (rows,weight,l,i,(IntKind.i64.wrap (k+1)),()) ())) .d) .d) (.k (.inr (rows,weight,l,i)))) .d
def zsc (x:ttTref29Few0) (y:Unit):Wy ttTref29Few0 (Unit) ttTref29Few1:=zvV x.1 x.2.1 x.2.2.1 x.2.2.2.1 x.2.2.2.2.1
def zBa (n:Nat) (rows:Int) (weight:Int) (l:List Relation) (i:Int) (k:Int):Bool×ttTref29Few1:=zN (zsc) (.inl default) n (rows,weight,l,i,k,()) ()
def zAN (r:ttTref29Few1):LTree ty:=.ite (isL r) (.done .ret [.lit (.bool (getL r))] []) (.done (.exit 2) [.lit (.int .i64 (getR r).1),.lit (.int .i64 (getR r).2.1),.sl 73 (getR r).2.2.1,.lit (.int .i64 (getR r).2.2.2)] [])
def zB9:LL ty ttTref29Few0:=za (lInt .i64) (za (lInt .i64) (za (lSl 73) (za (lInt .i64) (za (lInt .i64) zG))))
def zBl:BL ty (Unit):=bNil
def zug (rows:Int) (weight:Int) (l:List Relation) (i:Int) (k:Int):Wy ttTref29Few0 (Unit) ttTref29Few1:=.i (decide (0≤i)&&decide (i<Int.ofNat l.length)) (.i (decide (k<Int.ofNat (l.getD i.toNat default).Rows.length)) (.i (decide (0≤i)&&decide (i<Int.ofNat l.length)) (.i (decide (0≤k)&&decide (k<Int.ofNat (l.getD i.toNat default).Rows.length)) (.bn (zmM ((l.getD i.toNat default).Rows.getD k.toNat default).Values 20) fun r1=>.i (!r1) (.k (.inl false)) (.i (decide (0≤i)&&decide (i<Int.ofNat l.length)) (.i (decide (0≤k)&&decide (k<Int.ofNat (l.getD i.toNat default).Rows.length)) (.bn (zqk weight [((l.getD i.toNat default).Rows.getD k.toNat default).Ann]) fun r0=>.i (!r0) (.k (.inl false)) (.h (rows,weight,l,i,(IntKind.i64.wrap (k+1)),()) ())) .d) .d)) .d) .d) (.k (.inr (rows,weight,l,i)))) .d
def zp5 (x:ttTref29Few0) (y:Unit):Wy ttTref29Few0 (Unit) ttTref29Few1:=zug x.1 x.2.1 x.2.2.1 x.2.2.2.1 x.2.2.2.2.1
def zAs (n:Nat) (rows:Int) (weight:Int) (l:List Relation) (i:Int) (k:Int):Bool×ttTref29Few1:=zN (zp5) (.inl default) n (rows,weight,l,i,k,()) ()
def zzl (r:ttTref29Few1):LTree ty:=.ite (isL r) (.done .ret [.lit (.bool (getL r))] []) (.done (.exit 4) [.lit (.int .i64 (getR r).1),.lit (.int .i64 (getR r).2.1),.sl 73 (getR r).2.2.1,.lit (.int .i64 (getR r).2.2.2)] [])
def zAh:LL ty ttTref29Few0:=za (lInt .i64) (za (lInt .i64) (za (lSl 73) (za (lInt .i64) (za (lInt .i64) zG))))
def zAo:BL ty (Unit):=bNil
def zjO (rows:Int) (weight:Int) (l:List Relation) (i:Int):Wy ttTref29Few2 (Unit) (Bool⊕Unit):=.i (decide (i<Int.ofNat l.length)) (.i (decide (0≤i)&&decide (i<Int.ofNat l.length)) (.i (decide (Int.ofNat (l.getD i.toNat default).Rows.length>rows)) (.k (.inl false)) (.i (decide (0≤i)&&decide (i<Int.ofNat l.length)) (.i (decide (Int.ofNat (l.getD i.toNat default).Columns.length>20)) (.k (.inl false)) (.bn (zBa (rows.toNat +weight.toNat +l.length+i.toNat +Int.toNat 0+1000) rows weight l i 0) fun r5=>.i (isL r5) (.k (.inl (getL r5))) (.bn (zAs ((getR r5).1.toNat +(getR r5).2.1.toNat +(getR r5).2.2.1.length+(getR r5).2.2.2.toNat +Int.toNat 0+1000) (getR r5).1 (getR r5).2.1 (getR r5).2.2.1 (getR r5).2.2.2 0) fun r4=>.i (isL r4) (.k (.inl (getL r4))) (.h ((getR r4).1,(getR r4).2.1,(getR r4).2.2.1,(IntKind.i64.wrap ((getR r4).2.2.2+1)),()) ())))) .d)) .d) (.k (.inr ()))
def zrR (x:ttTref29Few2) (y:Unit):Wy ttTref29Few2 (Unit) (Bool⊕Unit):=zjO x.1 x.2.1 x.2.2.1 x.2.2.2.1
def zvA (n:Nat) (rows:Int) (weight:Int) (l:List Relation) (i:Int):Bool×(Bool⊕Unit):=zN (zrR) (.inl default) n (rows,weight,l,i,()) ()
def zAJ (r:Bool⊕Unit):LTree ty:=.ite (isL r) (.done .ret [.lit (.bool (getL r))] []) (.done (.exit 0) [] [])
def zBU:LL ty ttTref29Few2:=za (lInt .i64) (za (lInt .i64) (za (lSl 73) (za (lInt .i64) zG)))
def zBr:BL ty (Unit):=bNil
def zAP (x:ttTref29Few0) (y:Unit):Nat:=(Int.toNat x.1+Int.toNat x.2.1+x.2.2.1.length+Int.toNat x.2.2.2.1+Int.toNat x.2.2.2.2.1+1000)
def zy7 (x:ttTref29Few0) (y:Unit):Nat:=(Int.toNat x.1+Int.toNat x.2.1+x.2.2.1.length+Int.toNat x.2.2.2.1+Int.toNat x.2.2.2.2.1+1000)
def zAt (x:ttTref29Few2) (y:Unit):Nat:=(Int.toNat x.1+Int.toNat x.2.1+x.2.2.1.length+Int.toNat x.2.2.2.1+1000)
def zr1:Cx ty:=mkCx base 90 [(27,zwG),(66,zzg)] [] [(2,[(0,.keep),(1,.keep),(2,.keep),(7,.keep)]),(7,[(0,.keep),(1,.keep),(2,.keep),(7,.keep),(8,.keep)]),(12,[(0,.keep),(1,.keep),(2,.keep),(7,.keep),(9,.keep)])] [(2,1,[]),(2,0,[(6,.keep)]),(7,3,[(0,.keep),(1,.keep),(2,.keep),(7,.keep)]),(7,0,[(6,.keep)]),(12,5,[(0,.keep),(1,.keep),(2,.keep),(7,.keep)]),(12,0,[(6,.keep)])] [(7,spW zB9 zBl (zsc) (.inl default) zAN zAP),(12,spW zAh zAo (zp5) (.inl default) zzl zy7),(2,spW zBU zBr (zrR) (.inl default) zAJ zAt)] []
theorem zFD:zS zr1 (lp (body Tryz.f34) 1):=zL (id:=7) (V:=zB9) (B:=zBl) (W:=zsc) (z:=.inl default) (tr:=zAN) (m:=zAP)
theorem zEF:zS zr1 (lp (body Tryz.f34) 2):=zL (id:=12) (V:=zAh) (B:=zAo) (W:=zp5) (z:=.inl default) (tr:=zzl) (m:=zy7)
theorem zFE:zS zr1 (lp (body Tryz.f34) 0):=zL (id:=2) (V:=zBU) (B:=zBr) (W:=zrR) (z:=.inl default) (tr:=zAJ) (m:=zAt)
def zx3 (rows:Int) (weight:Int) (l:List Relation):Wy0 (Bool):=.bn (zvA (rows.toNat +weight.toNat +l.length+Int.toNat 0+1000) rows weight l 0) fun r8=>.i (isL r8) (.k (getL r8)) (.k true)
def ztU (rows:Int) (weight:Int) (l:List Relation):Bool×Bool:=(zx3 rows weight l).fin default
def zAM (r:Bool):ARes ty:=⟨[.pure (.lit (.bool r))],[]⟩
def zC3:AL base (Int×Int×List Relation×Unit):=zf (zg (vInt .i64)) (zf (zg (vInt .i64)) (zf (zg (vSl 73)) aNil))
def zzk:Ab.Spec ty:=zm zC3 fun x=>((ztU x.1 x.2.1 x.2.2.1).1,zAM (ztU x.1 x.2.1 x.2.2.1).2)
theorem zEr:Sound Tryz.prog base 34 zzk:=
 zu (cx':=zr1) zH zn zD (zx ⟨zCx,zDD,trivial⟩) Tryz.call34 Tryz.func34 (c:=body Tryz.f34) (by kernel_rfl) (zh (l:=[lp (body Tryz.f34) 0,lp (body Tryz.f34) 1,lp (body Tryz.f34) 2]) (by kernel_rfl) ⟨zFE,zFD,zEF,trivial⟩) (sg:=⟨[.pure],[]⟩) (A:=zC3) (res:=zAM) (W:=fun x=>zx3 x.1 x.2.1 x.2.2.1) (z:=default)
def zGt:Cx ty:=mkCx base 10 [(34,zzk)] [] [] [] [] []
def zx5 (t:Table):Wy0 (Bool):=.bn (ztU 12 8 [Relation.mk t.Columns t.Rows]) fun r0=>.k r0
def zt2 (t:Table):Bool×Bool:=(zx5 t).fin default
def zAz (r:Bool):ARes ty:=⟨[.pure (.lit (.bool r))],[]⟩
def zCO:AL base (Table×Unit):=zf (zg (vAgg 25)) aNil
def zza:Ab.Spec ty:=zm zCO fun x=>((zt2 x.1).1,zAz (zt2 x.1).2)
theorem zD2:Sound Tryz.prog base 11 zza:=
 zu (cx':=zGt) zH zn zD (zx ⟨zEr,trivial⟩) Tryz.call11 Tryz.func11 (c:=body Tryz.f11) (by kernel_rfl) (zh (l:=[]) (by kernel_rfl) trivial) (sg:=⟨[.pure],[]⟩) (A:=zCO) (res:=zAz) (W:=fun x=>zx5 x.1) (z:=default)
abbrev ttTref29Columns0:=List Column×Int×Unit
abbrev ttTref29Columns1:=Bool⊕List Column
def zqf (l:List Column) (i:Int):Wy ttTref29Columns0 (Unit) ttTref29Columns1:=.i (decide (i<Int.ofNat l.length)) (.i (decide (0≤i)&&decide (i<Int.ofNat l.length)) (.i (decide ((l.getD i.toNat default).Type_<0)) (.k (.inl false)) (.i (decide (0≤i)&&decide (i<Int.ofNat l.length)) (.i (decide ((l.getD i.toNat default).Type_>2)) (.k (.inl false)) (.h (l,(IntKind.i64.wrap (i+1)),()) ())) .d)) .d) (.k (.inr l))
def zl5 (x:ttTref29Columns0) (y:Unit):Wy ttTref29Columns0 (Unit) ttTref29Columns1:=zqf x.1 x.2.1
def zwf (n:Nat) (l:List Column) (i:Int):Bool×ttTref29Columns1:=zN (zl5) (.inl default) n (l,i,()) ()
def zu0 (r:ttTref29Columns1):LTree ty:=.ite (isL r) (.done .ret [.lit (.bool (getL r))] []) (.done (.exit 0) [.sl 67 (getR r)] [])
def zwa:LL ty ttTref29Columns0:=za (lSl 67) (za (lInt .i64) zG)
def zwm:BL ty (Unit):=bNil
def zwx:Cx ty:=mkCx base 27 [] [] [(2,[(0,.keep),(3,.keep)])] [(2,1,[(0,.keep)]),(2,0,[(2,.keep)])] [(2,spW zwa zwm (zl5) (.inl default) zu0 fun x y=>(x.1.length+Int.toNat x.2.1+1))] []
theorem zCr:zS zwx (lp (body Tryz.f38) 0):=zL (id:=2) (V:=zwa) (B:=zwm) (W:=zl5) (z:=.inl default) (tr:=zu0) (m:=fun x y=>(x.1.length+Int.toNat x.2.1+1))
def zr9 (l:List Column):Wy0 (Bool):=.bn (zwf (l.length+Int.toNat 0+1) l 0) fun r0=>.i (isL r0) (.k (getL r0)) (.k (decide (Int.ofNat (getR r0).length≤16)))
def zmI (l:List Column):Bool×Bool:=(zr9 l).fin default
def zuL (r:Bool):ARes ty:=⟨[.pure (.lit (.bool r))],[]⟩
def zxK:AL base (List Column×Unit):=zf (zg (vSl 67)) aNil
def ztE:Ab.Spec ty:=zm zxK fun x=>((zmI x.1).1,zuL (zmI x.1).2)
theorem zA6:Sound Tryz.prog base 38 ztE:=
 zu (cx':=zwx) zH zn zD (zx trivial) Tryz.call38 Tryz.func38 (c:=body Tryz.f38) (by kernel_rfl) (zh (l:=[lp (body Tryz.f38) 0]) (by kernel_rfl) ⟨zCr,trivial⟩) (sg:=⟨[.pure],[]⟩) (A:=zxK) (res:=zuL) (W:=fun x=>zr9 x.1) (z:=default)
def zEJ:Cx ty:=mkCx base 36 [] [] [] [] [] []
def zui (v:Value):Wy0 (Bool):=.i (v.Kind==0) (.k (v.Text.toList==(ByteArray.mk #[]).toList)) (.i (v.Kind==1) (.i (v.Int==0) (.k (decide (Int.ofNat v.Text.size≤255))) (.k false)) (.i (v.Kind==2) (.i (v.Text.toList==(ByteArray.mk #[]).toList) (.i (v.Int==0) (.k true) (.k (v.Int==1))) (.k false)) (.k false)))
def zpC (v:Value):Bool×Bool:=(zui v).fin default
def zxl (r:Bool):ARes ty:=⟨[.pure (.lit (.bool r))],[]⟩
def zAl:AL base (Value×Unit):=zf (zg (vAgg 40)) aNil
def zvD:Ab.Spec ty:=zm zAl fun x=>((zpC x.1).1,zxl (zpC x.1).2)
theorem zCv:Sound Tryz.prog base 80 zvD:=
 zu (cx':=zEJ) zH zn zD (zx trivial) Tryz.call80 Tryz.func80 (c:=body Tryz.f80) (by kernel_rfl) (zh (l:=[]) (by kernel_rfl) trivial) (sg:=⟨[.pure],[]⟩) (A:=zAl) (res:=zxl) (W:=fun x=>zui x.1) (z:=default)
abbrev ttTref29Fits0:=List Column×List Value×Int×Unit
def zmr (l:List Column) (row:List Value) (i:Int):Wy ttTref29Fits0 (Unit) (Bool⊕Unit):=.i (decide (i<Int.ofNat l.length)) (.i (decide (0≤i)&&decide (i<Int.ofNat row.length)) (.bn (zpC (row.getD i.toNat default)) fun r0=>.i (!r0) (.k (.inl false)) (.i (decide (0≤i)&&decide (i<Int.ofNat row.length)) (.i (decide (0≤i)&&decide (i<Int.ofNat l.length)) (.i ((row.getD i.toNat default).Kind != (l.getD i.toNat default).Type_) (.k (.inl false)) (.h (l,row,(IntKind.i64.wrap (i+1)),()) ())) .d) .d)) .d) (.k (.inr ()))
def zp4 (x:ttTref29Fits0) (y:Unit):Wy ttTref29Fits0 (Unit) (Bool⊕Unit):=zmr x.1 x.2.1 x.2.2.1
def zAI (n:Nat) (l:List Column) (row:List Value) (i:Int):Bool×(Bool⊕Unit):=zN (zp4) (.inl default) n (l,row,i,()) ()
def zyR (r:Bool⊕Unit):LTree ty:=.ite (isL r) (.done .ret [.lit (.bool (getL r))] []) (.done (.exit 0) [] [])
def zAE:LL ty ttTref29Fits0:=za (lSl 67) (za (lSl 40) (za (lInt .i64) zG))
def zAO:BL ty (Unit):=bNil
def zyG (x:ttTref29Fits0) (y:Unit):Nat:=(x.1.length+x.2.1.length+Int.toNat x.2.2.1+1)
def zAv:Cx ty:=mkCx base 36 [(80,zvD)] [] [(4,[(0,.keep),(1,.keep),(5,.keep)])] [(4,1,[]),(4,0,[(4,.keep)])] [(4,spW zAE zAO (zp4) (.inl default) zyR zyG)] []
theorem zEW:zS zAv (lp (body Tryz.f39) 0):=zL (id:=4) (V:=zAE) (B:=zAO) (W:=zp4) (z:=.inl default) (tr:=zyR) (m:=zyG)
def zwJ (l:List Column) (row:List Value):Wy0 (Bool):=.i (Int.ofNat l.length != Int.ofNat row.length) (.k false) (.bn (zAI (l.length+row.length+Int.toNat 0+1) l row 0) fun r2=>.i (isL r2) (.k (getL r2)) (.k true))
def zr0 (l:List Column) (row:List Value):Bool×Bool:=(zwJ l row).fin default
def zyD (r:Bool):ARes ty:=⟨[.pure (.lit (.bool r))],[]⟩
def zCd:AL base (List Column×List Value×Unit):=zf (zg (vSl 67)) (zf (zg (vSl 40)) aNil)
def zxv:Ab.Spec ty:=zm zCd fun x=>((zr0 x.1 x.2.1).1,zyD (zr0 x.1 x.2.1).2)
theorem zDq:Sound Tryz.prog base 39 zxv:=
 zu (cx':=zAv) zH zn zD (zx ⟨zCv,trivial⟩) Tryz.call39 Tryz.func39 (c:=body Tryz.f39) (by kernel_rfl) (zh (l:=[lp (body Tryz.f39) 0]) (by kernel_rfl) ⟨zEW,trivial⟩) (sg:=⟨[.pure],[]⟩) (A:=zCd) (res:=zyD) (W:=fun x=>zwJ x.1 x.2.1) (z:=default)
end Go.Proofs.YtddkaehkimnklaaGreatDoor
end
