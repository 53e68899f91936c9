/- Texts of this claim, joined (the program, its functions in plain words, and what they compute). -/
import Derived.WalkKit
import Derived.WalkSpells
import Derived.Test.YtddkaehkimnklaaGreatDoorGC1
import Derived.Test.YtddkaehkimnklaaGreatDoorGA3
import Derived.Test.YtddkaehkimnklaaGreatDoorGC3
import Derived.Test.YtddkaehkimnklaaGreatDoorGB1
import Derived.Test.YtddkaehkimnklaaGreatDoorGC2
set_option autoImplicit false
set_option linter.unusedVariables false
set_option linter.unusedSectionVars false
set_option linter.unusedSimpArgs false
set_option maxRecDepth 1000000
set_option maxHeartbeats 0
noncomputable section
namespace Go.Proofs.YtddkaehkimnklaaGreatDoor
open Go Go.Ab
abbrev ttTslicesIndexFuncLapiRowapiRowno0:=List Row×Unit×Int×Int×Unit
def zmI (s:List Row) (t7:Int) (t8:Int):Wy ttTslicesIndexFuncLapiRowapiRowno0 (Unit) (Int⊕Unit):=.i (decide (t8<t7)) (.i (decide (0≤t8)&&decide (t8<Int.ofNat s.length)) (.i ((zil (s.getD t8.toNat default)).2) (.k (.inl t8)) (.h (s,(),t7,(IntKind.i64.wrap (t8+1)),()) ())) .d) (.k (.inr ()))
def zd9 (x:ttTslicesIndexFuncLapiRowapiRowno0) (y:Unit):Wy ttTslicesIndexFuncLapiRowapiRowno0 (Unit) (Int⊕Unit):=zmI x.1 x.2.2.1 x.2.2.2.1
def zmz (n:Nat) (s:List Row) (t7:Int) (t8:Int):Bool×(Int⊕Unit):=zM (zd9) (.inl default) n (s,(),t7,t8,()) ()
def zhl (r:Int⊕Unit):LTree ty:=.ite (isL r) (.done .ret [.lit (.int .i64 (getL r))] []) (.done (.exit 0) [] [])
def zhs:LL ty ttTslicesIndexFuncLapiRowapiRowno0:=za (lSl 38) (za (lFn 72 (zD)) (za (lInt .i64) (za (lInt .i64) zD)))
def zhv:BL ty (Unit):=bNil
def zha (x:ttTslicesIndexFuncLapiRowapiRowno0) (y:Unit):Nat:=(x.1.length+Int.toNat x.2.2.1+Int.toNat x.2.2.2.1+1000)
def zhr:Cx ty:=mkCx base 19 [(72,zgA)] [] [(2,[(0,.keep),(1,.keep),(7,.keep),(8,.keep)])] [(2,1,[]),(2,0,[(4,.keep)])] [(2,spW zhs zhv (zd9) (.inl default) zhl zha)] []
theorem zl2:zU zhr (lp (body Tryz.f112) 0):=zL (id:=2) (V:=zhs) (B:=zhv) (W:=zd9) (z:=.inl default) (tr:=zhl) (m:=zha)
def zhL (s:List Row):Wy0 (Int):=.bn (zmz (s.length+(Int.ofNat s.length).toNat +Int.toNat 0+1000) s (Int.ofNat s.length) 0) fun r0=>.i (isL r0) (.k (getL r0)) (.k (-1:Int))
def zfa (s:List Row):Bool×Int:=(zhL s).fin default
def zhi (r:Int):ARes ty:=⟨[.pure (.lit (.int .i64 r))],[]⟩
def zhK:AL base (List Row×Unit×Unit):=zf (zg (vSl 38)) (zf (zg (vFn 72 vNil)) aNil)
def zg6:Ab.Spec ty:=zn zhK fun x=>((zfa x.1).1,zhi (zfa x.1).2)
theorem zkU:Sound Tryz.prog base 112 zg6:=
 zx (cx':=zhr) zH zo zF (zA ⟨zia,trivial⟩) Tryz.call112 Tryz.func112 (c:=body Tryz.f112) (by kernel_rfl) (zi (l:=[lp (body Tryz.f112) 0]) (by kernel_rfl) ⟨zl2,trivial⟩) (sg:=⟨[.pure],[]⟩) (A:=zhK) (res:=zhi) (W:=fun x=>zhL x.1) (z:=default)
abbrev ttTslicesDeleteFuncLapiRowapiRow0:=Unit×Unit×Int×Int×Unit
abbrev ttTslicesDeleteFuncLapiRowapiRow1:=List Row×Unit
abbrev ttTslicesDeleteFuncLapiRowapiRow2:=Int×List Row
def znX (i:Int) (j:Int) (s:List Row):Wy ttTslicesDeleteFuncLapiRowapiRow0 ttTslicesDeleteFuncLapiRowapiRow1 ttTslicesDeleteFuncLapiRowapiRow2:=.i (decide (j<Int.ofNat s.length)) (.i (decide (0≤j)&&decide (j<Int.ofNat s.length)) (.i (!(zil (s.getD j.toNat default)).2) (.i (decide (0≤i)&&decide (i<Int.ofNat s.length)) (.i (decide (i.toNat<s.length)) (.h ((),(),(IntKind.i64.wrap (i+1)),(IntKind.i64.wrap (j+1)),()) ((s.set i.toNat (s.getD j.toNat default)),())) .d) .d) (.h ((),(),i,(IntKind.i64.wrap (j+1)),()) (s,()))) .d) (.k (i,s))
def zeU (x:ttTslicesDeleteFuncLapiRowapiRow0) (y:ttTslicesDeleteFuncLapiRowapiRow1):Wy ttTslicesDeleteFuncLapiRowapiRow0 ttTslicesDeleteFuncLapiRowapiRow1 ttTslicesDeleteFuncLapiRowapiRow2:=znX x.2.2.1 x.2.2.2.1 y.1
def znW (n:Nat) (i:Int) (j:Int) (s:List Row):Bool×ttTslicesDeleteFuncLapiRowapiRow2:=zM (zeU) default n ((),(),i,j,()) (s,())
def zhJ (r:ttTslicesDeleteFuncLapiRowapiRow2):LTree ty:=.done (.exit 0) [.own 168,.lit (.int .i64 r.1)] [.arr 38 r.2 false]
def zhX:LL ty ttTslicesDeleteFuncLapiRowapiRow0:=za (lOwn 168) (za (lFn 72 (zD)) (za (lInt .i64) (za (lInt .i64) zD)))
def zhV:BL ty ttTslicesDeleteFuncLapiRowapiRow1:=bArr 38 false (bNil)
def zhO (x:ttTslicesDeleteFuncLapiRowapiRow0) (y:ttTslicesDeleteFuncLapiRowapiRow1):Nat:=(Int.toNat x.2.2.1+Int.toNat x.2.2.2.1+y.1.length+1000)
def zhW:Cx ty:=mkCx base 42 [(72,zgA),(112,zg6)] [] [(5,[(0,.keep),(1,.keep),(5,.keep),(6,.keep)])] [(5,1,[(0,.keep),(5,.keep)])] [(5,spW zhX zhV (zeU) default zhJ zhO)] []
theorem zm0:zU zhW (lp (body Tryz.f70) 0):=zL (id:=5) (V:=zhX) (B:=zhV) (W:=zeU) (z:=default) (tr:=zhJ) (m:=zhO)
def zig (s:List Row):Wy0 (List Row):=.bn (zfa s) fun r1=>.i (r1==(-1:Int)) (.k s) (.bn (znW (r1.toNat +(IntKind.i64.wrap (r1+1)).toNat +s.length+1000) r1 (IntKind.i64.wrap (r1+1)) s) fun r0=>.i (decide (0≤r0.1)&&decide (r0.1≤Int.ofNat r0.2.length)&&decide (Int.ofNat r0.2.length≤Int.ofNat r0.2.length)) (.i (decide (r0.1.toNat +((Int.ofNat r0.2.length).toNat - r0.1.toNat)≤r0.2.length)) (.i (decide ((0:Int)≤(0:Int))&&decide (0≤r0.1)&&decide (r0.1≤Int.ofNat (List.take r0.1.toNat r0.2++List.replicate ((Int.ofNat r0.2.length).toNat - r0.1.toNat) (Row.mk [] [])++List.drop (r0.1.toNat +((Int.ofNat r0.2.length).toNat - r0.1.toNat)) r0.2).length)) (.k (List.take (r0.1.toNat - Int.toNat 0) (List.take r0.1.toNat r0.2++List.replicate ((Int.ofNat r0.2.length).toNat - r0.1.toNat) (Row.mk [] [])++List.drop (r0.1.toNat +((Int.ofNat r0.2.length).toNat - r0.1.toNat)) r0.2))) .d) .d) .d)
def zcq (s:List Row):Bool×List Row:=(zig s).fin default
def zhN (r:List Row):ARes ty:=⟨[.own 38 r],[none]⟩
def zh8:AL base (List Row×Unit×Unit):=zf (aOwn 38) (zf (zg (vFn 72 vNil)) aNil)
def zhu:Ab.Spec ty:=zn zh8 fun x=>((zcq x.1).1,zhN (zcq x.1).2)
theorem zl5:Sound Tryz.prog base 70 zhu:=
 zx (cx':=zhW) zH zo zF (zA ⟨zia,zkU,trivial⟩) Tryz.call70 Tryz.func70 (c:=body Tryz.f70) (by kernel_rfl) (zi (l:=[lp (body Tryz.f70) 0]) (by kernel_rfl) ⟨zm0,trivial⟩) (sg:=⟨[.own 38],[false]⟩) (A:=zh8) (res:=zhN) (W:=fun x=>zig x.1) (z:=default)
def zfJ (x:List Row) (a b:Int):Bool×List Row:=zDK zbw x a b
def slices_insertionSortCmpFunc_api_Row_spec:Ab.Spec ty:=zn (cx:=base) (zf (aOwn 38) (zf (zg (vInt .i64)) (zf (zg (vInt .i64)) (zf (zg (vFn 74 vNil)) aNil)))) fun x=>((zfJ x.1 x.2.1 x.2.2.1).1,⟨[],[some ⟨38,(zfJ x.1 x.2.1 x.2.2.1).2⟩]⟩)
theorem zmL (c:Unit) (x y:Row) (h:(zbw x y).1=true):zk5 ((AV.agg (base.enc 38 x)::AV.agg (base.enc 38 y)::(vNil:VL base Unit).enc c).map Arg.pure)=some (true,⟨[.pure (.lit (.int .i64 (zbw x y).2))],[]⟩):=by
 rw [← h]; kernel_rfl
theorem zls:Sound Tryz.prog base 159 slices_insertionSortCmpFunc_api_Row_spec:=by
 letI:DecidableEq (ty 38):=inferInstanceAs (DecidableEq Row)
 exact zHa (T:=38) zo rfl Go.Proofs.Tryz.insR Tryz.isAgg38 (by unfold szOf; exact Tryz.sizeOf38) Tryz.call159 zp4 vNil (fun c=>zbw) zmL
open Go.Proofs Go.RowKit
def zbX (x:List Row) (m:Int):Bool×List Row:=(decide (SortOK zbw x)&&(decide (m=x.length)&&decide (m<20)),zi1 zbw x)
def zjo:Ab.Spec ty:=zn (cx:=base) (zf (aOwn 38) (zf (zg (vInt .i64)) (zf (zg (vFn 74 vNil)) aNil))) fun x=>((zbX x.1 x.2.1).1,⟨[],[some ⟨38,(zbX x.1 x.2.1).2⟩]⟩)
set_option maxHeartbeats 1000000 in
theorem zps:Sound Tryz.prog base 113 zjo where
 enters:=Tryz.call113
 calls:=fun avs r hsp w F vs hF ha hsep=>by
  unfold zjo zn at hsp
  split at hsp
  ·rename_i x hx
   simp only [Option.some.injEq,Prod.mk.injEq] at hsp
   obtain ⟨hpre,rfl⟩:=hsp
   have hk:=(zf (aOwn 38) (zf (zg (vInt .i64)) (zf (zg (vFn 74 vNil)) aNil)):AL base _).kind vs avs x hx
   have ha':=(zf (aOwn 38) (zf (zg (vInt .i64)) (zf (zg (vFn 74 vNil)) aNil)):AL base _).ok Tryz.prog zo F w vs avs x hx ha
   rw [hk] at hsep ⊢
   clear hk hx ha
   obtain ⟨l0,m,c,u0⟩:=x
   obtain ⟨l,rfl⟩:∃ l:List Row,l=l0:=⟨l0,rfl⟩
   obtain ⟨v,vs',rfl,hv,hv'⟩:=ha'.inv
   obtain ⟨mv,vs1,rfl,hm,hv1⟩:=hv'.inv
   obtain ⟨fv,vs'',rfl,hfv,h0⟩:=hv1.inv
   obtain rfl:=h0.nil_left.1
   have hm:Rep base F w mv (.lit (.int .i64 m)):=hm
   obtain rfl:mv=.int .i64 m:=by cases hm; rfl
   have hsl:∃ p cap,v=.slice p l.length cap:=by
    obtain ⟨⟨xs,hown,_⟩,_⟩:=(show zb1 base F w v 38 l∧∀ b,zN v=some b→¬ F b from hv)
    rcases hown.2 with ⟨h1,h2⟩ | ⟨g0,cap,cur,h1,_⟩
    ·exact ⟨none,0,by rw [h1,show l.length=0 from h2]⟩
    ·exact ⟨_,cap,h1⟩
   have hpre:(decide (SortOK (α:=Row) zbw l)&&(decide (m=l.length)&&decide (m<20)))=true:=hpre
   simp only [Bool.and_eq_true,decide_eq_true_eq] at hpre
   obtain ⟨hok,rfl,h20⟩:=hpre
   have hpp:(zfJ l 0 (l.length:Int)).1=true:=by
    show (decide (SortOK (α:=Row) zbw l)&&(decide ((0:Int)=0)&&decide ((l.length:Int)=l.length)))=true
    simp only [Bool.and_eq_true,decide_eq_true_eq]
    exact ⟨hok,trivial,trivial⟩
   have hp:=(zls).calls [.own 38 l,.pure (.lit (.int .i64 0)),.pure (.lit (.int .i64 (l.length:Int))),.pure (.fn 74 [])] ⟨[],[some ⟨38,(zbX l (l.length:Int)).2⟩]⟩
    (by rw [← hpp]; kernel_rfl) w F [v,.int .i64 0,.int .i64 (l.length:Int),fv] hF (.cons hv (.cons (Rep.lit _) (.cons (Rep.lit _) (.cons hfv .nil)))) hsep
   replace hp:Calls Tryz.prog 159 #[v,.int .i64 0,.int .i64 (l.length:Int),fv] w fun e w'=>∃ u,e=.returned u∧Post base F w [v] ⟨[],[some ⟨38,(zbX l (l.length:Int)).2⟩]⟩ u w':=hp
   show Calls Tryz.prog 113 #[v,.int .i64 (l.length:Int),fv] w fun e w'=>∃ u,e=.returned u∧Post base F w [v] ⟨[],[some ⟨38,(zbX l (l.length:Int)).2⟩]⟩ u w'
   generalize (zbX l (l.length:Int)).2=res at hp ⊢
   generalize hn:l.length=m at *
   clear hpp hv hfv hsep hok hF hm
   obtain ⟨p,cap,rfl⟩:=hsl
   clear hn
   go_enter Tryz.func113,Tryz.ntmps113
   go_wp2
   refine wp_loop_rounds 1 ?_
   rw [rounds_succ]
   go_wp2_with (go_at_call 159; refine hp.mono ?_; rintro e w' ⟨u,rfl,hpost⟩; obtain rfl:=hpost.unit)
   refine wp_loop_rounds 1 ?_
   rw [rounds_succ]
   go_wp2
   all_goals first | (exfalso; omega) | (go_end0; exact ⟨_,rfl,hpost⟩)
  ·cases hsp
end Go.Proofs.YtddkaehkimnklaaGreatDoor
namespace Go.Proofs.YtddkaehkimnklaaGreatDoor
open Go Go.Ab
open Go.Proofs Go.RowKit
def zY (x:List Row):Bool×List Row:=(decide (SortOK zbw x)&&decide (x.length<20),zi1 zbw x)
def zdc:Ab.Spec ty:=zn (cx:=base) (zf (aOwn 38) (zf (zg (vFn 74 vNil)) aNil)) fun x=>((zY x.1).1,⟨[],[some ⟨38,(zY x.1).2⟩]⟩)
set_option maxHeartbeats 1000000 in
theorem zky:Sound Tryz.prog base 73 zdc where
 enters:=Tryz.call73
 calls:=fun avs r hsp w F vs hF ha hsep=>by
  unfold zdc zn at hsp
  split at hsp
  ·rename_i x hx
   simp only [Option.some.injEq,Prod.mk.injEq] at hsp
   obtain ⟨hpre,rfl⟩:=hsp
   have hk:=(zf (aOwn 38) (zf (zg (vFn 74 vNil)) aNil):AL base _).kind vs avs x hx
   have ha':=(zf (aOwn 38) (zf (zg (vFn 74 vNil)) aNil):AL base _).ok Tryz.prog zo F w vs avs x hx ha
   rw [hk] at hsep ⊢
   clear hk hx ha
   obtain ⟨l0,c,u0⟩:=x
   obtain ⟨l,rfl⟩:∃ l:List Row,l=l0:=⟨l0,rfl⟩
   obtain ⟨v,vs',rfl,hv,hv'⟩:=ha'.inv
   obtain ⟨fv,vs'',rfl,hfv,h0⟩:=hv'.inv
   obtain rfl:=h0.nil_left.1
   have hsl:∃ p cap,v=.slice p l.length cap:=by
    obtain ⟨⟨xs,hown,_⟩,_⟩:=(show zb1 base F w v 38 l∧∀ b,zN v=some b→¬ F b from hv)
    rcases hown.2 with ⟨h1,h2⟩ | ⟨g0,cap,cur,h1,_⟩
    ·exact ⟨none,0,by rw [h1,show l.length=0 from h2]⟩
    ·exact ⟨_,cap,h1⟩
   have hpre:(decide (SortOK (α:=Row) zbw l)&&decide (l.length<20))=true:=hpre
   simp only [Bool.and_eq_true,decide_eq_true_eq] at hpre
   obtain ⟨hok,h20⟩:=hpre
   have hpp:(zbX l (l.length:Int)).1=true:=by
    show (decide (SortOK (α:=Row) zbw l)&&(decide ((l.length:Int)=l.length)&&decide ((l.length:Int)<20)))=true
    simp only [Bool.and_eq_true,decide_eq_true_eq]
    exact ⟨hok,trivial,by omega⟩
   have hp:=(zps).calls [.own 38 l,.pure (.lit (.int .i64 (l.length:Int))),.pure (.fn 74 [])] ⟨[],[some ⟨38,(zY l).2⟩]⟩
    (by rw [← hpp]; kernel_rfl) w F [v,.int .i64 (l.length:Int),fv] hF (.cons hv (.cons (Rep.lit _) (.cons hfv .nil))) hsep
   replace hp:Calls Tryz.prog 113 #[v,.int .i64 (l.length:Int),fv] w fun e w'=>∃ u,e=.returned u∧Post base F w [v] ⟨[],[some ⟨38,(zY l).2⟩]⟩ u w':=hp
   show Calls Tryz.prog 73 #[v,fv] w fun e w'=>∃ u,e=.returned u∧Post base F w [v] ⟨[],[some ⟨38,(zY l).2⟩]⟩ u w'
   generalize (zY l).2=res at hp ⊢
   generalize hn:l.length=m at *
   clear hpp hv hfv hsep hok hF
   obtain ⟨p,cap,rfl⟩:=hsl
   clear hn
   go_enter Tryz.func73,Tryz.ntmps73
   go_wp2_with (go_at_call 113; refine hp.mono ?_; rintro e w' ⟨u,rfl,hpost⟩; obtain rfl:=hpost.unit)
   go_end0
   exact ⟨_,rfl,hpost⟩
  ·cases hsp
end Go.Proofs.YtddkaehkimnklaaGreatDoor
namespace Go.Proofs.YtddkaehkimnklaaGreatDoor
open Go Go.Ab
abbrev ttTrelationNormalize0:=Unit×Unit×List Row×Int×Int×Unit
abbrev ttTrelationNormalize1:=Relation×(Unit×Unit×Unit)×Unit
abbrev ttTrelationNormalize2:=Int⊕Relation
abbrev ttTrelationNormalize3:=Unit×Unit×Unit×Int×Int×Unit
abbrev ttTrelationNormalize4:=(Unit×Unit×Unit)×(Unit×Unit×Unit)×List Row×List Column×List Row×Unit
abbrev ttTrelationNormalize5:=List Column×List Row
def zld (t19:List Row) (t20:Int) (t21:Int) (r:Relation):Wy ttTrelationNormalize0 ttTrelationNormalize1 ttTrelationNormalize2:=.i (decide (t21<t20)) (.i (decide (0≤t21)&&decide (t21<Int.ofNat t19.length)) (.bn (zj9 r.Columns (t19.getD t21.toNat default).Values) fun r5=>.i (!r5) (.k (.inl 7)) (.bn (zmd (t19.getD t21.toNat default).Ann) fun r4=>.i (!r4) (.k (.inl 1)) (.h ((),(),t19,t20,(IntKind.i64.wrap (t21+1)),()) (r,((),(),()),())))) .d) (.k (.inr r))
def zgQ (x:ttTrelationNormalize0) (y:ttTrelationNormalize1):Wy ttTrelationNormalize0 ttTrelationNormalize1 ttTrelationNormalize2:=zld x.2.2.1 x.2.2.2.1 x.2.2.2.2.1 y.1
def zlg (n:Nat) (t19:List Row) (t20:Int) (t21:Int) (r:Relation):Bool×ttTrelationNormalize2:=zM (zgQ) (.inl default) n ((),(),t19,t20,t21,()) (r,((),(),()),())
def zpL (r:ttTrelationNormalize2):LTree ty:=.ite (isL r) (.done .ret [.ptr 440 0,.lit (.int .i64 (getL r))] [.box ([.lit (.slice none 0 0),.lit (.slice none 0 0)]) false]) (.done (.exit 0) [.ptr 440 0,.ptr 441 0] [.box (base.enc 73 (getR r)) false,.box ([.lit (.slice none 0 0),.lit (.slice none 0 0)]) false])
def zqv:LL ty ttTrelationNormalize0:=za (zb2 440 0) (za (zb2 441 0) (za (lSl 38) (za (lInt .i64) (za (lInt .i64) zD))))
def zqC:BL ty ttTrelationNormalize1:=bBox (zdo (fun x=>(⟨x.1,x.2.1⟩:Relation)) (fun x=>(x.Columns,x.Rows,())) (fun _=>rfl) (za (lSl 67) (za (lSl 38) zD))) false (bBox (za lNil (za lNil zD)) false (bNil))
def zxt (t49:Int) (t50:Int) (t48:List Row) (b3:List Column) (b4:List Row):Wy ttTrelationNormalize3 ttTrelationNormalize4 ttTrelationNormalize5:=.i (decide (t50<t49)) (.i (decide (0≤t50)&&decide (t50<Int.ofNat t48.length)) (.i (Int.ofNat b4.length==0) (.bn (znQ (t48.getD t50.toNat default) (t48.getD t50.toNat default).Ann) fun r8=>.i (decide ((b4.length+[r8].length)*48≤reach)) (.h ((),(),(),t49,(IntKind.i64.wrap (t50+1)),()) (((),(),()),((),(),()),t48,b3,(b4++[r8]),())) .d) (.i (decide (0≤IntKind.i64.wrap (Int.ofNat b4.length - 1))&&decide (IntKind.i64.wrap (Int.ofNat b4.length - 1)<Int.ofNat b4.length)) (.bn (zbw (b4.getD (IntKind.i64.wrap (Int.ofNat b4.length - 1)).toNat default) (t48.getD t50.toNat default)) fun r11=>.i (r11 != 0) (.bn (znQ (t48.getD t50.toNat default) (t48.getD t50.toNat default).Ann) fun r9=>.i (decide ((b4.length+[r9].length)*48≤reach)) (.h ((),(),(),t49,(IntKind.i64.wrap (t50+1)),()) (((),(),()),((),(),()),t48,b3,(b4++[r9]),())) .d) (.i (decide (0≤IntKind.i64.wrap (Int.ofNat b4.length - 1))&&decide (IntKind.i64.wrap (Int.ofNat b4.length - 1)<Int.ofNat b4.length)) (.bn (zxY (b4.getD (IntKind.i64.wrap (Int.ofNat b4.length - 1)).toNat default).Ann (t48.getD t50.toNat default).Ann) fun r10=>.i (decide (0≤IntKind.i64.wrap (Int.ofNat b4.length - 1))&&decide (IntKind.i64.wrap (Int.ofNat b4.length - 1)<Int.ofNat b4.length)) (.i (decide ((IntKind.i64.wrap (Int.ofNat b4.length - 1)).toNat<b4.length)) (.h ((),(),(),t49,(IntKind.i64.wrap (t50+1)),()) (((),(),()),((),(),()),t48,b3,(b4.set (IntKind.i64.wrap (Int.ofNat b4.length - 1)).toNat (Row.mk (b4.getD (IntKind.i64.wrap (Int.ofNat b4.length - 1)).toNat default).Values r10.1)),())) .d) .d) .d)) .d)) .d) (.k (b3,b4))
def zkv (x:ttTrelationNormalize3) (y:ttTrelationNormalize4):Wy ttTrelationNormalize3 ttTrelationNormalize4 ttTrelationNormalize5:=zxt x.2.2.2.1 x.2.2.2.2.1 y.2.2.1 y.2.2.2.1 y.2.2.2.2.1
def zpI (n:Nat) (t49:Int) (t50:Int) (t48:List Row) (b3:List Column) (b4:List Row):Bool×ttTrelationNormalize5:=zM (zkv) default n ((),(),(),t49,t50,()) (((),(),()),((),(),()),t48,b3,b4,())
def zo6 (r:ttTrelationNormalize5):LTree ty:=.done (.exit 2) [.ptr 440 0,.ptr 441 0] [.box ([.lit (.slice none 0 0),.lit (.slice none 0 0)]) false,.box ([.own 442,.own 443]) false,.arr 67 r.1 false,.arr 38 r.2 false]
def zpT:LL ty ttTrelationNormalize3:=za (zb2 440 0) (za (zb2 441 0) (za (lOwn 442) (za (lInt .i64) (za (lInt .i64) zD))))
def zqg:BL ty ttTrelationNormalize4:=bBox (za lNil (za lNil zD)) false (bBox (za (lOwn 443) (za (lOwn 444) zD)) false (bArr 38 false (bArr 67 false (bArr 38 false (bNil)))))
def zpW (x:ttTrelationNormalize0) (y:ttTrelationNormalize1):Nat:=(x.2.2.1.length+Int.toNat x.2.2.2.1+Int.toNat x.2.2.2.2.1+y.1.Columns.length+y.1.Rows.length+1000)
def zph (x:ttTrelationNormalize3) (y:ttTrelationNormalize4):Nat:=(Int.toNat x.2.2.2.1+Int.toNat x.2.2.2.2.1+y.2.2.1.length+y.2.2.2.1.length+y.2.2.2.2.1.length+1000)
def zlh:Cx ty:=mkCx base 110 [(67,zmC),(68,ztu),(69,annotation_Valid_spec),(70,zhu),(71,ziS),(72,zgA),(73,zdc),(74,zk5),(75,zhd),(76,zrZ),(77,annotation_Add_spec)] [(70,[true,false]),(73,[true,false])] [(4,[(1,.keep),(2,.keep),(19,.keep),(20,.keep),(21,.keep)]),(15,[(2,.keep),(7,.boxOwn [(1,38)]),(48,.keep),(49,.keep),(50,.keep)])] [(4,1,[(1,.keep),(2,.keep)]),(4,0,[(2,.keep),(3,.keep)]),(15,3,[(2,.keep),(7,.keep)]),(15,0,[(2,.keep),(3,.keep)])] [(4,spW zqv zqC (zgQ) (.inl default) zpL zpW),(15,spW zpT zqg (zkv) default zo6 zph)] []
theorem zxr:zU zlh (lp (body Tryz.f35) 0):=zL (id:=4) (V:=zqv) (B:=zqC) (W:=zgQ) (z:=.inl default) (tr:=zpL) (m:=zpW)
theorem zwC:zU zlh (lp (body Tryz.f35) 1):=zL (id:=15) (V:=zpT) (B:=zqg) (W:=zkv) (z:=default) (tr:=zo6) (m:=zph)
def zi2 (r:Relation):Wy0 (Relation×Int):=.bn (zgO r.Columns) fun r22=>.i (!r22) (.k ((⟨[],[]⟩:Relation),1)) (.bn (zlg (r.Rows.length+(Int.ofNat r.Rows.length).toNat +Int.toNat 0+r.Columns.length+r.Rows.length+1000) r.Rows (Int.ofNat r.Rows.length) 0 r) fun r21=>.i (isL r21) (.k ((⟨[],[]⟩:Relation),getL r21)) (.bn (zbO (getR r21).Rows) fun r20=>.bn (zcq r20) fun r19=>.bn (zY r19) fun r18=>.bn (zck (getR r21).Columns) fun r17=>.bn (zpI ((Int.ofNat r18.length).toNat +Int.toNat 0+r18.length+r17.length+0+1000) (Int.ofNat r18.length) 0 r18 r17 []) fun r16=>.i (decide (Int.ofNat r16.2.length>1024)) (.k ((⟨[],[]⟩:Relation),6)) (.k ((⟨r16.1,r16.2⟩:Relation),0))))
def zdS (r:Relation):Bool×(Relation×Int):=(zi2 r).fin default
def zp5 (r:Relation×Int):ARes ty:=⟨[.pure (.agg (base.enc 73 r.1)),.pure (.lit (.int .i64 r.2))],[]⟩
def zrE:AL base (Relation×Unit):=zf (zg (vAgg 73)) aNil
def zo8:Ab.Spec ty:=zn zrE fun x=>((zdS x.1).1,zp5 (zdS x.1).2)
theorem zvE:Sound Tryz.prog base 35 zo8:=
 zx (cx':=zlh) zH zo zF (zA ⟨zt7,zAd,zxJ,zl5,zoR,zia,zky,zp4,zlr,zyA,zy0,trivial⟩) Tryz.call35 Tryz.func35 (c:=body Tryz.f35) (by kernel_rfl) (zi (l:=[lp (body Tryz.f35) 0,lp (body Tryz.f35) 1]) (by kernel_rfl) ⟨zxr,zwC,trivial⟩) (sg:=⟨[.pure,.pure],[]⟩) (A:=zrE) (res:=zp5) (W:=fun x=>zi2 x.1) (z:=default)
def zKx (k:Go.Value) (l:List (Go.Value×Int)):Option Int:=mget (ty:=ty) (V:=3) k l
def zKM (k:Go.Value) (l:List (Go.Value×Int)):Bool:=mhas (ty:=ty) (V:=3) k l
def zw0 (k:Go.Value) (x:Int) (l:List (Go.Value×Int)):List (Go.Value×Int):=mset (ty:=ty) (V:=3) k x l
def zEF (k:Go.Value) (x:Bool) (l:List (Go.Value×Bool)):List (Go.Value×Bool):=mset (ty:=ty) (V:=4) k x l
def zc1 (x:List Value):Bool×List Value:=zCl (fun a b=>zba a b) x
def slices_SortFunc_Lapi_Value_api_Value_spec:Ab.Spec ty:=zn (cx:=base) (zf (aOwn 40) (zf (zg (vFn 79 (vNil))) aNil)) fun x=>((zc1 x.1).1,⟨[],[some ⟨40,(zc1 x.1).2⟩]⟩)
theorem zmm (c:Unit) (x y:Value) (h:(zba x y).1=true):zb8 ((AV.agg (base.enc 40 x)::AV.agg (base.enc 40 y)::(vNil:VL base (Unit)).enc c).map Arg.pure)=some (true,⟨[.pure (.lit (.int .i64 (zba x y).2))],[]⟩):=by
 rw [← h]; kernel_rfl
theorem zlb:Sound Tryz.prog base 78 slices_SortFunc_Lapi_Value_api_Value_spec:=by
 letI:DecidableEq (ty 40):=inferInstanceAs (DecidableEq Value)
 exact zF1 (T:=40) zo rfl Go.Proofs.Tryz.sortVal Tryz.isAgg40 (by unfold szOf; exact Tryz.sizeOf40) Tryz.call78 zcl (vNil) (fun c=>fun a b=>zba a b) zmm
abbrev ttTstatisticscolumn0:=Unit×Unit×Int×Unit×Unit×Int×Int×Unit
abbrev ttTstatisticscolumn1:=List Value×(Int×Int×Int×ByteArray×Int×Int×ByteArray×Unit×Unit)×(List (_root_.Go.Value×Bool))×Unit
abbrev ttTstatisticscolumn2:=Int×List Value×Int×Int×Int×ByteArray×Int×Int×ByteArray×(List (_root_.Go.Value×Bool))
abbrev ttTstatisticscolumn3:=Unit×Unit×Int×Unit×Int×Unit
abbrev ttTstatisticscolumn4:=List Value×(Int×Int×Int×ByteArray×Int×Int×ByteArray×Unit×Unit)×(Int×Int×Int×ByteArray×Int×Int×ByteArray×Unit×Unit)×List Value×Unit
abbrev ttTstatisticscolumn5:=Int×Int×Int×ByteArray×Int×Int×ByteArray×Int×Int×Int×ByteArray×Int×Int×ByteArray×List Value
def zlZ (n_:Int) (t18:Int) (t19:Int) (l:List Value) (t2_0:Int) (t2_1:Int) (t2_2:Int) (t2_3:ByteArray) (t2_4:Int) (t2_5:Int) (t2_6:ByteArray) (seen:List (_root_.Go.Value×Bool)):Wy ttTstatisticscolumn0 ttTstatisticscolumn1 ttTstatisticscolumn2:=.i (decide (t19<t18)) (.i (decide (0≤t19)&&decide (t19<Int.ofNat l.length)) (.h ((),(),n_,(),(),t18,(IntKind.i64.wrap (t19+1)),()) (l,(t2_0,t2_1,t2_2,t2_3,t2_4,t2_5,t2_6,(),()),(zEF (Value.agg #[Value.int IntKind.i64 (l.getD t19.toNat default).Kind,Value.int IntKind.i64 (l.getD t19.toNat default).Int,Value.string (l.getD t19.toNat default).Text]) true seen),())) .d) (.k (n_,l,t2_0,t2_1,t2_2,t2_3,t2_4,t2_5,t2_6,seen))
def zi6 (x:ttTstatisticscolumn0) (y:ttTstatisticscolumn1):Wy ttTstatisticscolumn0 ttTstatisticscolumn1 ttTstatisticscolumn2:=zlZ x.2.2.1 x.2.2.2.2.2.1 x.2.2.2.2.2.2.1 y.1 y.2.1.1 y.2.1.2.1 y.2.1.2.2.1 y.2.1.2.2.2.1 y.2.1.2.2.2.2.1 y.2.1.2.2.2.2.2.1 y.2.1.2.2.2.2.2.2.1 y.2.2.1
def zmh (n:Nat) (n_:Int) (t18:Int) (t19:Int) (l:List Value) (t2_0:Int) (t2_1:Int) (t2_2:Int) (t2_3:ByteArray) (t2_4:Int) (t2_5:Int) (t2_6:ByteArray) (seen:List (_root_.Go.Value×Bool)):Bool×ttTstatisticscolumn2:=zM (zi6) default n ((),(),n_,(),(),t18,t19,()) (l,(t2_0,t2_1,t2_2,t2_3,t2_4,t2_5,t2_6,(),()),seen,())
def zqX (r:ttTstatisticscolumn2):LTree ty:=.done (.exit 0) [.own 224,.ptr 225 0,.lit (.int .i64 r.1),.mp 226] [.arr 40 r.2.1 false,.box ([.lit (.int .i64 r.2.2.1),.lit (.int .i64 r.2.2.2.1),.lit (.int .i64 r.2.2.2.2.1),.lit (.string r.2.2.2.2.2.1),.lit (.int .i64 r.2.2.2.2.2.2.1),.lit (.int .i64 r.2.2.2.2.2.2.2.1),.lit (.string r.2.2.2.2.2.2.2.2.1),.lit (.slice none 0 0)]) false,.mp 40 4 r.2.2.2.2.2.2.2.2.2 false]
def zrF:LL ty ttTstatisticscolumn0:=za (lOwn 224) (za (zb2 225 0) (za (lInt .i64) (za (lMp 226) (za (lOwn 224) (za (lInt .i64) (za (lInt .i64) zD))))))
def zrR:BL ty ttTstatisticscolumn1:=bArr 40 false (bBox (za (lInt .i64) (za (lInt .i64) (za (lInt .i64) (za lStr (za (lInt .i64) (za (lInt .i64) (za lStr (za lNil zD)))))))) false (bMp 40 4 false (bNil)))
def zkW (n_:Int) (i:Int) (l:List Value) (t2_0:Int) (t2_1:Int) (t2_2:Int) (t2_3:ByteArray) (t2_4:Int) (t2_5:Int) (t2_6:ByteArray) (c_0:Int) (c_1:Int) (c_2:Int) (c_3:ByteArray) (c_4:Int) (c_5:Int) (c_6:ByteArray) (b3:List Value):Wy ttTstatisticscolumn3 ttTstatisticscolumn4 ttTstatisticscolumn5:=.i (decide (i≤8)) (.i (decide (0≤IntKind.i64.wrap (IntKind.i64.wrap ((IntKind.i64.wrap (IntKind.i64.wrap (i*n_)+7)).tdiv 8) - 1))&&decide (IntKind.i64.wrap (IntKind.i64.wrap ((IntKind.i64.wrap (IntKind.i64.wrap (i*n_)+7)).tdiv 8) - 1)<Int.ofNat l.length)) (.i (decide ((b3.length+[l.getD (IntKind.i64.wrap (IntKind.i64.wrap ((IntKind.i64.wrap (IntKind.i64.wrap (i*n_)+7)).tdiv 8) - 1)).toNat default].length)*32≤reach)) (.h ((),(),n_,(),(IntKind.i64.wrap (i+1)),()) (l,(t2_0,t2_1,t2_2,t2_3,t2_4,t2_5,t2_6,(),()),(c_0,c_1,c_2,c_3,c_4,c_5,c_6,(),()),(b3++[l.getD (IntKind.i64.wrap (IntKind.i64.wrap ((IntKind.i64.wrap (IntKind.i64.wrap (i*n_)+7)).tdiv 8) - 1)).toNat default]),())) .d) .d) (.k (t2_0,t2_1,t2_2,t2_3,t2_4,t2_5,t2_6,c_0,c_1,c_2,c_3,c_4,c_5,c_6,b3))
def ziw (x:ttTstatisticscolumn3) (y:ttTstatisticscolumn4):Wy ttTstatisticscolumn3 ttTstatisticscolumn4 ttTstatisticscolumn5:=zkW x.2.2.1 x.2.2.2.2.1 y.1 y.2.1.1 y.2.1.2.1 y.2.1.2.2.1 y.2.1.2.2.2.1 y.2.1.2.2.2.2.1 y.2.1.2.2.2.2.2.1 y.2.1.2.2.2.2.2.2.1 y.2.2.1.1 y.2.2.1.2.1 y.2.2.1.2.2.1 y.2.2.1.2.2.2.1 y.2.2.1.2.2.2.2.1 y.2.2.1.2.2.2.2.2.1 y.2.2.1.2.2.2.2.2.2.1 y.2.2.2.1
def zlk (n:Nat) (n_:Int) (i:Int) (l:List Value) (t2_0:Int) (t2_1:Int) (t2_2:Int) (t2_3:ByteArray) (t2_4:Int) (t2_5:Int) (t2_6:ByteArray) (c_0:Int) (c_1:Int) (c_2:Int) (c_3:ByteArray) (c_4:Int) (c_5:Int) (c_6:ByteArray) (b3:List Value):Bool×ttTstatisticscolumn5:=zM (ziw) default n ((),(),n_,(),i,()) (l,(t2_0,t2_1,t2_2,t2_3,t2_4,t2_5,t2_6,(),()),(c_0,c_1,c_2,c_3,c_4,c_5,c_6,(),()),b3,())
def zp9 (r:ttTstatisticscolumn5):LTree ty:=.done (.exit 2) [.ptr 224 0,.ptr 225 0] [.box ([.lit (.int .i64 r.1),.lit (.int .i64 r.2.1),.lit (.int .i64 r.2.2.1),.lit (.string r.2.2.2.1),.lit (.int .i64 r.2.2.2.2.1),.lit (.int .i64 r.2.2.2.2.2.1),.lit (.string r.2.2.2.2.2.2.1),.lit (.slice none 0 0)]) false,.box ([.lit (.int .i64 r.2.2.2.2.2.2.2.1),.lit (.int .i64 r.2.2.2.2.2.2.2.2.1),.lit (.int .i64 r.2.2.2.2.2.2.2.2.2.1),.lit (.string r.2.2.2.2.2.2.2.2.2.2.1),.lit (.int .i64 r.2.2.2.2.2.2.2.2.2.2.2.1),.lit (.int .i64 r.2.2.2.2.2.2.2.2.2.2.2.2.1),.lit (.string r.2.2.2.2.2.2.2.2.2.2.2.2.2.1),.own 226]) false,.arr 40 r.2.2.2.2.2.2.2.2.2.2.2.2.2.2 false]
def zqJ:LL ty ttTstatisticscolumn3:=za (lOwn 224) (za (zb2 225 0) (za (lInt .i64) (za (zb2 226 0) (za (lInt .i64) zD))))
def zq8:BL ty ttTstatisticscolumn4:=bArr 40 false (bBox (za (lInt .i64) (za (lInt .i64) (za (lInt .i64) (za lStr (za (lInt .i64) (za (lInt .i64) (za lStr (za lNil zD)))))))) false (bBox (za (lInt .i64) (za (lInt .i64) (za (lInt .i64) (za lStr (za (lInt .i64) (za (lInt .i64) (za lStr (za (lOwn 227) zD)))))))) false (bArr 40 false (bNil))))
def zqy (x:ttTstatisticscolumn0) (y:ttTstatisticscolumn1):Nat:=(Int.toNat x.2.2.1+Int.toNat x.2.2.2.2.2.1+Int.toNat x.2.2.2.2.2.2.1+y.1.length+Int.toNat y.2.1.1+Int.toNat y.2.1.2.1+Int.toNat y.2.1.2.2.1+y.2.1.2.2.2.1.size+Int.toNat y.2.1.2.2.2.2.1+Int.toNat y.2.1.2.2.2.2.2.1+y.2.1.2.2.2.2.2.2.1.size+y.2.2.1.length+1000)
def zpH (x:ttTstatisticscolumn3) (y:ttTstatisticscolumn4):Nat:=(Int.toNat x.2.2.1+Int.toNat x.2.2.2.2.1+y.1.length+Int.toNat y.2.1.1+Int.toNat y.2.1.2.1+Int.toNat y.2.1.2.2.1+y.2.1.2.2.2.1.size+Int.toNat y.2.1.2.2.2.2.1+Int.toNat y.2.1.2.2.2.2.2.1+y.2.1.2.2.2.2.2.2.1.size+Int.toNat y.2.2.1.1+Int.toNat y.2.2.1.2.1+Int.toNat y.2.2.1.2.2.1+y.2.2.1.2.2.2.1.size+Int.toNat y.2.2.1.2.2.2.2.1+Int.toNat y.2.2.1.2.2.2.2.2.1+y.2.2.1.2.2.2.2.2.2.1.size+y.2.2.2.1.length+1000)
def zmc:Cx ty:=mkCx base 56 [(78,slices_SortFunc_Lapi_Value_api_Value_spec),(79,zb8)] [(78,[true,false])] [(7,[(0,.keep),(2,.keep),(3,.keep),(4,.keep),(17,.keep),(18,.keep),(19,.keep)]),(13,[(0,.keep),(2,.keep),(3,.keep),(7,.boxOwn [(7,40)]),(8,.keep)])] [(7,1,[(0,.keep),(2,.keep),(3,.keep),(4,.keep)]),(13,3,[(2,.keep),(7,.keep)])] [(7,spW zrF zrR (zi6) default zqX zqy),(13,spW zqJ zq8 (ziw) default zp9 zpH)] []
theorem zx3:zU zmc (lp (body Tryz.f36) 0):=zL (id:=7) (V:=zrF) (B:=zrR) (W:=zi6) (z:=default) (tr:=zqX) (m:=zqy)
theorem zxA:zU zmc (lp (body Tryz.f36) 1):=zL (id:=13) (V:=zqJ) (B:=zq8) (W:=ziw) (z:=default) (tr:=zp9) (m:=zpH)
def zm1 (l:List Value):Wy0 (ColumnStats):=.i (Int.ofNat l.length==0) (.k (⟨0,(⟨0,0,ByteArray.mk #[]⟩:Value),(⟨0,0,ByteArray.mk #[]⟩:Value),[]⟩:ColumnStats)) (.bn (zc1 l) fun r2=>.bn (zmh ((Int.ofNat l.length).toNat +(Int.ofNat r2.length).toNat +Int.toNat 0+r2.length+Int.toNat 0+Int.toNat 0+Int.toNat 0+(ByteArray.mk #[]).size+Int.toNat 0+Int.toNat 0+(ByteArray.mk #[]).size+0+1000) (Int.ofNat l.length) (Int.ofNat r2.length) 0 r2 0 0 0 (ByteArray.mk #[]) 0 0 (ByteArray.mk #[]) []) fun r1=>.i (decide ((0:Int)≤(0:Int))&&decide (0<Int.ofNat r1.2.1.length)) (.i (decide (0≤IntKind.i64.wrap (r1.1 - 1))&&decide (IntKind.i64.wrap (r1.1 - 1)<Int.ofNat r1.2.1.length)) (.bn (zlk (r1.1.toNat +Int.toNat 1+r1.2.1.length+r1.2.2.1.toNat +r1.2.2.2.1.toNat +r1.2.2.2.2.1.toNat +r1.2.2.2.2.2.1.size+r1.2.2.2.2.2.2.1.toNat +r1.2.2.2.2.2.2.2.1.toNat +r1.2.2.2.2.2.2.2.2.1.size+(Int.ofNat r1.2.2.2.2.2.2.2.2.2.length).toNat +(r1.2.1.getD (Int.toNat 0) default).Kind.toNat +(r1.2.1.getD (Int.toNat 0) default).Int.toNat +(r1.2.1.getD (Int.toNat 0) default).Text.size+(r1.2.1.getD (IntKind.i64.wrap (r1.1 - 1)).toNat default).Kind.toNat +(r1.2.1.getD (IntKind.i64.wrap (r1.1 - 1)).toNat default).Int.toNat +(r1.2.1.getD (IntKind.i64.wrap (r1.1 - 1)).toNat default).Text.size+0+1000) r1.1 1 r1.2.1 r1.2.2.1 r1.2.2.2.1 r1.2.2.2.2.1 r1.2.2.2.2.2.1 r1.2.2.2.2.2.2.1 r1.2.2.2.2.2.2.2.1 r1.2.2.2.2.2.2.2.2.1 (Int.ofNat r1.2.2.2.2.2.2.2.2.2.length) (r1.2.1.getD (Int.toNat 0) default).Kind (r1.2.1.getD (Int.toNat 0) default).Int (r1.2.1.getD (Int.toNat 0) default).Text (r1.2.1.getD (IntKind.i64.wrap (r1.1 - 1)).toNat default).Kind (r1.2.1.getD (IntKind.i64.wrap (r1.1 - 1)).toNat default).Int (r1.2.1.getD (IntKind.i64.wrap (r1.1 - 1)).toNat default).Text []) fun r0=>.k (⟨r0.2.2.2.2.2.2.2.1,(⟨r0.2.2.2.2.2.2.2.2.1,r0.2.2.2.2.2.2.2.2.2.1,r0.2.2.2.2.2.2.2.2.2.2.1⟩:Value),(⟨r0.2.2.2.2.2.2.2.2.2.2.2.1,r0.2.2.2.2.2.2.2.2.2.2.2.2.1,r0.2.2.2.2.2.2.2.2.2.2.2.2.2.1⟩:Value),r0.2.2.2.2.2.2.2.2.2.2.2.2.2.2⟩:ColumnStats)) .d) .d)
def ziL (l:List Value):Bool×ColumnStats:=(zm1 l).fin default
def zqQ (r:ColumnStats):ARes ty:=⟨[.pure (.agg (base.enc 43 r))],[none]⟩
def zsB:AL base (List Value×Unit):=zf (aOwn 40) aNil
def zpN:Ab.Spec ty:=zn zsB fun x=>((ziL x.1).1,zqQ (ziL x.1).2)
theorem zwp:Sound Tryz.prog base 36 zpN:=
 zx (cx':=zmc) zH zo zF (zA ⟨zlb,zcl,trivial⟩) Tryz.call36 Tryz.func36 (c:=body Tryz.f36) (by kernel_rfl) (zi (l:=[lp (body Tryz.f36) 0,lp (body Tryz.f36) 1]) (by kernel_rfl) ⟨zx3,zxA,trivial⟩) (sg:=⟨[.pure],[false]⟩) (A:=zsB) (res:=zqQ) (W:=fun x=>zm1 x.1) (z:=default)
abbrev ttTstatisticsGather0:=Unit×Unit×Unit×Int×Int×Unit
abbrev ttTstatisticsGather1:=Table×(Int×Int×Unit×Unit)×List Row×Unit
abbrev ttTstatisticsGather2:=(Int×Int)⊕(Table×Int×Int)
abbrev ttTstatisticsGather3:=Unit×Unit×Unit×Int×Unit×Int×Int×List Row×Int×Int×Unit
abbrev ttTstatisticsGather4:=Table×(Int×Int×Unit×Unit)×(Int×Int×Unit×Unit)×List Value×List ColumnStats×Unit
abbrev ttTstatisticsGather5:=Int×Int×Table×Int×Int×Int×Int×List Value×List ColumnStats
abbrev ttTstatisticsGather6:=Table×(Int×Int×Unit×Unit)×(Int×Int×Unit×Unit)×List ColumnStats×Unit
abbrev ttTstatisticsGather7:=Int×Int×Int×Int×List ColumnStats
def zhh (t23:Int) (t24:Int) (t:Table) (t2_0:Int) (t2_1:Int) (t22:List Row):Wy ttTstatisticsGather0 ttTstatisticsGather1 ttTstatisticsGather2:=.i (decide (t24<t23)) (.i (decide (0≤t24)&&decide (t24<Int.ofNat t22.length)) (.bn (zdS (Relation.mk t.Columns [Row.mk (t22.getD t24.toNat default).Values []])) fun r4=>.i (r4.2 != 0) (.k (.inl (0,0))) (.h ((),(),(),t23,(IntKind.i64.wrap (t24+1)),()) (t,(t2_0,t2_1,(),()),t22,()))) .d) (.k (.inr (t,t2_0,t2_1)))
def ziV (x:ttTstatisticsGather0) (y:ttTstatisticsGather1):Wy ttTstatisticsGather0 ttTstatisticsGather1 ttTstatisticsGather2:=zhh x.2.2.2.1 x.2.2.2.2.1 y.1 y.2.1.1 y.2.1.2.1 y.2.2.1
def zrN (n:Nat) (t23:Int) (t24:Int) (t:Table) (t2_0:Int) (t2_1:Int) (t22:List Row):Bool×ttTstatisticsGather2:=zM (ziV) (.inl default) n ((),(),(),t23,t24,()) (t,(t2_0,t2_1,(),()),t22,())
def zqz (r:ttTstatisticsGather2):LTree ty:=.ite (isL r) (.done .ret [.ptr 360 0] [.box ([.lit (.int .i64 ((getL r).1)),.lit (.int .i64 ((getL r).2)),.lit (.slice none 0 0)]) false]) (.done (.exit 0) [.ptr 360 0,.ptr 361 0] [.box (base.enc 25 (getR r).1) false,.box ([.lit (.int .i64 (getR r).2.1),.lit (.int .i64 (getR r).2.2),.lit (.slice none 0 0)]) false])
def zrB:LL ty ttTstatisticsGather0:=za (zb2 360 0) (za (zb2 361 0) (za (lOwn 362) (za (lInt .i64) (za (lInt .i64) zD))))
def zr1:BL ty ttTstatisticsGather1:=bBox (zdo (fun x=>(⟨x.1,x.2.1,x.2.2.1,x.2.2.2.1⟩:Table)) (fun x=>(x.ID,x.Name,x.Columns,x.Rows,())) (fun _=>rfl) (za (lInt .i64) (za lStr (za (lSl 67) (za (lSl 38) zD))))) false (bBox (za (lInt .i64) (za (lInt .i64) (za lNil zD))) false (bArr 38 false (bNil)))
def zkV (i:Int) (t61:Int) (t62:Int) (t66:List Row) (t67:Int) (t68:Int) (t:Table) (t2_0:Int) (t2_1:Int) (s_0:Int) (s_1:Int) (l:List Value) (b4:List ColumnStats):Wy ttTstatisticsGather3 ttTstatisticsGather4 ttTstatisticsGather5:=.i (decide (t68<t67)) (.i (decide (0≤t68)&&decide (t68<Int.ofNat t66.length)) (.i (decide (0≤i)&&decide (i<Int.ofNat (t66.getD t68.toNat default).Values.length)) (.i (decide ((l.length+[(t66.getD t68.toNat default).Values.getD i.toNat default].length)*32≤reach)) (.h ((),(),(),i,(),t61,t62,t66,t67,(IntKind.i64.wrap (t68+1)),()) (t,(t2_0,t2_1,(),()),(s_0,s_1,(),()),(l++[(t66.getD t68.toNat default).Values.getD i.toNat default]),b4,())) .d) .d) .d) (.k (t61,t62,t,t2_0,t2_1,s_0,s_1,l,b4))
def zir (x:ttTstatisticsGather3) (y:ttTstatisticsGather4):Wy ttTstatisticsGather3 ttTstatisticsGather4 ttTstatisticsGather5:=zkV x.2.2.2.1 x.2.2.2.2.2.1 x.2.2.2.2.2.2.1 x.2.2.2.2.2.2.2.1 x.2.2.2.2.2.2.2.2.1 x.2.2.2.2.2.2.2.2.2.1 y.1 y.2.1.1 y.2.1.2.1 y.2.2.1.1 y.2.2.1.2.1 y.2.2.2.1 y.2.2.2.2.1
def zlq (n:Nat) (i:Int) (t61:Int) (t62:Int) (t66:List Row) (t67:Int) (t68:Int) (t:Table) (t2_0:Int) (t2_1:Int) (s_0:Int) (s_1:Int) (l:List Value) (b4:List ColumnStats):Bool×ttTstatisticsGather5:=zM (zir) default n ((),(),(),i,(),t61,t62,t66,t67,t68,()) (t,(t2_0,t2_1,(),()),(s_0,s_1,(),()),l,b4,())
def zpY (r:ttTstatisticsGather5):LTree ty:=.done (.exit 4) [.ptr 360 0,.ptr 361 0,.ptr 362 0,.own 363,.lit (.int .i64 r.1),.lit (.int .i64 r.2.1)] [.box (base.enc 25 r.2.2.1) false,.box ([.lit (.int .i64 r.2.2.2.1),.lit (.int .i64 r.2.2.2.2.1),.lit (.slice none 0 0)]) false,.box ([.lit (.int .i64 r.2.2.2.2.2.1),.lit (.int .i64 r.2.2.2.2.2.2.1),.own 364]) false,.arr 40 r.2.2.2.2.2.2.2.1 false,.arr 43 r.2.2.2.2.2.2.2.2 false]
def zq2:LL ty ttTstatisticsGather3:=za (zb2 360 0) (za (zb2 361 0) (za (zb2 362 0) (za (lInt .i64) (za (lOwn 363) (za (lInt .i64) (za (lInt .i64) (za (lSl 38) (za (lInt .i64) (za (lInt .i64) zD)))))))))
def zq1:BL ty ttTstatisticsGather4:=bBox (zdo (fun x=>(⟨x.1,x.2.1,x.2.2.1,x.2.2.2.1⟩:Table)) (fun x=>(x.ID,x.Name,x.Columns,x.Rows,())) (fun _=>rfl) (za (lInt .i64) (za lStr (za (lSl 67) (za (lSl 38) zD))))) false (bBox (za (lInt .i64) (za (lInt .i64) (za lNil zD))) false (bBox (za (lInt .i64) (za (lInt .i64) (za (lOwn 364) zD))) false (bArr 40 false (bArr 43 false (bNil)))))
def zk0 (t61:Int) (t62:Int) (t:Table) (t2_0:Int) (t2_1:Int) (s_0:Int) (s_1:Int) (b3:List ColumnStats):Wy ttTstatisticsGather0 ttTstatisticsGather6 ttTstatisticsGather7:=.i (decide (t62<t61)) (.bn (zlq (t62.toNat +t61.toNat +t62.toNat +t.Rows.length+(Int.ofNat t.Rows.length).toNat +Int.toNat 0+t.Columns.length+t.Rows.length+t2_0.toNat +t2_1.toNat +s_0.toNat +s_1.toNat +0+b3.length+1000) t62 t61 t62 t.Rows (Int.ofNat t.Rows.length) 0 t t2_0 t2_1 s_0 s_1 [] b3) fun r7=>.bn (ziL r7.2.2.2.2.2.2.2.1) fun r6=>.i (decide ((r7.2.2.2.2.2.2.2.2.length+[r6].length)*96≤reach)) (.h ((),(),(),(r7.1),(IntKind.i64.wrap (r7.2.1+1)),()) ((r7.2.2.1),((r7.2.2.2.1),(r7.2.2.2.2.1),(),()),((r7.2.2.2.2.2.1),(r7.2.2.2.2.2.2.1),(),()),(r7.2.2.2.2.2.2.2.2++[r6]),())) .d) (.k (t2_0,t2_1,s_0,s_1,b3))
def ziu (x:ttTstatisticsGather0) (y:ttTstatisticsGather6):Wy ttTstatisticsGather0 ttTstatisticsGather6 ttTstatisticsGather7:=zk0 x.2.2.2.1 x.2.2.2.2.1 y.1 y.2.1.1 y.2.1.2.1 y.2.2.1.1 y.2.2.1.2.1 y.2.2.2.1
def zlm (n:Nat) (t61:Int) (t62:Int) (t:Table) (t2_0:Int) (t2_1:Int) (s_0:Int) (s_1:Int) (b3:List ColumnStats):Bool×ttTstatisticsGather7:=zM (ziu) default n ((),(),(),t61,t62,()) (t,(t2_0,t2_1,(),()),(s_0,s_1,(),()),b3,())
def zpM (r:ttTstatisticsGather7):LTree ty:=.done (.exit 2) [.ptr 360 0,.ptr 361 0] [.box ([.lit (.int .i64 r.1),.lit (.int .i64 r.2.1),.lit (.slice none 0 0)]) false,.box ([.lit (.int .i64 r.2.2.1),.lit (.int .i64 r.2.2.2.1),.own 362]) false,.arr 43 r.2.2.2.2 false]
def zqw:LL ty ttTstatisticsGather0:=za (zb2 360 0) (za (zb2 361 0) (za (zb2 362 0) (za (lInt .i64) (za (lInt .i64) zD))))
def zrf:BL ty ttTstatisticsGather6:=bBox (zdo (fun x=>(⟨x.1,x.2.1,x.2.2.1,x.2.2.2.1⟩:Table)) (fun x=>(x.ID,x.Name,x.Columns,x.Rows,())) (fun _=>rfl) (za (lInt .i64) (za lStr (za (lSl 67) (za (lSl 38) zD))))) false (bBox (za (lInt .i64) (za (lInt .i64) (za lNil zD))) false (bBox (za (lInt .i64) (za (lInt .i64) (za (lOwn 363) zD))) false (bArr 43 false (bNil))))
def zqB (x:ttTstatisticsGather0) (y:ttTstatisticsGather1):Nat:=(Int.toNat x.2.2.2.1+Int.toNat x.2.2.2.2.1+y.1.Columns.length+y.1.Rows.length+Int.toNat y.2.1.1+Int.toNat y.2.1.2.1+y.2.2.1.length+1000)
def zpF (x:ttTstatisticsGather3) (y:ttTstatisticsGather4):Nat:=(Int.toNat x.2.2.2.1+Int.toNat x.2.2.2.2.2.1+Int.toNat x.2.2.2.2.2.2.1+x.2.2.2.2.2.2.2.1.length+Int.toNat x.2.2.2.2.2.2.2.2.1+Int.toNat x.2.2.2.2.2.2.2.2.2.1+y.1.Columns.length+y.1.Rows.length+Int.toNat y.2.1.1+Int.toNat y.2.1.2.1+Int.toNat y.2.2.1.1+Int.toNat y.2.2.1.2.1+y.2.2.2.1.length+y.2.2.2.2.1.length+1000)
def zpE (x:ttTstatisticsGather0) (y:ttTstatisticsGather6):Nat:=(Int.toNat x.2.2.2.1+Int.toNat x.2.2.2.2.1+y.1.Columns.length+y.1.Rows.length+Int.toNat y.2.1.1+Int.toNat y.2.1.2.1+Int.toNat y.2.2.1.1+Int.toNat y.2.2.1.2.1+y.2.2.2.1.length+1000)
def zjf:Cx ty:=mkCx base 90 [(35,zo8),(36,zpN)] [(36,[true])] [(4,[(1,.keep),(2,.keep),(22,.keep),(23,.keep),(24,.keep)]),(15,[(1,.keep),(2,.keep),(9,.boxOwn [(2,43)]),(61,.keep),(62,.keep)]),(19,[(1,.keep),(2,.keep),(9,.keep),(10,.keep),(11,.own 40),(61,.keep),(62,.keep),(66,.keep),(67,.keep),(68,.keep)])] [(4,1,[(1,.keep),(2,.keep)]),(4,0,[(2,.keep)]),(15,3,[(2,.keep),(9,.keep)]),(19,5,[(1,.keep),(2,.keep),(9,.keep),(11,.keep),(61,.keep),(62,.keep)])] [(4,spW zrB zr1 (ziV) (.inl default) zqz zqB),(19,spW zq2 zq1 (zir) default zpY zpF),(15,spW zqw zrf (ziu) default zpM zpE)] []
theorem zx2:zU zjf (lp (body Tryz.f12) 0):=zL (id:=4) (V:=zrB) (B:=zr1) (W:=ziV) (z:=.inl default) (tr:=zqz) (m:=zqB)
theorem zxi:zU zjf (lp (body Tryz.f12) 2):=zL (id:=19) (V:=zq2) (B:=zq1) (W:=zir) (z:=default) (tr:=zpY) (m:=zpF)
theorem zxl:zU zjf (lp (body Tryz.f12) 1):=zL (id:=15) (V:=zqw) (B:=zrf) (W:=ziu) (z:=default) (tr:=zpM) (m:=zpE)
def zm2 (t:Table):Wy0 (Stats):=.i (decide (Int.ofNat t.Rows.length>1000000)) (.k (⟨0,0,[]⟩:Stats)) (.i (decide ((0+t.Rows.length)*48≤reach)) (.bn (zrN ((Int.ofNat ([]++t.Rows).length).toNat +Int.toNat 0+t.Columns.length+t.Rows.length+Int.toNat 0+Int.toNat 0+([]++t.Rows).length+1000) (Int.ofNat ([]++t.Rows).length) 0 t 0 0 ([]++t.Rows)) fun r12=>.i (isL r12) (.k (⟨(getL r12).1,(getL r12).2,[]⟩:Stats)) (.bn (zdS (Relation.mk (getR r12).1.Columns [])) fun r11=>.i (r11.2 != 0) (.k (⟨0,0,[]⟩:Stats)) (.bn (zlm ((Int.ofNat (getR r12).1.Columns.length).toNat +Int.toNat 0+(getR r12).1.Columns.length+(getR r12).1.Rows.length+(getR r12).2.1.toNat +(getR r12).2.2.toNat +(getR r12).1.ID.toNat +(Int.ofNat (getR r12).1.Rows.length).toNat +0+1000) (Int.ofNat (getR r12).1.Columns.length) 0 (getR r12).1 (getR r12).2.1 (getR r12).2.2 (getR r12).1.ID (Int.ofNat (getR r12).1.Rows.length) []) fun r10=>.k (⟨r10.2.2.1,r10.2.2.2.1,r10.2.2.2.2⟩:Stats)))) .d)
def zf1 (t:Table):Bool×Stats:=(zm2 t).fin default
def zqA (r:Stats):ARes ty:=⟨[.pure (.agg (base.enc 30 r))],[]⟩
def zsG:AL base (Table×Unit):=zf (zg (vAgg 25)) aNil
def zkw:Ab.Spec ty:=zn zsG fun x=>((zf1 x.1).1,zqA (zf1 x.1).2)
theorem zo2:Sound Tryz.prog base 12 zkw:=
 zx (cx':=zjf) zH zo zF (zA ⟨zvE,zwp,trivial⟩) Tryz.call12 Tryz.func12 (c:=body Tryz.f12) (by kernel_rfl) (zi (l:=[lp (body Tryz.f12) 0,lp (body Tryz.f12) 1,lp (body Tryz.f12) 2]) (by kernel_rfl) ⟨zx2,zxl,zxi,trivial⟩) (sg:=⟨[.pure],[]⟩) (A:=zsG) (res:=zqA) (W:=fun x=>zm2 x.1) (z:=default)
def zkE (r:Int):ARes ty:=⟨[.pure (.lit (.int .i64 r))],[]⟩
def zlK:AL base (estimator×Scalar×Unit):=zf (zg (vAgg 88)) (zf (zg (vAgg 47)) aNil)
def zdP (F:estimator→Scalar→Bool×Int):Ab.Spec ty:=zn zlK fun x=>((F x.1 x.2.1).1,zkE (F x.1 x.2.1).2)
def zrr:Cx ty:=mkCx base 39 [] [] [] [] [] []
def zkc (x_:estimator) (op:Int) (i:Int) (k:Int):Wy0 (Int):=.i (decide (x_.s.Rows>0)) (.i (decide (0≤i)&&decide (i<Int.ofNat x_.s.Columns.length)) (.i (decide (0≤k)&&decide (k<Int.ofNat x_.s.Columns.length)) (.i (!decide ((if (x_.s.Columns.getD k.toNat default).Distinct>(x_.s.Columns.getD i.toNat default).Distinct then (x_.s.Columns.getD k.toNat default).Distinct else (x_.s.Columns.getD i.toNat default).Distinct)=0)) (.i (op==5) (.k (if IntKind.i64.wrap (Int.tdiv 1000 (if (x_.s.Columns.getD k.toNat default).Distinct>(x_.s.Columns.getD i.toNat default).Distinct then (x_.s.Columns.getD k.toNat default).Distinct else (x_.s.Columns.getD i.toNat default).Distinct))>1 then IntKind.i64.wrap (Int.tdiv 1000 (if (x_.s.Columns.getD k.toNat default).Distinct>(x_.s.Columns.getD i.toNat default).Distinct then (x_.s.Columns.getD k.toNat default).Distinct else (x_.s.Columns.getD i.toNat default).Distinct)) else 1)) (.i (op==6) (.k (IntKind.i64.wrap (1000 - if IntKind.i64.wrap (Int.tdiv 1000 (if (x_.s.Columns.getD k.toNat default).Distinct>(x_.s.Columns.getD i.toNat default).Distinct then (x_.s.Columns.getD k.toNat default).Distinct else (x_.s.Columns.getD i.toNat default).Distinct))>1 then IntKind.i64.wrap (Int.tdiv 1000 (if (x_.s.Columns.getD k.toNat default).Distinct>(x_.s.Columns.getD i.toNat default).Distinct then (x_.s.Columns.getD k.toNat default).Distinct else (x_.s.Columns.getD i.toNat default).Distinct)) else 1))) (.k 333))) .d) .d) .d) (.i (op==5) (.k 0) (.i (op==6) (.k (IntKind.i64.wrap (1000 - 0))) (.k 333)))
def zcE (x_:estimator) (op:Int) (i:Int) (k:Int):Bool×Int:=(zkc x_ op i k).fin default
def zjM (r:Int):ARes ty:=⟨[.pure (.lit (.int .i64 r))],[]⟩
def zkg:AL base (estimator×Int×Int×Int×Unit):=zf (zg (vAgg 88)) (zf (zg (vInt .i64)) (zf (zg (vInt .i64)) (zf (zg (vInt .i64)) aNil)))
def zjn:Ab.Spec ty:=zn zkg fun x=>((zcE x.1 x.2.1 x.2.2.1 x.2.2.2.1).1,zjM (zcE x.1 x.2.1 x.2.2.1 x.2.2.2.1).2)
theorem zpn:Sound Tryz.prog base 127 zjn:=
 zx (cx':=zrr) zH zo zF (zA trivial) Tryz.call127 Tryz.func127 (c:=body Tryz.f127) (by kernel_rfl) (zi (l:=[]) (by kernel_rfl) trivial) (sg:=⟨[.pure],[]⟩) (A:=zkg) (res:=zjM) (W:=fun x=>zkc x.1 x.2.1 x.2.2.1 x.2.2.2.1) (z:=default)
def zur:Cx ty:=mkCx base 36 [(79,zb8)] [] [] [] [] []
def znc (x_:estimator) (i:Int) (v:Value):Wy0 (Int):=.i (decide (0≤i)&&decide (i<Int.ofNat x_.s.Columns.length)) (.i (x_.s.Rows==0) (.k 0) (.bn (zba v (x_.s.Columns.getD i.toNat default).Min) fun r1=>.i (decide (r1<0)) (.k 0) (.bn (zba v (x_.s.Columns.getD i.toNat default).Max) fun r0=>.i (decide (r0>0)) (.k 0) (.i (!decide ((x_.s.Columns.getD i.toNat default).Distinct=0)) (.k (if IntKind.i64.wrap (Int.tdiv 1000 (x_.s.Columns.getD i.toNat default).Distinct)>1 then IntKind.i64.wrap (Int.tdiv 1000 (x_.s.Columns.getD i.toNat default).Distinct) else 1)) .d)))) .d
def zdY (x_:estimator) (i:Int) (v:Value):Bool×Int:=(znc x_ i v).fin default
def zlH (r:Int):ARes ty:=⟨[.pure (.lit (.int .i64 r))],[]⟩
def znH:AL base (estimator×Int×Value×Unit):=zf (zg (vAgg 88)) (zf (zg (vInt .i64)) (zf (zg (vAgg 40)) aNil))
def zfF:Ab.Spec ty:=zn znH fun x=>((zdY x.1 x.2.1 x.2.2.1).1,zlH (zdY x.1 x.2.1 x.2.2.1).2)
theorem zhD:Sound Tryz.prog base 87 zfF:=
 zx (cx':=zur) zH zo zF (zA ⟨zcl,trivial⟩) Tryz.call87 Tryz.func87 (c:=body Tryz.f87) (by kernel_rfl) (zi (l:=[]) (by kernel_rfl) trivial) (sg:=⟨[.pure],[]⟩) (A:=znH) (res:=zlH) (W:=fun x=>znc x.1 x.2.1 x.2.2.1) (z:=default)
abbrev ttTstatisticsestimatorlt0:=Unit×Int×List Value×Int×Int×Unit
def zux (n_:Int) (t16:List Value) (t17:Int) (t18:Int) (v:Value):Wy ttTstatisticsestimatorlt0 (Value×Unit) (Int):=.i (decide (t18<t17)) (.i (decide (0≤t18)&&decide (t18<Int.ofNat t16.length)) (.bn (zba (t16.getD t18.toNat default) v) fun r0=>.i (decide (r0<0)) (.h ((),(IntKind.i64.wrap (n_+125)),t16,t17,(IntKind.i64.wrap (t18+1)),()) (v,())) (.h ((),n_,t16,t17,(IntKind.i64.wrap (t18+1)),()) (v,()))) .d) (.k n_)
def ziC (x:ttTstatisticsestimatorlt0) (y:Value×Unit):Wy ttTstatisticsestimatorlt0 (Value×Unit) (Int):=zux x.2.1 x.2.2.1 x.2.2.2.1 x.2.2.2.2.1 y.1
def zuf (n:Nat) (n_:Int) (t16:List Value) (t17:Int) (t18:Int) (v:Value):Bool×Int:=zM (ziC) default n ((),n_,t16,t17,t18,()) (v,())
def zlM (r:Int):LTree ty:=.done (.exit 0) [.lit (.int .i64 r)] []
def zmM:LL ty ttTstatisticsestimatorlt0:=za (zb2 120 0) (za (lInt .i64) (za (lSl 40) (za (lInt .i64) (za (lInt .i64) zD))))
def zmx:BL ty (Value×Unit):=bBox (zdo (fun x=>(⟨x.1,x.2.1,x.2.2.1⟩:Value)) (fun x=>(x.Kind,x.Int,x.Text,())) (fun _=>rfl) (za (lInt .i64) (za (lInt .i64) (za lStr zD)))) false (bNil)
def zlS (x:ttTstatisticsestimatorlt0) (y:Value×Unit):Nat:=(Int.toNat x.2.1+x.2.2.1.length+Int.toNat x.2.2.2.1+Int.toNat x.2.2.2.2.1+1000)
def zmp:Cx ty:=mkCx base 30 [(79,zb8)] [] [(3,[(5,.keep),(7,.keep),(16,.keep),(17,.keep),(18,.keep)])] [(3,1,[(7,.keep)])] [(3,spW zmM zmx (ziC) default zlM zlS)] []
theorem ztk:zU zmp (lp (body Tryz.f60) 0):=zL (id:=3) (V:=zmM) (B:=zmx) (W:=ziC) (z:=default) (tr:=zlM) (m:=zlS)
def zm4 (x_:estimator) (i:Int) (v:Value):Wy0 (Int):=.i (decide (0≤i)&&decide (i<Int.ofNat x_.s.Columns.length)) (.bn (zuf (Int.toNat 0+(x_.s.Columns.getD i.toNat default).Bounds.length+(Int.ofNat (x_.s.Columns.getD i.toNat default).Bounds.length).toNat +Int.toNat 0+1000) 0 (x_.s.Columns.getD i.toNat default).Bounds (Int.ofNat (x_.s.Columns.getD i.toNat default).Bounds.length) 0 v) fun r2=>.k r2) .d
def zfZ (x_:estimator) (i:Int) (v:Value):Bool×Int:=(zm4 x_ i v).fin default
def zlu (r:Int):ARes ty:=⟨[.pure (.lit (.int .i64 r))],[]⟩
def zny:AL base (estimator×Int×Value×Unit):=zf (zg (vAgg 88)) (zf (zg (vInt .i64)) (zf (zg (vAgg 40)) aNil))
def zhS:Ab.Spec ty:=zn zny fun x=>((zfZ x.1 x.2.1 x.2.2.1).1,zlu (zfZ x.1 x.2.1 x.2.2.1).2)
theorem zkF:Sound Tryz.prog base 60 zhS:=
 zx (cx':=zmp) zH zo zF (zA ⟨zcl,trivial⟩) Tryz.call60 Tryz.func60 (c:=body Tryz.f60) (by kernel_rfl) (zi (l:=[lp (body Tryz.f60) 0]) (by kernel_rfl) ⟨ztk,trivial⟩) (sg:=⟨[.pure],[]⟩) (A:=zny) (res:=zlu) (W:=fun x=>zm4 x.1 x.2.1 x.2.2.1) (z:=default)
def zuj:Cx ty:=mkCx base 17 [(60,zhS),(87,zfF)] [] [] [] [] []
def znR (x_:estimator) (i:Int) (v:Value):Wy0 (Int):=.bn (zfZ x_ i v) fun r1=>.bn (zdY x_ i v) fun r0=>.k (if IntKind.i64.wrap (r1+r0)<1000 then IntKind.i64.wrap (r1+r0) else 1000)
def zhG (x_:estimator) (i:Int) (v:Value):Bool×Int:=(znR x_ i v).fin default
def zly (r:Int):ARes ty:=⟨[.pure (.lit (.int .i64 r))],[]⟩
def znB:AL base (estimator×Int×Value×Unit):=zf (zg (vAgg 88)) (zf (zg (vInt .i64)) (zf (zg (vAgg 40)) aNil))
def zlc:Ab.Spec ty:=zn znB fun x=>((zhG x.1 x.2.1 x.2.2.1).1,zly (zhG x.1 x.2.1 x.2.2.1).2)
theorem zsq:Sound Tryz.prog base 61 zlc:=
 zx (cx':=zuj) zH zo zF (zA ⟨zkF,zhD,trivial⟩) Tryz.call61 Tryz.func61 (c:=body Tryz.f61) (by kernel_rfl) (zi (l:=[]) (by kernel_rfl) trivial) (sg:=⟨[.pure],[]⟩) (A:=znB) (res:=zly) (W:=fun x=>znR x.1 x.2.1 x.2.2.1) (z:=default)
def zrp:Cx ty:=mkCx base 47 [(60,zhS),(61,zlc),(87,zfF)] [] [] [] [] []
def zkn (x_:estimator) (op:Int) (i:Int) (v:Value):Wy0 (Int):=.i (op==5) (.bn (zdY x_ i v) fun r0=>.k r0) (.i (op==6) (.bn (zdY x_ i v) fun r1=>.k (IntKind.i64.wrap (1000 - r1))) (.i (op==7) (.bn (zfZ x_ i v) fun r2=>.k r2) (.i (op==8) (.bn (zhG x_ i v) fun r3=>.k r3) (.i (op==9) (.bn (zhG x_ i v) fun r4=>.k (IntKind.i64.wrap (1000 - r4))) (.bn (zfZ x_ i v) fun r5=>.k (IntKind.i64.wrap (1000 - r5)))))))
def zcC (x_:estimator) (op:Int) (i:Int) (v:Value):Bool×Int:=(zkn x_ op i v).fin default
def zjB (r:Int):ARes ty:=⟨[.pure (.lit (.int .i64 r))],[]⟩
def zkk:AL base (estimator×Int×Int×Value×Unit):=zf (zg (vAgg 88)) (zf (zg (vInt .i64)) (zf (zg (vInt .i64)) (zf (zg (vAgg 40)) aNil)))
def zjk:Ab.Spec ty:=zn zkk fun x=>((zcC x.1 x.2.1 x.2.2.1 x.2.2.2.1).1,zjB (zcC x.1 x.2.1 x.2.2.1 x.2.2.2.1).2)
theorem zpw:Sound Tryz.prog base 128 zjk:=
 zx (cx':=zrp) zH zo zF (zA ⟨zkF,zsq,zhD,trivial⟩) Tryz.call128 Tryz.func128 (c:=body Tryz.f128) (by kernel_rfl) (zi (l:=[]) (by kernel_rfl) trivial) (sg:=⟨[.pure],[]⟩) (A:=zkk) (res:=zjB) (W:=fun x=>zkn x.1 x.2.1 x.2.2.1 x.2.2.2.1) (z:=default)
def ztJ:Cx ty:=mkCx base 15 [] [] [] [] [] []
def zmN (x_:estimator) (i:Int):Wy0 (Bool):=.i (decide (i≥0)) (.k (decide (i<Int.ofNat x_.s.Columns.length))) (.k false)
def zcJ (x_:estimator) (i:Int):Bool×Bool:=(zmN x_ i).fin default
def zkX (r:Bool):ARes ty:=⟨[.pure (.lit (.bool r))],[]⟩
def zmH:AL base (estimator×Int×Unit):=zf (zg (vAgg 88)) (zf (zg (vInt .i64)) aNil)
def zhB:Ab.Spec ty:=zn zmH fun x=>((zcJ x.1 x.2.1).1,zkX (zcJ x.1 x.2.1).2)
theorem zkf:Sound Tryz.prog base 59 zhB:=
 zx (cx':=ztJ) zH zo zF (zA trivial) Tryz.call59 Tryz.func59 (c:=body Tryz.f59) (by kernel_rfl) (zi (l:=[]) (by kernel_rfl) trivial) (sg:=⟨[.pure],[]⟩) (A:=zmH) (res:=zkX) (W:=fun x=>zmN x.1 x.2.1) (z:=default)
def zxv:Cx ty:=mkCx base 17 [] [] [] [] [] []
def zrj (op:Int):Wy0 (Int):=.i (zKM (Value.int IntKind.i64 op) (zw0 (Value.int IntKind.i64 10) 8 (zw0 (Value.int IntKind.i64 8) 10 (zw0 (Value.int IntKind.i64 9) 7 (zw0 (Value.int IntKind.i64 7) 9 []))))) (.k ((zKx (Value.int IntKind.i64 op) (zw0 (Value.int IntKind.i64 10) 8 (zw0 (Value.int IntKind.i64 8) 10 (zw0 (Value.int IntKind.i64 9) 7 (zw0 (Value.int IntKind.i64 7) 9 []))))).getD 0)) (.k op)
def zmZ (op:Int):Bool×Int:=(zrj op).fin default
def zpc (r:Int):ARes ty:=⟨[.pure (.lit (.int .i64 r))],[]⟩
def zra:AL base (Int×Unit):=zf (zg (vInt .i64)) aNil
def zow:Ab.Spec ty:=zn zra fun x=>((zmZ x.1).1,zpc (zmZ x.1).2)
theorem zu6:Sound Tryz.prog base 126 zow:=
 zx (cx':=zxv) zH zo zF (zA trivial) Tryz.call126 Tryz.func126 (c:=body Tryz.f126) (by kernel_rfl) (zi (l:=[]) (by kernel_rfl) trivial) (sg:=⟨[.pure],[]⟩) (A:=zra) (res:=zpc) (W:=fun x=>zrj x.1) (z:=default)
def zpv:Cx ty:=mkCx base 63 [(59,zhB),(126,zow),(127,zjn),(128,zjk)] [] [] [] [] []
def zjm (x_:estimator) (op:Int) (a:Scalar) (b:Scalar):Wy0 (Int):=.i (a.Kind==0) (.bn (zmZ op) fun r6=>.i (b.Kind != 1) (.k 333) (.i (a.Kind==2) (.k 333) (.bn (zcJ x_ b.Column) fun r5=>.i (!r5) (.k 333) (.i (a.Kind==1) (.bn (zcJ x_ a.Column) fun r2=>.i (!r2) (.k 333) (.i (a.Kind==1) (.bn (zcE x_ r6 b.Column a.Column) fun r0=>.k r0) (.i (a.Kind==0) (.bn (zcC x_ r6 b.Column a.Value) fun r1=>.k r1) (.k 333)))) (.i (a.Kind==1) (.bn (zcE x_ r6 b.Column a.Column) fun r3=>.k r3) (.i (a.Kind==0) (.bn (zcC x_ r6 b.Column a.Value) fun r4=>.k r4) (.k 333))))))) (.i (a.Kind != 1) (.k 333) (.i (b.Kind==2) (.k 333) (.bn (zcJ x_ a.Column) fun r12=>.i (!r12) (.k 333) (.i (b.Kind==1) (.bn (zcJ x_ b.Column) fun r9=>.i (!r9) (.k 333) (.i (b.Kind==1) (.bn (zcE x_ op a.Column b.Column) fun r7=>.k r7) (.i (b.Kind==0) (.bn (zcC x_ op a.Column b.Value) fun r8=>.k r8) (.k 333)))) (.i (b.Kind==1) (.bn (zcE x_ op a.Column b.Column) fun r10=>.k r10) (.i (b.Kind==0) (.bn (zcC x_ op a.Column b.Value) fun r11=>.k r11) (.k 333)))))))
def zb6 (x_:estimator) (op:Int) (a:Scalar) (b:Scalar):Bool×Int:=(zjm x_ op a b).fin default
def zim (r:Int):ARes ty:=⟨[.pure (.lit (.int .i64 r))],[]⟩
def zjl:AL base (estimator×Int×Scalar×Scalar×Unit):=zf (zg (vAgg 88)) (zf (zg (vInt .i64)) (zf (zg (vAgg 47)) (zf (zg (vAgg 47)) aNil)))
def zh5:Ab.Spec ty:=zn zjl fun x=>((zb6 x.1 x.2.1 x.2.2.1 x.2.2.2.1).1,zim (zb6 x.1 x.2.1 x.2.2.1 x.2.2.2.1).2)
theorem znY:Sound Tryz.prog base 88 zh5:=
 zx (cx':=zpv) zH zo zF (zA ⟨zkf,zu6,zpn,zpw,trivial⟩) Tryz.call88 Tryz.func88 (c:=body Tryz.f88) (by kernel_rfl) (zi (l:=[]) (by kernel_rfl) trivial) (sg:=⟨[.pure],[]⟩) (A:=zjl) (res:=zim) (W:=fun x=>zjm x.1 x.2.1 x.2.2.1 x.2.2.2.1) (z:=default)
def zsd (zu:estimator→Scalar→Bool×Int):Cx ty:=mkCx base 121 [(46,(zdP zu)),(59,zhB),(87,zfF),(88,zh5)] [] [] [] [] []
def zkC (zu:estimator→Scalar→Bool×Int) (x_:estimator) (e:Scalar):Wy0 (Int):=.i (e.Kind==0) (.i (e.Value.Kind==2&&(e.Value.Int==1&&(e.Value.Text.toList==(ByteArray.mk #[]).toList&&true))) (.k 1000) (.k 0)) (.i (e.Kind==1) (.bn (zcJ x_ e.Column) fun r12=>.i (r12) (.bn (zdY x_ e.Column (Value.mk 2 1 (ByteArray.mk #[]))) fun r0=>.k r0) (.i (e.Kind != 2) (.k 333) (.i (e.Op==13) (.i (Int.ofNat e.Args.length==1) (.i (decide ((0:Int)≤(0:Int))&&decide (0<Int.ofNat e.Args.length)) (.bn (zu x_ (Scalar.mk (e.Args.getD (Int.toNat 0) default).Kind (e.Args.getD (Int.toNat 0) default).Column (e.Args.getD (Int.toNat 0) default).Value (e.Args.getD (Int.toNat 0) default).Op (e.Args.getD (Int.toNat 0) default).Args)) fun r1=>.k (IntKind.i64.wrap (1000 - r1))) .d) (.i (Int.ofNat e.Args.length != 2) (.k 333) (.i (e.Op==11) (.i (decide ((0:Int)≤(0:Int))&&decide (0<Int.ofNat e.Args.length)) (.bn (zu x_ (Scalar.mk (e.Args.getD (Int.toNat 0) default).Kind (e.Args.getD (Int.toNat 0) default).Column (e.Args.getD (Int.toNat 0) default).Value (e.Args.getD (Int.toNat 0) default).Op (e.Args.getD (Int.toNat 0) default).Args)) fun r3=>.i (decide ((0:Int)≤(1:Int))&&decide (1<Int.ofNat e.Args.length)) (.bn (zu x_ (Scalar.mk (e.Args.getD (Int.toNat 1) default).Kind (e.Args.getD (Int.toNat 1) default).Column (e.Args.getD (Int.toNat 1) default).Value (e.Args.getD (Int.toNat 1) default).Op (e.Args.getD (Int.toNat 1) default).Args)) fun r2=>.k (IntKind.i64.wrap ((IntKind.i64.wrap (r3*r2)).tdiv 1000))) .d) .d) (.i (e.Op==12) (.i (decide ((0:Int)≤(0:Int))&&decide (0<Int.ofNat e.Args.length)) (.bn (zu x_ (Scalar.mk (e.Args.getD (Int.toNat 0) default).Kind (e.Args.getD (Int.toNat 0) default).Column (e.Args.getD (Int.toNat 0) default).Value (e.Args.getD (Int.toNat 0) default).Op (e.Args.getD (Int.toNat 0) default).Args)) fun r5=>.i (decide ((0:Int)≤(1:Int))&&decide (1<Int.ofNat e.Args.length)) (.bn (zu x_ (Scalar.mk (e.Args.getD (Int.toNat 1) default).Kind (e.Args.getD (Int.toNat 1) default).Column (e.Args.getD (Int.toNat 1) default).Value (e.Args.getD (Int.toNat 1) default).Op (e.Args.getD (Int.toNat 1) default).Args)) fun r4=>.k (IntKind.i64.wrap (IntKind.i64.wrap (r5+r4) - IntKind.i64.wrap ((IntKind.i64.wrap (r5*r4)).tdiv 1000)))) .d) .d) (.i (decide (e.Op≥5)) (.i (decide (e.Op≤10)) (.i (decide ((0:Int)≤(0:Int))&&decide (0<Int.ofNat e.Args.length)) (.i (decide ((0:Int)≤(1:Int))&&decide (1<Int.ofNat e.Args.length)) (.bn (zb6 x_ e.Op (Scalar.mk (e.Args.getD (Int.toNat 0) default).Kind (e.Args.getD (Int.toNat 0) default).Column (e.Args.getD (Int.toNat 0) default).Value (e.Args.getD (Int.toNat 0) default).Op (e.Args.getD (Int.toNat 0) default).Args) (Scalar.mk (e.Args.getD (Int.toNat 1) default).Kind (e.Args.getD (Int.toNat 1) default).Column (e.Args.getD (Int.toNat 1) default).Value (e.Args.getD (Int.toNat 1) default).Op (e.Args.getD (Int.toNat 1) default).Args)) fun r6=>.k r6) .d) .d) (.k 333)) (.k 333)))))) (.i (Int.ofNat e.Args.length != 2) (.k 333) (.i (e.Op==11) (.i (decide ((0:Int)≤(0:Int))&&decide (0<Int.ofNat e.Args.length)) (.bn (zu x_ (Scalar.mk (e.Args.getD (Int.toNat 0) default).Kind (e.Args.getD (Int.toNat 0) default).Column (e.Args.getD (Int.toNat 0) default).Value (e.Args.getD (Int.toNat 0) default).Op (e.Args.getD (Int.toNat 0) default).Args)) fun r8=>.i (decide ((0:Int)≤(1:Int))&&decide (1<Int.ofNat e.Args.length)) (.bn (zu x_ (Scalar.mk (e.Args.getD (Int.toNat 1) default).Kind (e.Args.getD (Int.toNat 1) default).Column (e.Args.getD (Int.toNat 1) default).Value (e.Args.getD (Int.toNat 1) default).Op (e.Args.getD (Int.toNat 1) default).Args)) fun r7=>.k (IntKind.i64.wrap ((IntKind.i64.wrap (r8*r7)).tdiv 1000))) .d) .d) (.i (e.Op==12) (.i (decide ((0:Int)≤(0:Int))&&decide (0<Int.ofNat e.Args.length)) (.bn (zu x_ (Scalar.mk (e.Args.getD (Int.toNat 0) default).Kind (e.Args.getD (Int.toNat 0) default).Column (e.Args.getD (Int.toNat 0) default).Value (e.Args.getD (Int.toNat 0) default).Op (e.Args.getD (Int.toNat 0) default).Args)) fun r10=>.i (decide ((0:Int)≤(1:Int))&&decide (1<Int.ofNat e.Args.length)) (.bn (zu x_ (Scalar.mk (e.Args.getD (Int.toNat 1) default).Kind (e.Args.getD (Int.toNat 1) default).Column (e.Args.getD (Int.toNat 1) default).Value (e.Args.getD (Int.toNat 1) default).Op (e.Args.getD (Int.toNat 1) default).Args)) fun r9=>.k (IntKind.i64.wrap (IntKind.i64.wrap (r10+r9) - IntKind.i64.wrap ((IntKind.i64.wrap (r10*r9)).tdiv 1000)))) .d) .d) (.i (decide (e.Op≥5)) (.i (decide (e.Op≤10)) (.i (decide ((0:Int)≤(0:Int))&&decide (0<Int.ofNat e.Args.length)) (.i (decide ((0:Int)≤(1:Int))&&decide (1<Int.ofNat e.Args.length)) (.bn (zb6 x_ e.Op (Scalar.mk (e.Args.getD (Int.toNat 0) default).Kind (e.Args.getD (Int.toNat 0) default).Column (e.Args.getD (Int.toNat 0) default).Value (e.Args.getD (Int.toNat 0) default).Op (e.Args.getD (Int.toNat 0) default).Args) (Scalar.mk (e.Args.getD (Int.toNat 1) default).Kind (e.Args.getD (Int.toNat 1) default).Column (e.Args.getD (Int.toNat 1) default).Value (e.Args.getD (Int.toNat 1) default).Op (e.Args.getD (Int.toNat 1) default).Args)) fun r11=>.k r11) .d) .d) (.k 333)) (.k 333)))))))) (.i (e.Kind != 2) (.k 333) (.i (e.Op==13) (.i (Int.ofNat e.Args.length==1) (.i (decide ((0:Int)≤(0:Int))&&decide (0<Int.ofNat e.Args.length)) (.bn (zu x_ (Scalar.mk (e.Args.getD (Int.toNat 0) default).Kind (e.Args.getD (Int.toNat 0) default).Column (e.Args.getD (Int.toNat 0) default).Value (e.Args.getD (Int.toNat 0) default).Op (e.Args.getD (Int.toNat 0) default).Args)) fun r13=>.k (IntKind.i64.wrap (1000 - r13))) .d) (.i (Int.ofNat e.Args.length != 2) (.k 333) (.i (e.Op==11) (.i (decide ((0:Int)≤(0:Int))&&decide (0<Int.ofNat e.Args.length)) (.bn (zu x_ (Scalar.mk (e.Args.getD (Int.toNat 0) default).Kind (e.Args.getD (Int.toNat 0) default).Column (e.Args.getD (Int.toNat 0) default).Value (e.Args.getD (Int.toNat 0) default).Op (e.Args.getD (Int.toNat 0) default).Args)) fun r15=>.i (decide ((0:Int)≤(1:Int))&&decide (1<Int.ofNat e.Args.length)) (.bn (zu x_ (Scalar.mk (e.Args.getD (Int.toNat 1) default).Kind (e.Args.getD (Int.toNat 1) default).Column (e.Args.getD (Int.toNat 1) default).Value (e.Args.getD (Int.toNat 1) default).Op (e.Args.getD (Int.toNat 1) default).Args)) fun r14=>.k (IntKind.i64.wrap ((IntKind.i64.wrap (r15*r14)).tdiv 1000))) .d) .d) (.i (e.Op==12) (.i (decide ((0:Int)≤(0:Int))&&decide (0<Int.ofNat e.Args.length)) (.bn (zu x_ (Scalar.mk (e.Args.getD (Int.toNat 0) default).Kind (e.Args.getD (Int.toNat 0) default).Column (e.Args.getD (Int.toNat 0) default).Value (e.Args.getD (Int.toNat 0) default).Op (e.Args.getD (Int.toNat 0) default).Args)) fun r17=>.i (decide ((0:Int)≤(1:Int))&&decide (1<Int.ofNat e.Args.length)) (.bn (zu x_ (Scalar.mk (e.Args.getD (Int.toNat 1) default).Kind (e.Args.getD (Int.toNat 1) default).Column (e.Args.getD (Int.toNat 1) default).Value (e.Args.getD (Int.toNat 1) default).Op (e.Args.getD (Int.toNat 1) default).Args)) fun r16=>.k (IntKind.i64.wrap (IntKind.i64.wrap (r17+r16) - IntKind.i64.wrap ((IntKind.i64.wrap (r17*r16)).tdiv 1000)))) .d) .d) (.i (decide (e.Op≥5)) (.i (decide (e.Op≤10)) (.i (decide ((0:Int)≤(0:Int))&&decide (0<Int.ofNat e.Args.length)) (.i (decide ((0:Int)≤(1:Int))&&decide (1<Int.ofNat e.Args.length)) (.bn (zb6 x_ e.Op (Scalar.mk (e.Args.getD (Int.toNat 0) default).Kind (e.Args.getD (Int.toNat 0) default).Column (e.Args.getD (Int.toNat 0) default).Value (e.Args.getD (Int.toNat 0) default).Op (e.Args.getD (Int.toNat 0) default).Args) (Scalar.mk (e.Args.getD (Int.toNat 1) default).Kind (e.Args.getD (Int.toNat 1) default).Column (e.Args.getD (Int.toNat 1) default).Value (e.Args.getD (Int.toNat 1) default).Op (e.Args.getD (Int.toNat 1) default).Args)) fun r18=>.k r18) .d) .d) (.k 333)) (.k 333)))))) (.i (Int.ofNat e.Args.length != 2) (.k 333) (.i (e.Op==11) (.i (decide ((0:Int)≤(0:Int))&&decide (0<Int.ofNat e.Args.length)) (.bn (zu x_ (Scalar.mk (e.Args.getD (Int.toNat 0) default).Kind (e.Args.getD (Int.toNat 0) default).Column (e.Args.getD (Int.toNat 0) default).Value (e.Args.getD (Int.toNat 0) default).Op (e.Args.getD (Int.toNat 0) default).Args)) fun r20=>.i (decide ((0:Int)≤(1:Int))&&decide (1<Int.ofNat e.Args.length)) (.bn (zu x_ (Scalar.mk (e.Args.getD (Int.toNat 1) default).Kind (e.Args.getD (Int.toNat 1) default).Column (e.Args.getD (Int.toNat 1) default).Value (e.Args.getD (Int.toNat 1) default).Op (e.Args.getD (Int.toNat 1) default).Args)) fun r19=>.k (IntKind.i64.wrap ((IntKind.i64.wrap (r20*r19)).tdiv 1000))) .d) .d) (.i (e.Op==12) (.i (decide ((0:Int)≤(0:Int))&&decide (0<Int.ofNat e.Args.length)) (.bn (zu x_ (Scalar.mk (e.Args.getD (Int.toNat 0) default).Kind (e.Args.getD (Int.toNat 0) default).Column (e.Args.getD (Int.toNat 0) default).Value (e.Args.getD (Int.toNat 0) default).Op (e.Args.getD (Int.toNat 0) default).Args)) fun r22=>.i (decide ((0:Int)≤(1:Int))&&decide (1<Int.ofNat e.Args.length)) (.bn (zu x_ (Scalar.mk (e.Args.getD (Int.toNat 1) default).Kind (e.Args.getD (Int.toNat 1) default).Column (e.Args.getD (Int.toNat 1) default).Value (e.Args.getD (Int.toNat 1) default).Op (e.Args.getD (Int.toNat 1) default).Args)) fun r21=>.k (IntKind.i64.wrap (IntKind.i64.wrap (r22+r21) - IntKind.i64.wrap ((IntKind.i64.wrap (r22*r21)).tdiv 1000)))) .d) .d) (.i (decide (e.Op≥5)) (.i (decide (e.Op≤10)) (.i (decide ((0:Int)≤(0:Int))&&decide (0<Int.ofNat e.Args.length)) (.i (decide ((0:Int)≤(1:Int))&&decide (1<Int.ofNat e.Args.length)) (.bn (zb6 x_ e.Op (Scalar.mk (e.Args.getD (Int.toNat 0) default).Kind (e.Args.getD (Int.toNat 0) default).Column (e.Args.getD (Int.toNat 0) default).Value (e.Args.getD (Int.toNat 0) default).Op (e.Args.getD (Int.toNat 0) default).Args) (Scalar.mk (e.Args.getD (Int.toNat 1) default).Kind (e.Args.getD (Int.toNat 1) default).Column (e.Args.getD (Int.toNat 1) default).Value (e.Args.getD (Int.toNat 1) default).Op (e.Args.getD (Int.toNat 1) default).Args)) fun r23=>.k r23) .d) .d) (.k 333)) (.k 333))))))))
def zlz (zu:estimator→Scalar→Bool×Int) (x_:estimator) (e:Scalar):Bool×Int:=(zkC zu x_ e).fin default
theorem zqa (zu:estimator→Scalar→Bool×Int) (zso:Sound Tryz.prog base 46 (zdP zu)):Sound Tryz.prog base 46 (zdP (zlz zu)):=
 zx (cx':=(zsd zu)) zH zo zF (zA ⟨zso,zkf,zhD,znY,trivial⟩) Tryz.call46 Tryz.func46 (c:=body Tryz.f46) (by kernel_rfl) (zi (l:=[]) (by kernel_rfl) trivial) (sg:=⟨[.pure],[]⟩) (A:=zlK) (res:=zkE) (W:=fun x=>zkC zu x.1 x.2.1) (z:=default)
def zE7:Nat→(estimator→Scalar→Bool×Int)
 | 0=>fun _ _=>(false,default)
 | n+1=>zlz (zE7 n)
def zlP (n:Nat):estimator→Scalar→Bool×Int:=zE7 n
theorem zDi:∀ n,Sound Tryz.prog base 46 (zdP (zlP n))
 | 0=>zbm Tryz.call46 (fun _=>rfl)
 | n+1=>by
  have ih:=zDi n
  exact zqa _ (ih)
def znx:estimator→Scalar→Bool×Int:=zlP 1000
def statistics_estimator_cond_spec:Ab.Spec ty:=zdP znx
theorem zrn:Sound Tryz.prog base 46 statistics_estimator_cond_spec:=(zDi 1000)
def zu5:Cx ty:=mkCx base 12 [(15,zis),(46,statistics_estimator_cond_spec)] [] [] [] [] []
def zoc (s:Stats) (cond:Scalar):Wy0 (Int):=.bn (zmg s) fun r1=>.i (!r1) (.k 0) (.bn (znx (estimator.mk s) (Scalar.mk cond.Kind cond.Column cond.Value cond.Op cond.Args)) fun r0=>.k r0)
def zp1 (s:Stats) (cond:Scalar):Bool×Int:=(zoc s cond).fin default
def zmw (r:Int):ARes ty:=⟨[.pure (.lit (.int .i64 r))],[]⟩
def zop:AL base (Stats×Scalar×Unit):=zf (zg (vAgg 30)) (zf (zg (vAgg 47)) aNil)
def zlR:Ab.Spec ty:=zn zop fun x=>((zp1 x.1 x.2.1).1,zmw (zp1 x.1 x.2.1).2)
theorem zs8:Sound Tryz.prog base 19 zlR:=
 zx (cx':=zu5) zH zo zF (zA ⟨zkq,zrn,trivial⟩) Tryz.call19 Tryz.func19 (c:=body Tryz.f19) (by kernel_rfl) (zi (l:=[]) (by kernel_rfl) trivial) (sg:=⟨[.pure],[]⟩) (A:=zop) (res:=zmw) (W:=fun x=>zoc x.1 x.2.1) (z:=default)
abbrev ttTlaw37awake0:=Unit×Unit×Int×Int×Unit
abbrev ttTlaw37awake1:=(Int×ByteArray×Unit×Unit×Unit)×List Int×List Column×List Row×Unit
abbrev ttTlaw37awake2:=Int×ByteArray×List Column×List Row
def zDq (t10:Int) (t11:Int) (t_0:Int) (t_1:ByteArray) (t9:List Int) (b2:List Column) (b3:List Row):Wy ttTlaw37awake0 ttTlaw37awake1 ttTlaw37awake2:=.i (decide (t11<t10)) (.i (decide (0≤t11)&&decide (t11<Int.ofNat t9.length)) (.i (decide ((b3.length+[Row.mk [(zqo (t9.getD t11.toNat default)).2] []].length)*48≤reach)) (.h ((),(),t10,(IntKind.i64.wrap (t11+1)),()) ((t_0,t_1,(),(),()),t9,b2,(b3++[Row.mk [(zqo (t9.getD t11.toNat default)).2] []]),())) .d) .d) (.k (t_0,t_1,b2,b3))
def zx0 (x:ttTlaw37awake0) (y:ttTlaw37awake1):Wy ttTlaw37awake0 ttTlaw37awake1 ttTlaw37awake2:=zDq x.2.2.1 x.2.2.2.1 y.1.1 y.1.2.1 y.2.1 y.2.2.1 y.2.2.2.1
def zw6 (r:ttTlaw37awake2):LTree ty:=.done (.exit 0) [.ptr 368 0] [.box ([.lit (.int .i64 r.1),.lit (.string r.2.1),.own 369,.own 370]) false,.arr 67 r.2.2.1 false,.arr 38 r.2.2.2 false]
def zyl:LL ty ttTlaw37awake0:=za (zb2 368 0) (za (lOwn 369) (za (lInt .i64) (za (lInt .i64) zD)))
def zxU:BL ty ttTlaw37awake1:=bBox (za (lInt .i64) (za lStr (za (lOwn 370) (za (lOwn 371) zD)))) false (bArr 2 false (bArr 67 false (bArr 38 false (bNil))))
def zwI (x:ttTlaw37awake0) (y:ttTlaw37awake1):Nat:=(Int.toNat x.2.2.1+Int.toNat x.2.2.2.1+Int.toNat y.1.1+y.1.2.1.size+y.2.1.length+y.2.2.1.length+y.2.2.2.1.length+1000)
def zxZ:Cx ty:=mkCx base0 92 [(12,zkw),(15,zis),(19,zlR),(21,ztT),(24,zpV),(32,ztQ),(33,zrA)] [] [(3,[(1,.boxOwn [(3,38)]),(9,.keep),(10,.keep),(11,.keep)])] [(3,1,[(1,.keep)])] [(3,spW zyl zxU (zx0) default zw6 zwI)] []
theorem zCZ:zU zxZ (lp (body Tryz.f10) 0):=zL (id:=3) (V:=zyl) (B:=zxU) (W:=zx0) (z:=default) (tr:=zw6) (m:=zwI)
def zzE:Wy0 (Bool):=.k true
def zBz:Bool×Bool:=(zzE).fin default
def zwY (r:Bool):ARes ty:=⟨[.pure (.lit (.bool r))],[]⟩
def zzW:AL base0 (Unit):=aNil
def zwa:Ab.Spec ty:=zn zzW fun x=>((zBz ).1,zwY (zBz ).2)
theorem zBu:Sound Tryz.prog base0 10 zwa:=
 zx (cx':=zxZ) zH zsR zF (zA ⟨zo2.nodr,zkq.nodr,zs8.nodr,zz8.nodr,zwq,zz3.nodr,zvX.nodr,trivial⟩) Tryz.call10 Tryz.func10 (c:=body Tryz.f10) (by kernel_rfl) (zi (l:=[lp (body Tryz.f10) 0]) (by kernel_rfl) ⟨zCZ,trivial⟩) (sg:=⟨[.pure],[]⟩) (A:=zzW) (res:=zwY) (W:=fun x=>zzE ) (z:=default)
abbrev ttTref01Short0:=List Value×Int×Int×Unit
abbrev ttTref01Short1:=Bool⊕(List Value×Int)
def zs4 (l:List Value) (n_:Int) (i:Int):Wy ttTref01Short0 (Unit) ttTref01Short1:=.i (decide (i<Int.ofNat l.length)) (.i (decide (0≤i)&&decide (i<Int.ofNat l.length)) (.i (decide (Int.ofNat (l.getD i.toNat default).Text.size>300)) (.k (.inl false)) (.h (l,n_,(IntKind.i64.wrap (i+1)),()) ())) .d) (.k (.inr (l,n_)))
def zs5 (x:ttTref01Short0) (y:Unit):Wy ttTref01Short0 (Unit) ttTref01Short1:=zs4 x.1 x.2.1 x.2.2.1
def zs3 (n:Nat) (l:List Value) (n_:Int) (i:Int):Bool×ttTref01Short1:=zM (zs5) (.inl default) n (l,n_,i,()) ()
def zwR (r:ttTref01Short1):LTree ty:=.ite (isL r) (.done .ret [.lit (.bool (getL r))] []) (.done (.exit 0) [.sl 40 (getR r).1,.lit (.int .i64 (getR r).2)] [])
def zxM:LL ty ttTref01Short0:=za (lSl 40) (za (lInt .i64) (za (lInt .i64) zD))
def zyD:BL ty (Unit):=bNil
def zw7 (x:ttTref01Short0) (y:Unit):Nat:=(x.1.length+Int.toNat x.2.1+Int.toNat x.2.2.1+1)
def zyv:Cx ty:=mkCx base 23 [] [] [(2,[(0,.keep),(1,.keep),(5,.keep)])] [(2,1,[(0,.keep),(1,.keep)]),(2,0,[(4,.keep)])] [(2,spW zxM zyD (zs5) (.inl default) zwR zw7)] []
theorem zDc:zU zyv (lp (body Tryz.f27) 0):=zL (id:=2) (V:=zxM) (B:=zyD) (W:=zs5) (z:=.inl default) (tr:=zwR) (m:=zw7)
def zuq (l:List Value) (n_:Int):Wy0 (Bool):=.bn (zs3 (l.length+n_.toNat +Int.toNat 0+1) l n_ 0) fun r0=>.i (isL r0) (.k (getL r0)) (.k (decide (Int.ofNat (getR r0).1.length≤(getR r0).2)))
def zmS (l:List Value) (n_:Int):Bool×Bool:=(zuq l n_).fin default
def zw3 (r:Bool):ARes ty:=⟨[.pure (.lit (.bool r))],[]⟩
def zzH:AL base (List Value×Int×Unit):=zf (zg (vSl 40)) (zf (zg (vInt .i64)) aNil)
def zv3:Ab.Spec ty:=zn zzH fun x=>((zmS x.1 x.2.1).1,zw3 (zmS x.1 x.2.1).2)
theorem zBx:Sound Tryz.prog base 27 zv3:=
 zx (cx':=zyv) zH zo zF (zA trivial) Tryz.call27 Tryz.func27 (c:=body Tryz.f27) (by kernel_rfl) (zi (l:=[lp (body Tryz.f27) 0]) (by kernel_rfl) ⟨zDc,trivial⟩) (sg:=⟨[.pure],[]⟩) (A:=zzH) (res:=zw3) (W:=fun x=>zuq x.1 x.2.1) (z:=default)
def zvp (r:Int):ARes ty:=⟨[.pure (.lit (.int .i64 r))],[]⟩
def zxR:AL base (List Term×Int×Int×Unit):=zf (zg (vSl 152)) (zf (zg (vInt .i64)) (zf (zg (vInt .i64)) aNil))
def zk4 (F:List Term→Int→Int→Bool×Int):Ab.Spec ty:=zn zxR fun x=>((F x.1 x.2.1 x.2.2.1).1,zvp (F x.1 x.2.1 x.2.2.1).2)
abbrev ttTref05weight0:=List Term×Int×Int×Int×Int×Int×Unit×Int×Unit
abbrev ttTref05weight1:=List Term×Int×Int×Int×Int×Int×Atom
abbrev ttTref05weight2:=List Term×Int×Int×Int×Int×Int
abbrev ttTref05weight3:=List Term×Int×Int×Int×Int×Int×Unit
abbrev ttTref05weight4:=List Term×Int×Int×Int×Int
abbrev ttTref05weight5:=List Term×Int×Int×Int×Int×Unit
def zot (zt:List Term→Int→Int→Bool×Int) (a:List Term) (limit:Int) (deep:Int) (n_:Int) (i:Int) (k:Int) (j:Int) (x_:Atom):Wy ttTref05weight0 (Atom×Unit) ttTref05weight1:=.i (decide (j<Int.ofNat x_.Args.length)) (.i (decide (n_≤limit)) (.i (decide (0≤j)&&decide (j<Int.ofNat x_.Args.length)) (.bn (zt (x_.Args.getD j.toNat default) (IntKind.i64.wrap (limit - n_)) (IntKind.i64.wrap (deep - 1))) fun r0=>.h (a,limit,deep,(IntKind.i64.wrap (n_+r0)),i,k,(),(IntKind.i64.wrap (j+1)),()) (x_,())) .d) (.k (a,limit,deep,n_,i,k,x_))) (.k (a,limit,deep,n_,i,k,x_))
def zoC (zt:List Term→Int→Int→Bool×Int) (x:ttTref05weight0) (y:Atom×Unit):Wy ttTref05weight0 (Atom×Unit) ttTref05weight1:=zot zt x.1 x.2.1 x.2.2.1 x.2.2.2.1 x.2.2.2.2.1 x.2.2.2.2.2.1 x.2.2.2.2.2.2.2.1 y.1
def zol (zt:List Term→Int→Int→Bool×Int) (n:Nat) (a:List Term) (limit:Int) (deep:Int) (n_:Int) (i:Int) (k:Int) (j:Int) (x_:Atom):Bool×ttTref05weight1:=zM (zoC zt) default n (a,limit,deep,n_,i,k,(),j,()) (x_,())
def zst (r:ttTref05weight1):LTree ty:=.done (.exit 4) [.sl 152 r.1,.lit (.int .i64 r.2.1),.lit (.int .i64 r.2.2.1),.lit (.int .i64 r.2.2.2.1),.lit (.int .i64 r.2.2.2.2.1),.lit (.int .i64 r.2.2.2.2.2.1),.ptr 544 0] [.box (base.enc 158 r.2.2.2.2.2.2) false]
def ztw:LL ty ttTref05weight0:=za (lSl 152) (za (lInt .i64) (za (lInt .i64) (za (lInt .i64) (za (lInt .i64) (za (lInt .i64) (za (zb2 544 0) (za (lInt .i64) zD)))))))
def ztP:BL ty (Atom×Unit):=bBox (zdo (fun x=>(⟨x.1,⟨x.2.1,x.2.2.1⟩,x.2.2.2.1,x.2.2.2.2.1,x.2.2.2.2.2.1,x.2.2.2.2.2.2.1,⟨x.2.2.2.2.2.2.2.1,x.2.2.2.2.2.2.2.2.1,x.2.2.2.2.2.2.2.2.2.1⟩⟩:Atom)) (fun x=>(x.Kind,x.Row.Table,x.Row.Seq,x.Args,x.Func,x.Items,x.Op,x.Bound.Kind,x.Bound.Int,x.Bound.Text,())) (fun _=>rfl) (za (lInt .i64) (za (lInt .i64) (za (lInt .i64) (za (lSl 36) (za (lInt .i64) (za (lSl 182) (za (lInt .i64) (za (lInt .i64) (za (lInt .i64) (za lStr zD))))))))))) false (bNil)
def zn3 (zt:List Term→Int→Int→Bool×Int) (a:List Term) (limit:Int) (deep:Int) (n_:Int) (i:Int) (k:Int) (j:Int) (x_:Atom):Wy ttTref05weight0 (Atom×Unit) ttTref05weight2:=.i (decide (j<Int.ofNat x_.Items.length)) (.i (decide (n_≤limit)) (.i (decide (0≤j)&&decide (j<Int.ofNat x_.Items.length)) (.i (decide (0≤j)&&decide (j<Int.ofNat x_.Items.length)) (.bn (zt (x_.Items.getD j.toNat default).Ann (IntKind.i64.wrap (limit - n_)) (IntKind.i64.wrap (deep - 1))) fun r2=>.h (a,limit,deep,(IntKind.i64.wrap (IntKind.i64.wrap (n_+Int.ofNat (x_.Items.getD j.toNat default).Value.Text.size)+r2)),i,k,(),(IntKind.i64.wrap (j+1)),()) (x_,())) .d) .d) (.k (a,limit,deep,n_,i,k))) (.k (a,limit,deep,n_,i,k))
def zn1 (zt:List Term→Int→Int→Bool×Int) (x:ttTref05weight0) (y:Atom×Unit):Wy ttTref05weight0 (Atom×Unit) ttTref05weight2:=zn3 zt x.1 x.2.1 x.2.2.1 x.2.2.2.1 x.2.2.2.2.1 x.2.2.2.2.2.1 x.2.2.2.2.2.2.2.1 y.1
def zoo (zt:List Term→Int→Int→Bool×Int) (n:Nat) (a:List Term) (limit:Int) (deep:Int) (n_:Int) (i:Int) (k:Int) (j:Int) (x_:Atom):Bool×ttTref05weight2:=zM (zn1 zt) default n (a,limit,deep,n_,i,k,(),j,()) (x_,())
def zsu (r:ttTref05weight2):LTree ty:=.done (.exit 6) [.sl 152 r.1,.lit (.int .i64 r.2.1),.lit (.int .i64 r.2.2.1),.lit (.int .i64 r.2.2.2.1),.lit (.int .i64 r.2.2.2.2.1),.lit (.int .i64 r.2.2.2.2.2)] []
def ztz:LL ty ttTref05weight0:=za (lSl 152) (za (lInt .i64) (za (lInt .i64) (za (lInt .i64) (za (lInt .i64) (za (lInt .i64) (za (zb2 544 0) (za (lInt .i64) zD)))))))
def ztG:BL ty (Atom×Unit):=bBox (zdo (fun x=>(⟨x.1,⟨x.2.1,x.2.2.1⟩,x.2.2.2.1,x.2.2.2.2.1,x.2.2.2.2.2.1,x.2.2.2.2.2.2.1,⟨x.2.2.2.2.2.2.2.1,x.2.2.2.2.2.2.2.2.1,x.2.2.2.2.2.2.2.2.2.1⟩⟩:Atom)) (fun x=>(x.Kind,x.Row.Table,x.Row.Seq,x.Args,x.Func,x.Items,x.Op,x.Bound.Kind,x.Bound.Int,x.Bound.Text,())) (fun _=>rfl) (za (lInt .i64) (za (lInt .i64) (za (lInt .i64) (za (lSl 36) (za (lInt .i64) (za (lSl 182) (za (lInt .i64) (za (lInt .i64) (za (lInt .i64) (za lStr zD))))))))))) false (bNil)
def zpx (zt:List Term→Int→Int→Bool×Int) (a:List Term) (limit:Int) (deep:Int) (n_:Int) (i:Int) (k:Int):Wy ttTref05weight3 (Unit) ttTref05weight4:=.i (decide (0≤i)&&decide (i<Int.ofNat a.length)) (.i (decide (k<Int.ofNat (a.getD i.toNat default).Factors.length)) (.i (decide (n_≤limit)) (.i (decide (0≤i)&&decide (i<Int.ofNat a.length)) (.i (decide (0≤k)&&decide (k<Int.ofNat (a.getD i.toNat default).Factors.length)) (.bn (zol zt (a.length+limit.toNat +deep.toNat +(IntKind.i64.wrap (IntKind.i64.wrap (IntKind.i64.wrap (n_+Int.ofNat ((a.getD i.toNat default).Factors.getD k.toNat default).Atom.Items.length)+Int.ofNat ((a.getD i.toNat default).Factors.getD k.toNat default).Atom.Args.length)+Int.ofNat ((a.getD i.toNat default).Factors.getD k.toNat default).Atom.Bound.Text.size)).toNat +i.toNat +k.toNat +Int.toNat 0+((a.getD i.toNat default).Factors.getD k.toNat default).Atom.Args.length+((a.getD i.toNat default).Factors.getD k.toNat default).Atom.Items.length+1000) a limit deep (IntKind.i64.wrap (IntKind.i64.wrap (IntKind.i64.wrap (n_+Int.ofNat ((a.getD i.toNat default).Factors.getD k.toNat default).Atom.Items.length)+Int.ofNat ((a.getD i.toNat default).Factors.getD k.toNat default).Atom.Args.length)+Int.ofNat ((a.getD i.toNat default).Factors.getD k.toNat default).Atom.Bound.Text.size)) i k 0 (Atom.mk ((a.getD i.toNat default).Factors.getD k.toNat default).Atom.Kind ((a.getD i.toNat default).Factors.getD k.toNat default).Atom.Row ((a.getD i.toNat default).Factors.getD k.toNat default).Atom.Args ((a.getD i.toNat default).Factors.getD k.toNat default).Atom.Func ((a.getD i.toNat default).Factors.getD k.toNat default).Atom.Items ((a.getD i.toNat default).Factors.getD k.toNat default).Atom.Op ((a.getD i.toNat default).Factors.getD k.toNat default).Atom.Bound)) fun r5=>.bn (zoo zt (r5.1.length+r5.2.1.toNat +r5.2.2.1.toNat +r5.2.2.2.1.toNat +r5.2.2.2.2.1.toNat +r5.2.2.2.2.2.1.toNat +Int.toNat 0+r5.2.2.2.2.2.2.Args.length+r5.2.2.2.2.2.2.Items.length+1000) r5.1 r5.2.1 r5.2.2.1 r5.2.2.2.1 r5.2.2.2.2.1 r5.2.2.2.2.2.1 0 (Atom.mk r5.2.2.2.2.2.2.Kind r5.2.2.2.2.2.2.Row r5.2.2.2.2.2.2.Args r5.2.2.2.2.2.2.Func r5.2.2.2.2.2.2.Items r5.2.2.2.2.2.2.Op r5.2.2.2.2.2.2.Bound)) fun r4=>.h ((r4.1),(r4.2.1),(r4.2.2.1),(r4.2.2.2.1),(r4.2.2.2.2.1),(IntKind.i64.wrap (r4.2.2.2.2.2+1)),()) ()) .d) .d) (.k (a,limit,deep,n_,i))) (.k (a,limit,deep,n_,i))) .d
def zpt (zt:List Term→Int→Int→Bool×Int) (x:ttTref05weight3) (y:Unit):Wy ttTref05weight3 (Unit) ttTref05weight4:=zpx zt x.1 x.2.1 x.2.2.1 x.2.2.2.1 x.2.2.2.2.1 x.2.2.2.2.2.1
def zpq (zt:List Term→Int→Int→Bool×Int) (n:Nat) (a:List Term) (limit:Int) (deep:Int) (n_:Int) (i:Int) (k:Int):Bool×ttTref05weight4:=zM (zpt zt) default n (a,limit,deep,n_,i,k,()) ()
def ztX (r:ttTref05weight4):LTree ty:=.done (.exit 2) [.sl 152 r.1,.lit (.int .i64 r.2.1),.lit (.int .i64 r.2.2.1),.lit (.int .i64 r.2.2.2.1),.lit (.int .i64 r.2.2.2.2)] []
def zuU:LL ty ttTref05weight3:=za (lSl 152) (za (lInt .i64) (za (lInt .i64) (za (lInt .i64) (za (lInt .i64) (za (lInt .i64) zD)))))
def zuN:BL ty (Unit):=bNil
def zpm (zt:List Term→Int→Int→Bool×Int) (a:List Term) (limit:Int) (deep:Int) (n_:Int) (i:Int):Wy ttTref05weight5 (Unit) (Int):=.i (decide (i<Int.ofNat a.length)) (.i (decide (n_≤limit)) (.i (decide (0≤i)&&decide (i<Int.ofNat a.length)) (.bn (zpq zt (a.length+limit.toNat +deep.toNat +(IntKind.i64.wrap (IntKind.i64.wrap (n_+1)+Int.ofNat (a.getD i.toNat default).Factors.length)).toNat +i.toNat +Int.toNat 0+1000) a limit deep (IntKind.i64.wrap (IntKind.i64.wrap (n_+1)+Int.ofNat (a.getD i.toNat default).Factors.length)) i 0) fun r8=>.h ((r8.1),(r8.2.1),(r8.2.2.1),(r8.2.2.2.1),(IntKind.i64.wrap (r8.2.2.2.2+1)),()) ()) .d) (.k n_)) (.k n_)
def zpC (zt:List Term→Int→Int→Bool×Int) (x:ttTref05weight5) (y:Unit):Wy ttTref05weight5 (Unit) (Int):=zpm zt x.1 x.2.1 x.2.2.1 x.2.2.2.1 x.2.2.2.2.1
def zpp (zt:List Term→Int→Int→Bool×Int) (n:Nat) (a:List Term) (limit:Int) (deep:Int) (n_:Int) (i:Int):Bool×Int:=zM (zpC zt) default n (a,limit,deep,n_,i,()) ()
def ztO (r:Int):LTree ty:=.done (.exit 0) [.lit (.int .i64 r)] []
def zuP:LL ty ttTref05weight5:=za (lSl 152) (za (lInt .i64) (za (lInt .i64) (za (lInt .i64) (za (lInt .i64) zD))))
def zuZ:BL ty (Unit):=bNil
def zsO (x:ttTref05weight0) (y:Atom×Unit):Nat:=(x.1.length+Int.toNat x.2.1+Int.toNat x.2.2.1+Int.toNat x.2.2.2.1+Int.toNat x.2.2.2.2.1+Int.toNat x.2.2.2.2.2.1+Int.toNat x.2.2.2.2.2.2.2.1+y.1.Args.length+y.1.Items.length+1000)
def zsv (x:ttTref05weight0) (y:Atom×Unit):Nat:=(x.1.length+Int.toNat x.2.1+Int.toNat x.2.2.1+Int.toNat x.2.2.2.1+Int.toNat x.2.2.2.2.1+Int.toNat x.2.2.2.2.2.1+Int.toNat x.2.2.2.2.2.2.2.1+y.1.Args.length+y.1.Items.length+1000)
def zua (x:ttTref05weight3) (y:Unit):Nat:=(x.1.length+Int.toNat x.2.1+Int.toNat x.2.2.1+Int.toNat x.2.2.2.1+Int.toNat x.2.2.2.2.1+Int.toNat x.2.2.2.2.2.1+1000)
def ztq (x:ttTref05weight5) (y:Unit):Nat:=(x.1.length+Int.toNat x.2.1+Int.toNat x.2.2.1+Int.toNat x.2.2.2.1+Int.toNat x.2.2.2.2.1+1000)
def ziQ (zt:List Term→Int→Int→Bool×Int):Cx ty:=mkCx base 136 [(100,(zk4 zt))] [] [(5,[(0,.keep),(1,.keep),(2,.keep),(7,.keep),(8,.keep)]),(9,[(0,.keep),(1,.keep),(2,.keep),(7,.keep),(8,.keep),(9,.keep)]),(14,[(0,.keep),(1,.keep),(2,.keep),(7,.keep),(8,.keep),(9,.keep),(10,.keep),(11,.keep)]),(18,[(0,.keep),(1,.keep),(2,.keep),(7,.keep),(8,.keep),(9,.keep),(10,.keep),(12,.keep)])] [(5,1,[(7,.keep)]),(9,3,[(0,.keep),(1,.keep),(2,.keep),(7,.keep),(8,.keep)]),(14,5,[(0,.keep),(1,.keep),(2,.keep),(7,.keep),(8,.keep),(9,.keep),(10,.keep)]),(18,7,[(0,.keep),(1,.keep),(2,.keep),(7,.keep),(8,.keep),(9,.keep)])] [(14,spW ztw ztP (zoC zt) default zst zsO),(18,spW ztz ztG (zn1 zt) default zsu zsv),(9,spW zuU zuN (zpt zt) default ztX zua),(5,spW zuP zuZ (zpC zt) default ztO ztq)] []
theorem zAa (zt:List Term→Int→Int→Bool×Int):zU (ziQ zt) (lp (body Tryz.f100) 2):=zL (id:=14) (V:=ztw) (B:=ztP) (W:=zoC zt) (z:=default) (tr:=zst) (m:=zsO)
theorem zz9 (zt:List Term→Int→Int→Bool×Int):zU (ziQ zt) (lp (body Tryz.f100) 3):=zL (id:=18) (V:=ztz) (B:=ztG) (W:=zn1 zt) (z:=default) (tr:=zsu) (m:=zsv)
theorem zAP (zt:List Term→Int→Int→Bool×Int):zU (ziQ zt) (lp (body Tryz.f100) 1):=zL (id:=9) (V:=zuU) (B:=zuN) (W:=zpt zt) (z:=default) (tr:=ztX) (m:=zua)
theorem zAL (zt:List Term→Int→Int→Bool×Int):zU (ziQ zt) (lp (body Tryz.f100) 0):=zL (id:=5) (V:=zuP) (B:=zuZ) (W:=zpC zt) (z:=default) (tr:=ztO) (m:=ztq)
def zmj (zt:List Term→Int→Int→Bool×Int) (a:List Term) (limit:Int) (deep:Int):Wy0 (Int):=.i (deep==0) (.k (IntKind.i64.wrap (limit+1))) (.bn (zpp zt (a.length+limit.toNat +deep.toNat +Int.toNat 0+Int.toNat 0+1000) a limit deep 0 0) fun r10=>.k r10)
def zk7 (zt:List Term→Int→Int→Bool×Int) (a:List Term) (limit:Int) (deep:Int):Bool×Int:=(zmj zt a limit deep).fin default
theorem zyX (zt:List Term→Int→Int→Bool×Int) (zCj:Sound Tryz.prog base 100 (zk4 zt)):Sound Tryz.prog base 100 (zk4 (zk7 zt)):=
 zx (cx':=(ziQ zt)) zH zo zF (zA ⟨zCj,trivial⟩) Tryz.call100 Tryz.func100 (c:=body Tryz.f100) (by kernel_rfl) (zi (l:=[lp (body Tryz.f100) 0,lp (body Tryz.f100) 1,lp (body Tryz.f100) 2,lp (body Tryz.f100) 3]) (by kernel_rfl) ⟨zAL zt,zAP zt,zAa zt,zz9 zt,trivial⟩) (sg:=⟨[.pure],[]⟩) (A:=zxR) (res:=zvp) (W:=fun x=>zmj zt x.1 x.2.1 x.2.2.1) (z:=default)
def zBS:Nat→(List Term→Int→Int→Bool×Int)
 | 0=>fun _ _ _=>(false,default)
 | n+1=>zk7 (zBS n)
def zjv (n:Nat):List Term→Int→Int→Bool×Int:=zBS n
theorem zuI (n:Nat):zjv (n+1)=zk7 (zjv n):=rfl
theorem zzB:∀ n,Sound Tryz.prog base 100 (zk4 (zjv n))
 | 0=>zbm Tryz.call100 (fun _=>rfl)
 | n+1=>by
  have ih:=zzB n
  exact zyX _ (ih)
def zwm:List Term→Int→Int→Bool×Int:=zjv 1000
def ref05_weight_spec:Ab.Spec ty:=zk4 zwm
theorem zAs:Sound Tryz.prog base 100 ref05_weight_spec:=(zzB 1000)
abbrev ttTref05Few0:=Int×List (List Term)×Int×Unit
def zvI (limit:Int) (l:List (List Term)) (i:Int):Wy ttTref05Few0 (Unit) (Bool⊕Unit):=.i (decide (i<Int.ofNat l.length)) (.i (decide (0≤i)&&decide (i<Int.ofNat l.length)) (.bn (zwm (l.getD i.toNat default) limit 12) fun r0=>.i (decide (r0>limit)) (.k (.inl false)) (.h (limit,l,(IntKind.i64.wrap (i+1)),()) ())) .d) (.k (.inr ()))
def zv4 (x:ttTref05Few0) (y:Unit):Wy ttTref05Few0 (Unit) (Bool⊕Unit):=zvI x.1 x.2.1 x.2.2.1
def zvG (n:Nat) (limit:Int) (l:List (List Term)) (i:Int):Bool×(Bool⊕Unit):=zM (zv4) (.inl default) n (limit,l,i,()) ()
def zzS (r:Bool⊕Unit):LTree ty:=.ite (isL r) (.done .ret [.lit (.bool (getL r))] []) (.done (.exit 0) [] [])
def zAA:LL ty ttTref05Few0:=za (lInt .i64) (za (lSl 36) (za (lInt .i64) zD))
def zA6:BL ty (Unit):=bNil
def zzI (x:ttTref05Few0) (y:Unit):Nat:=(Int.toNat x.1+x.2.1.length+Int.toNat x.2.2.1+1000)
def zAx:Cx ty:=mkCx base 20 [(100,ref05_weight_spec)] [] [(2,[(0,.keep),(1,.keep),(5,.keep)])] [(2,1,[]),(2,0,[(4,.keep)])] [(2,spW zAA zA6 (zv4) (.inl default) zzS zzI)] []
theorem zEu:zU zAx (lp (body Tryz.f66) 0):=zL (id:=2) (V:=zAA) (B:=zA6) (W:=zv4) (z:=.inl default) (tr:=zzS) (m:=zzI)
def zxs (limit:Int) (l:List (List Term)):Wy0 (Bool):=.bn (zvG (limit.toNat +l.length+Int.toNat 0+1000) limit l 0) fun r2=>.i (isL r2) (.k (getL r2)) (.k true)
def zri (limit:Int) (l:List (List Term)):Bool×Bool:=(zxs limit l).fin default
def zzX (r:Bool):ARes ty:=⟨[.pure (.lit (.bool r))],[]⟩
def zB1:AL base (Int×List (List Term)×Unit):=zf (zg (vInt .i64)) (zf (zg (vSl 36)) aNil)
def zyu:Ab.Spec ty:=zn zB1 fun x=>((zri x.1 x.2.1).1,zzX (zri x.1 x.2.1).2)
theorem zCS:Sound Tryz.prog base 66 zyu:=
 zx (cx':=zAx) zH zo zF (zA ⟨zAs,trivial⟩) Tryz.call66 Tryz.func66 (c:=body Tryz.f66) (by kernel_rfl) (zi (l:=[lp (body Tryz.f66) 0]) (by kernel_rfl) ⟨zEu,trivial⟩) (sg:=⟨[.pure],[]⟩) (A:=zB1) (res:=zzX) (W:=fun x=>zxs x.1 x.2.1) (z:=default)
abbrev ttTref29Few0:=Int×Int×List Relation×Int×Int×Unit
abbrev ttTref29Few1:=Bool⊕(Int×Int×List Relation×Int)
abbrev ttTref29Few2:=Int×Int×List Relation×Int×Unit
def zvZ (rows:Int) (weight:Int) (l:List Relation) (i:Int) (k:Int):Wy ttTref29Few0 (Unit) ttTref29Few1:=.i (decide (0≤i)&&decide (i<Int.ofNat l.length)) (.i (decide (k<Int.ofNat (l.getD i.toNat default).Columns.length)) (.i (decide (0≤i)&&decide (i<Int.ofNat l.length)) (.i (decide (0≤k)&&decide (k<Int.ofNat (l.getD i.toNat default).Columns.length)) (.i (decide (Int.ofNat ((l.getD i.toNat default).Columns.getD k.toNat default).Name.size>100)) (.k (.inl false)) (.h (rows,weight,l,i,(IntKind.i64.wrap (k+1)),()) ())) .d) .d) (.k (.inr (rows,weight,l,i)))) .d
def zrM (x:ttTref29Few0) (y:Unit):Wy ttTref29Few0 (Unit) ttTref29Few1:=zvZ x.1 x.2.1 x.2.2.1 x.2.2.2.1 x.2.2.2.2.1
def zA5 (n:Nat) (rows:Int) (weight:Int) (l:List Relation) (i:Int) (k:Int):Bool×ttTref29Few1:=zM (zrM) (.inl default) n (rows,weight,l,i,k,()) ()
def zzz (r:ttTref29Few1):LTree ty:=.ite (isL r) (.done .ret [.lit (.bool (getL r))] []) (.done (.exit 2) [.lit (.int .i64 (getR r).1),.lit (.int .i64 (getR r).2.1),.sl 73 (getR r).2.2.1,.lit (.int .i64 (getR r).2.2.2)] [])
def zA4:LL ty ttTref29Few0:=za (lInt .i64) (za (lInt .i64) (za (lSl 73) (za (lInt .i64) (za (lInt .i64) zD))))
def zAH:BL ty (Unit):=bNil
def zuB (rows:Int) (weight:Int) (l:List Relation) (i:Int) (k:Int):Wy ttTref29Few0 (Unit) ttTref29Few1:=.i (decide (0≤i)&&decide (i<Int.ofNat l.length)) (.i (decide (k<Int.ofNat (l.getD i.toNat default).Rows.length)) (.i (decide (0≤i)&&decide (i<Int.ofNat l.length)) (.i (decide (0≤k)&&decide (k<Int.ofNat (l.getD i.toNat default).Rows.length)) (.bn (zmS ((l.getD i.toNat default).Rows.getD k.toNat default).Values 20) fun r1=>.i (!r1) (.k (.inl false)) (.i (decide (0≤i)&&decide (i<Int.ofNat l.length)) (.i (decide (0≤k)&&decide (k<Int.ofNat (l.getD i.toNat default).Rows.length)) (.bn (zri weight [((l.getD i.toNat default).Rows.getD k.toNat default).Ann]) fun r0=>.i (!r0) (.k (.inl false)) (.h (rows,weight,l,i,(IntKind.i64.wrap (k+1)),()) ())) .d) .d)) .d) .d) (.k (.inr (rows,weight,l,i)))) .d
def zqp (x:ttTref29Few0) (y:Unit):Wy ttTref29Few0 (Unit) ttTref29Few1:=zuB x.1 x.2.1 x.2.2.1 x.2.2.2.1 x.2.2.2.2.1
def zzJ (n:Nat) (rows:Int) (weight:Int) (l:List Relation) (i:Int) (k:Int):Bool×ttTref29Few1:=zM (zqp) (.inl default) n (rows,weight,l,i,k,()) ()
def zx1 (r:ttTref29Few1):LTree ty:=.ite (isL r) (.done .ret [.lit (.bool (getL r))] []) (.done (.exit 4) [.lit (.int .i64 (getR r).1),.lit (.int .i64 (getR r).2.1),.sl 73 (getR r).2.2.1,.lit (.int .i64 (getR r).2.2.2)] [])
def zzv:LL ty ttTref29Few0:=za (lInt .i64) (za (lInt .i64) (za (lSl 73) (za (lInt .i64) (za (lInt .i64) zD))))
def zz1:BL ty (Unit):=bNil
def zjO (rows:Int) (weight:Int) (l:List Relation) (i:Int):Wy ttTref29Few2 (Unit) (Bool⊕Unit):=.i (decide (i<Int.ofNat l.length)) (.i (decide (0≤i)&&decide (i<Int.ofNat l.length)) (.i (decide (Int.ofNat (l.getD i.toNat default).Rows.length>rows)) (.k (.inl false)) (.i (decide (0≤i)&&decide (i<Int.ofNat l.length)) (.i (decide (Int.ofNat (l.getD i.toNat default).Columns.length>20)) (.k (.inl false)) (.bn (zA5 (rows.toNat +weight.toNat +l.length+i.toNat +Int.toNat 0+1000) rows weight l i 0) fun r5=>.i (isL r5) (.k (.inl (getL r5))) (.bn (zzJ ((getR r5).1.toNat +(getR r5).2.1.toNat +(getR r5).2.2.1.length+(getR r5).2.2.2.toNat +Int.toNat 0+1000) (getR r5).1 (getR r5).2.1 (getR r5).2.2.1 (getR r5).2.2.2 0) fun r4=>.i (isL r4) (.k (.inl (getL r4))) (.h ((getR r4).1,(getR r4).2.1,(getR r4).2.2.1,(IntKind.i64.wrap ((getR r4).2.2.2+1)),()) ())))) .d)) .d) (.k (.inr ()))
def zrI (x:ttTref29Few2) (y:Unit):Wy ttTref29Few2 (Unit) (Bool⊕Unit):=zjO x.1 x.2.1 x.2.2.1 x.2.2.2.1
def zwf (n:Nat) (rows:Int) (weight:Int) (l:List Relation) (i:Int):Bool×(Bool⊕Unit):=zM (zrI) (.inl default) n (rows,weight,l,i,()) ()
def zzT (r:Bool⊕Unit):LTree ty:=.ite (isL r) (.done .ret [.lit (.bool (getL r))] []) (.done (.exit 0) [] [])
def zAM:LL ty ttTref29Few2:=za (lInt .i64) (za (lInt .i64) (za (lSl 73) (za (lInt .i64) zD)))
def zAX:BL ty (Unit):=bNil
def zzC (x:ttTref29Few0) (y:Unit):Nat:=(Int.toNat x.1+Int.toNat x.2.1+x.2.2.1.length+Int.toNat x.2.2.2.1+Int.toNat x.2.2.2.2.1+1000)
def zx4 (x:ttTref29Few0) (y:Unit):Nat:=(Int.toNat x.1+Int.toNat x.2.1+x.2.2.1.length+Int.toNat x.2.2.2.1+Int.toNat x.2.2.2.2.1+1000)
def zz0 (x:ttTref29Few2) (y:Unit):Nat:=(Int.toNat x.1+Int.toNat x.2.1+x.2.2.1.length+Int.toNat x.2.2.2.1+1000)
def zr9:Cx ty:=mkCx base 90 [(27,zv3),(66,zyu)] [] [(2,[(0,.keep),(1,.keep),(2,.keep),(7,.keep)]),(7,[(0,.keep),(1,.keep),(2,.keep),(7,.keep),(8,.keep)]),(12,[(0,.keep),(1,.keep),(2,.keep),(7,.keep),(9,.keep)])] [(2,1,[]),(2,0,[(6,.keep)]),(7,3,[(0,.keep),(1,.keep),(2,.keep),(7,.keep)]),(7,0,[(6,.keep)]),(12,5,[(0,.keep),(1,.keep),(2,.keep),(7,.keep)]),(12,0,[(6,.keep)])] [(7,spW zA4 zAH (zrM) (.inl default) zzz zzC),(12,spW zzv zz1 (zqp) (.inl default) zx1 zx4),(2,spW zAM zAX (zrI) (.inl default) zzT zz0)] []
theorem zEy:zU zr9 (lp (body Tryz.f34) 1):=zL (id:=7) (V:=zA4) (B:=zAH) (W:=zrM) (z:=.inl default) (tr:=zzz) (m:=zzC)
theorem zDs:zU zr9 (lp (body Tryz.f34) 2):=zL (id:=12) (V:=zzv) (B:=zz1) (W:=zqp) (z:=.inl default) (tr:=zx1) (m:=zx4)
theorem zEt:zU zr9 (lp (body Tryz.f34) 0):=zL (id:=2) (V:=zAM) (B:=zAX) (W:=zrI) (z:=.inl default) (tr:=zzT) (m:=zz0)
def zxF (rows:Int) (weight:Int) (l:List Relation):Wy0 (Bool):=.bn (zwf (rows.toNat +weight.toNat +l.length+Int.toNat 0+1000) rows weight l 0) fun r8=>.i (isL r8) (.k (getL r8)) (.k true)
def ztH (rows:Int) (weight:Int) (l:List Relation):Bool×Bool:=(zxF rows weight l).fin default
def zzR (r:Bool):ARes ty:=⟨[.pure (.lit (.bool r))],[]⟩
def zBI:AL base (Int×Int×List Relation×Unit):=zf (zg (vInt .i64)) (zf (zg (vInt .i64)) (zf (zg (vSl 73)) aNil))
def zx6:Ab.Spec ty:=zn zBI fun x=>((ztH x.1 x.2.1 x.2.2.1).1,zzR (ztH x.1 x.2.1 x.2.2.1).2)
theorem zDe:Sound Tryz.prog base 34 zx6:=
 zx (cx':=zr9) zH zo zF (zA ⟨zBx,zCS,trivial⟩) Tryz.call34 Tryz.func34 (c:=body Tryz.f34) (by kernel_rfl) (zi (l:=[lp (body Tryz.f34) 0,lp (body Tryz.f34) 1,lp (body Tryz.f34) 2]) (by kernel_rfl) ⟨zEt,zEy,zDs,trivial⟩) (sg:=⟨[.pure],[]⟩) (A:=zBI) (res:=zzR) (W:=fun x=>zxF x.1 x.2.1 x.2.2.1) (z:=default)
def zFk:Cx ty:=mkCx base 10 [(34,zx6)] [] [] [] [] []
def zxD (t:Table):Wy0 (Bool):=.bn (ztH 12 8 [Relation.mk t.Columns t.Rows]) fun r0=>.k r0
def ztM (t:Table):Bool×Bool:=(zxD t).fin default
def zzD (r:Bool):ARes ty:=⟨[.pure (.lit (.bool r))],[]⟩
def zBJ:AL base (Table×Unit):=zf (zg (vAgg 25)) aNil
def zyc:Ab.Spec ty:=zn zBJ fun x=>((ztM x.1).1,zzD (ztM x.1).2)
theorem zCJ:Sound Tryz.prog base 11 zyc:=
 zx (cx':=zFk) zH zo zF (zA ⟨zDe,trivial⟩) Tryz.call11 Tryz.func11 (c:=body Tryz.f11) (by kernel_rfl) (zi (l:=[]) (by kernel_rfl) trivial) (sg:=⟨[.pure],[]⟩) (A:=zBJ) (res:=zzD) (W:=fun x=>zxD x.1) (z:=default)
def zz6:Cx ty:=mkCx base 31 [(33,zrA)] [] [] [] [] []
def zov (a:ColumnStats) (b:ColumnStats):Wy0 (Bool):=.i (a.Distinct==b.Distinct) (.i (a.Min.Kind==b.Min.Kind&&(a.Min.Int==b.Min.Int&&(a.Min.Text.toList==b.Min.Text.toList&&true))) (.i (a.Max.Kind==b.Max.Kind&&(a.Max.Int==b.Max.Int&&(a.Max.Text.toList==b.Max.Text.toList&&true))) (.bn (zr5 a.Bounds b.Bounds) fun r0=>.k r0) (.k false)) (.k false)) (.k false)
def zjH (a:ColumnStats) (b:ColumnStats):Bool×Bool:=(zov a b).fin default
def zru (r:Bool):ARes ty:=⟨[.pure (.lit (.bool r))],[]⟩
def ztv:AL base (ColumnStats×ColumnStats×Unit):=zf (zg (vAgg 43)) (zf (zg (vAgg 43)) aNil)
def zq5:Ab.Spec ty:=zn ztv fun x=>((zjH x.1 x.2.1).1,zru (zjH x.1 x.2.1).2)
theorem zxk:Sound Tryz.prog base 37 zq5:=
 zx (cx':=zz6) zH zo zF (zA ⟨zvX,trivial⟩) Tryz.call37 Tryz.func37 (c:=body Tryz.f37) (by kernel_rfl) (zi (l:=[]) (by kernel_rfl) trivial) (sg:=⟨[.pure],[]⟩) (A:=ztv) (res:=zru) (W:=fun x=>zov x.1 x.2.1) (z:=default)
abbrev ttTref37Same0:=Unit×Unit×Int×Unit
abbrev ttTref37Same1:=Stats×Stats×Unit
def zmq (i:Int) (a:Stats) (b:Stats):Wy ttTref37Same0 ttTref37Same1 (Bool⊕Unit):=.i (decide (i<Int.ofNat a.Columns.length)) (.i (decide (0≤i)&&decide (i<Int.ofNat a.Columns.length)) (.i (decide (0≤i)&&decide (i<Int.ofNat b.Columns.length)) (.bn (zjH (a.Columns.getD i.toNat default) (b.Columns.getD i.toNat default)) fun r0=>.i (!r0) (.k (.inl false)) (.h ((),(),(IntKind.i64.wrap (i+1)),()) (a,b,()))) .d) .d) (.k (.inr ()))
def zqn (x:ttTref37Same0) (y:ttTref37Same1):Wy ttTref37Same0 ttTref37Same1 (Bool⊕Unit):=zmq x.2.2.1 y.1 y.2.1
def zzF (n:Nat) (i:Int) (a:Stats) (b:Stats):Bool×(Bool⊕Unit):=zM (zqn) (.inl default) n ((),(),i,()) (a,b,())
def zyw (r:Bool⊕Unit):LTree ty:=.ite (isL r) (.done .ret [.lit (.bool (getL r))] []) (.done (.exit 0) [] [])
def zzU:LL ty ttTref37Same0:=za (zb2 184 0) (za (zb2 185 0) (za (lInt .i64) zD))
def zzQ:BL ty ttTref37Same1:=bBox (zdo (fun x=>(⟨x.1,x.2.1,x.2.2.1⟩:Stats)) (fun x=>(x.Table,x.Rows,x.Columns,())) (fun _=>rfl) (za (lInt .i64) (za (lInt .i64) (za (lSl 43) zD)))) false (bBox (zdo (fun x=>(⟨x.1,x.2.1,x.2.2.1⟩:Stats)) (fun x=>(x.Table,x.Rows,x.Columns,())) (fun _=>rfl) (za (lInt .i64) (za (lInt .i64) (za (lSl 43) zD)))) false (bNil))
def zxT (x:ttTref37Same0) (y:ttTref37Same1):Nat:=(Int.toNat x.2.2.1+y.1.Columns.length+y.2.1.Columns.length+1)
def zzO:Cx ty:=mkCx base 46 [(37,zq5)] [] [(4,[(2,.keep),(3,.keep),(5,.keep)])] [(4,1,[]),(4,0,[(4,.keep)])] [(4,spW zzU zzQ (zqn) (.inl default) zyw zxT)] []
theorem zDz:zU zzO (lp (body Tryz.f13) 0):=zL (id:=4) (V:=zzU) (B:=zzQ) (W:=zqn) (z:=.inl default) (tr:=zyw) (m:=zxT)
def zvS (a:Stats) (b:Stats):Wy0 (Bool):=.i (a.Table != b.Table) (.k false) (.i (a.Rows != b.Rows) (.k false) (.i (Int.ofNat a.Columns.length != Int.ofNat b.Columns.length) (.k false) (.bn (zzF (Int.toNat 0+a.Columns.length+b.Columns.length+1) 0 a b) fun r2=>.i (isL r2) (.k (getL r2)) (.k true))))
def zoJ (a:Stats) (b:Stats):Bool×Bool:=(zvS a b).fin default
def zyF (r:Bool):ARes ty:=⟨[.pure (.lit (.bool r))],[]⟩
def zAO:AL base ttTref37Same1:=zf (zg (vAgg 30)) (zf (zg (vAgg 30)) aNil)
def zwJ:Ab.Spec ty:=zn zAO fun x=>((zoJ x.1 x.2.1).1,zyF (zoJ x.1 x.2.1).2)
theorem zB5:Sound Tryz.prog base 13 zwJ:=
 zx (cx':=zzO) zH zo zF (zA ⟨zxk,trivial⟩) Tryz.call13 Tryz.func13 (c:=body Tryz.f13) (by kernel_rfl) (zi (l:=[lp (body Tryz.f13) 0]) (by kernel_rfl) ⟨zDz,trivial⟩) (sg:=⟨[.pure],[]⟩) (A:=zAO) (res:=zyF) (W:=fun x=>zvS x.1 x.2.1) (z:=default)
end Go.Proofs.YtddkaehkimnklaaGreatDoor
end
