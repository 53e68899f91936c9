/- Texts of this claim, joined (the program, its functions in plain words, and what they compute). -/
import Derived.WalkKit
import Derived.WalkSpells
import Derived.Test.YtddkaehkimnklaaGreatDoorGC1
import Derived.Test.YtddkaehkimnklaaGreatDoorGA3
import Derived.Test.YtddkaehkimnklaaGreatDoorGC3
import Derived.Test.YtddkaehkimnklaaGreatDoorGB1
import Derived.Test.YtddkaehkimnklaaGreatDoorGC2
set_option autoImplicit false
set_option linter.unusedVariables false
set_option linter.unusedSectionVars false
set_option linter.unusedSimpArgs false
set_option maxRecDepth 1000000
set_option maxHeartbeats 0
noncomputable section
namespace Go.Proofs.YtddkaehkimnklaaGreatDoor
open Go Go.Ab
abbrev ttTslicesIndexFuncLapiRowapiRowno0:=List Row×Unit×Int×Int×Unit
def zmN (s:List Row) (t7:Int) (t8:Int):Wy ttTslicesIndexFuncLapiRowapiRowno0 (Unit) (Int⊕Unit):=.i (decide (t8<t7)) (.i (decide (0≤t8)&&decide (t8<Int.ofNat s.length)) (.i ((ziM (s.getD t8.toNat default)).2) (.k (.inl t8)) (.h (s,(),t7,(IntKind.i64.wrap (t8+1)),()) ())) .d) (.k (.inr ()))
def zen (x:ttTslicesIndexFuncLapiRowapiRowno0) (y:Unit):Wy ttTslicesIndexFuncLapiRowapiRowno0 (Unit) (Int⊕Unit):=zmN x.1 x.2.2.1 x.2.2.2.1
def zm1 (n:Nat) (s:List Row) (t7:Int) (t8:Int):Bool×(Int⊕Unit):=zO (zen) (.inl default) n (s,(),t7,t8,()) ()
def zhm (r:Int⊕Unit):LTree ty:=.ite (isL r) (.done .ret [.lit (.int .i64 (getL r))] []) (.done (.exit 0) [] [])
def zhF:LL ty ttTslicesIndexFuncLapiRowapiRowno0:=za (lSl 38) (za (lFn 72 (zF)) (za (lInt .i64) (za (lInt .i64) zF)))
def zhB:BL ty (Unit):=bNil
def zhw (x:ttTslicesIndexFuncLapiRowapiRowno0) (y:Unit):Nat:=(x.1.length+Int.toNat x.2.2.1+Int.toNat x.2.2.2.1+1000)
def zhC:Cx ty:=mkCx base 19 [(72,zgT)] [] [(2,[(0,.keep),(1,.keep),(7,.keep),(8,.keep)])] [(2,1,[]),(2,0,[(4,.keep)])] [(2,spW zhF zhB (zen) (.inl default) zhm zhw)] []
theorem zmx:zX zhC (lp (body Tryz.f112) 0):=zN (id:=2) (V:=zhF) (B:=zhB) (W:=zen) (z:=.inl default) (tr:=zhm) (m:=zhw)
def zhV (s:List Row):Wy0 (Int):=.bn (zm1 (s.length+(Int.ofNat s.length).toNat +Int.toNat 0+1000) s (Int.ofNat s.length) 0) fun r0=>.i (isL r0) (.k (getL r0)) (.k (-1:Int))
def zfw (s:List Row):Bool×Int:=(zhV s).fin default
def zho (r:Int):ARes ty:=⟨[.pure (.lit (.int .i64 r))],[]⟩
def zhT:AL base (List Row×Unit×Unit):=zf (zg (vSl 38)) (zf (zg (vFn 72 vNil)) aNil)
def zhi:Ab.Spec ty:=zn zhT fun x=>((zfw x.1).1,zho (zfw x.1).2)
theorem zlC:Sound Tryz.prog base 112 zhi:=
 zy (cx':=zhC) zH zo zD (zB ⟨ziu,trivial⟩) Tryz.call112 Tryz.func112 (c:=body Tryz.f112) (by kernel_rfl) (zi (l:=[lp (body Tryz.f112) 0]) (by kernel_rfl) ⟨zmx,trivial⟩) (sg:=⟨[.pure],[]⟩) (A:=zhT) (res:=zho) (W:=fun x=>zhV x.1) (z:=default)
abbrev ttTslicesDeleteFuncLapiRowapiRow0:=Unit×Unit×Int×Int×Unit
abbrev ttTslicesDeleteFuncLapiRowapiRow1:=List Row×Unit
abbrev ttTslicesDeleteFuncLapiRowapiRow2:=Int×List Row
def znM (i:Int) (j:Int) (s:List Row):Wy ttTslicesDeleteFuncLapiRowapiRow0 ttTslicesDeleteFuncLapiRowapiRow1 ttTslicesDeleteFuncLapiRowapiRow2:=.i (decide (j<Int.ofNat s.length)) (.i (decide (0≤j)&&decide (j<Int.ofNat s.length)) (.i (!(ziM (s.getD j.toNat default)).2) (.i (decide (0≤i)&&decide (i<Int.ofNat s.length)) (.i (decide (i.toNat<s.length)) (.h ((),(),(IntKind.i64.wrap (i+1)),(IntKind.i64.wrap (j+1)),()) ((s.set i.toNat (s.getD j.toNat default)),())) .d) .d) (.h ((),(),i,(IntKind.i64.wrap (j+1)),()) (s,()))) .d) (.k (i,s))
def zfa (x:ttTslicesDeleteFuncLapiRowapiRow0) (y:ttTslicesDeleteFuncLapiRowapiRow1):Wy ttTslicesDeleteFuncLapiRowapiRow0 ttTslicesDeleteFuncLapiRowapiRow1 ttTslicesDeleteFuncLapiRowapiRow2:=znM x.2.2.1 x.2.2.2.1 y.1
def znO (n:Nat) (i:Int) (j:Int) (s:List Row):Bool×ttTslicesDeleteFuncLapiRowapiRow2:=zO (zfa) default n ((),(),i,j,()) (s,())
def zhS (r:ttTslicesDeleteFuncLapiRowapiRow2):LTree ty:=.done (.exit 0) [.own 168,.lit (.int .i64 r.1)] [.arr 38 r.2 false]
def zib:LL ty ttTslicesDeleteFuncLapiRowapiRow0:=za (lOwn 168) (za (lFn 72 (zF)) (za (lInt .i64) (za (lInt .i64) zF)))
def zia:BL ty ttTslicesDeleteFuncLapiRowapiRow1:=bArr 38 false (bNil)
def zhY (x:ttTslicesDeleteFuncLapiRowapiRow0) (y:ttTslicesDeleteFuncLapiRowapiRow1):Nat:=(Int.toNat x.2.2.1+Int.toNat x.2.2.2.1+y.1.length+1000)
def zh9:Cx ty:=mkCx base 42 [(72,zgT),(112,zhi)] [] [(5,[(0,.keep),(1,.keep),(5,.keep),(6,.keep)])] [(5,1,[(0,.keep),(5,.keep)])] [(5,spW zib zia (zfa) default zhS zhY)] []
theorem znd:zX zh9 (lp (body Tryz.f70) 0):=zN (id:=5) (V:=zib) (B:=zia) (W:=zfa) (z:=default) (tr:=zhS) (m:=zhY)
def zir (s:List Row):Wy0 (List Row):=.bn (zfw s) fun r1=>.i (r1==(-1:Int)) (.k s) (.bn (znO (r1.toNat +(IntKind.i64.wrap (r1+1)).toNat +s.length+1000) r1 (IntKind.i64.wrap (r1+1)) s) fun r0=>.i (decide (0≤r0.1)&&decide (r0.1≤Int.ofNat r0.2.length)&&decide (Int.ofNat r0.2.length≤Int.ofNat r0.2.length)) (.i (decide (r0.1.toNat +((Int.ofNat r0.2.length).toNat - r0.1.toNat)≤r0.2.length)) (.i (decide ((0:Int)≤(0:Int))&&decide (0≤r0.1)&&decide (r0.1≤Int.ofNat (List.take r0.1.toNat r0.2++List.replicate ((Int.ofNat r0.2.length).toNat - r0.1.toNat) (Row.mk [] [])++List.drop (r0.1.toNat +((Int.ofNat r0.2.length).toNat - r0.1.toNat)) r0.2).length)) (.k (List.take (r0.1.toNat - Int.toNat 0) (List.take r0.1.toNat r0.2++List.replicate ((Int.ofNat r0.2.length).toNat - r0.1.toNat) (Row.mk [] [])++List.drop (r0.1.toNat +((Int.ofNat r0.2.length).toNat - r0.1.toNat)) r0.2))) .d) .d) .d)
def zcA (s:List Row):Bool×List Row:=(zir s).fin default
def zhQ (r:List Row):ARes ty:=⟨[.own 38 r],[none]⟩
def zix:AL base (List Row×Unit×Unit):=zf (aOwn 38) (zf (zg (vFn 72 vNil)) aNil)
def zhE:Ab.Spec ty:=zn zix fun x=>((zcA x.1).1,zhQ (zcA x.1).2)
theorem zmz:Sound Tryz.prog base 70 zhE:=
 zy (cx':=zh9) zH zo zD (zB ⟨ziu,zlC,trivial⟩) Tryz.call70 Tryz.func70 (c:=body Tryz.f70) (by kernel_rfl) (zi (l:=[lp (body Tryz.f70) 0]) (by kernel_rfl) ⟨znd,trivial⟩) (sg:=⟨[.own 38],[false]⟩) (A:=zix) (res:=zhQ) (W:=fun x=>zir x.1) (z:=default)
def zfV (x:List Row) (a b:Int):Bool×List Row:=zDt zbB x a b
def slices_insertionSortCmpFunc_api_Row_spec:Ab.Spec ty:=zn (cx:=base) (zf (aOwn 38) (zf (zg (vInt .i64)) (zf (zg (vInt .i64)) (zf (zg (vFn 74 vNil)) aNil)))) fun x=>((zfV x.1 x.2.1 x.2.2.1).1,⟨[],[some ⟨38,(zfV x.1 x.2.1 x.2.2.1).2⟩]⟩)
theorem zmR (c:Unit) (x y:Row) (h:(zbB x y).1=true):zlu ((AV.agg (base.enc 38 x)::AV.agg (base.enc 38 y)::(vNil:VL base Unit).enc c).map Arg.pure)=some (true,⟨[.pure (.lit (.int .i64 (zbB x y).2))],[]⟩):=by
 rw [← h]; kernel_rfl
theorem zlM:Sound Tryz.prog base 159 slices_insertionSortCmpFunc_api_Row_spec:=by
 letI:DecidableEq (ty 38):=inferInstanceAs (DecidableEq Row)
 exact zHx (T:=38) zo rfl Go.Proofs.Tryz.insR Tryz.isAgg38 (by unfold szOf; exact Tryz.sizeOf38) Tryz.call159 zpQ vNil (fun c=>zbB) zmR
open Go.Proofs Go.RowKit
def zb6 (x:List Row) (m:Int):Bool×List Row:=(decide (SortOK zbB x)&&(decide (m=x.length)&&decide (m<20)),zjw zbB x)
def zjz:Ab.Spec ty:=zn (cx:=base) (zf (aOwn 38) (zf (zg (vInt .i64)) (zf (zg (vFn 74 vNil)) aNil))) fun x=>((zb6 x.1 x.2.1).1,⟨[],[some ⟨38,(zb6 x.1 x.2.1).2⟩]⟩)
set_option maxHeartbeats 1000000 in
theorem zpc:Sound Tryz.prog base 113 zjz where
 enters:=Tryz.call113
 calls:=fun avs r hsp w F vs hF ha hsep=>by
  unfold zjz zn at hsp
  split at hsp
  ·rename_i x hx
   simp only [Option.some.injEq,Prod.mk.injEq] at hsp
   obtain ⟨hpre,rfl⟩:=hsp
   have hk:=(zf (aOwn 38) (zf (zg (vInt .i64)) (zf (zg (vFn 74 vNil)) aNil)):AL base _).kind vs avs x hx
   have ha':=(zf (aOwn 38) (zf (zg (vInt .i64)) (zf (zg (vFn 74 vNil)) aNil)):AL base _).ok Tryz.prog zo F w vs avs x hx ha
   rw [hk] at hsep ⊢
   clear hk hx ha
   obtain ⟨l0,m,c,u0⟩:=x
   obtain ⟨l,rfl⟩:∃ l:List Row,l=l0:=⟨l0,rfl⟩
   obtain ⟨v,vs',rfl,hv,hv'⟩:=ha'.inv
   obtain ⟨mv,vs1,rfl,hm,hv1⟩:=hv'.inv
   obtain ⟨fv,vs'',rfl,hfv,h0⟩:=hv1.inv
   obtain rfl:=h0.nil_left.1
   have hm:Rep base F w mv (.lit (.int .i64 m)):=hm
   obtain rfl:mv=.int .i64 m:=by cases hm; rfl
   have hsl:∃ p cap,v=.slice p l.length cap:=by
    obtain ⟨⟨xs,hown,_⟩,_⟩:=(show zb9 base F w v 38 l∧∀ b,zL v=some b→¬ F b from hv)
    rcases hown.2 with ⟨h1,h2⟩ | ⟨g0,cap,cur,h1,_⟩
    ·exact ⟨none,0,by rw [h1,show l.length=0 from h2]⟩
    ·exact ⟨_,cap,h1⟩
   have hpre:(decide (SortOK (α:=Row) zbB l)&&(decide (m=l.length)&&decide (m<20)))=true:=hpre
   simp only [Bool.and_eq_true,decide_eq_true_eq] at hpre
   obtain ⟨hok,rfl,h20⟩:=hpre
   have hpp:(zfV l 0 (l.length:Int)).1=true:=by
    show (decide (SortOK (α:=Row) zbB l)&&(decide ((0:Int)=0)&&decide ((l.length:Int)=l.length)))=true
    simp only [Bool.and_eq_true,decide_eq_true_eq]
    exact ⟨hok,trivial,trivial⟩
   have hp:=(zlM).calls [.own 38 l,.pure (.lit (.int .i64 0)),.pure (.lit (.int .i64 (l.length:Int))),.pure (.fn 74 [])] ⟨[],[some ⟨38,(zb6 l (l.length:Int)).2⟩]⟩
    (by rw [← hpp]; kernel_rfl) w F [v,.int .i64 0,.int .i64 (l.length:Int),fv] hF (.cons hv (.cons (Rep.lit _) (.cons (Rep.lit _) (.cons hfv .nil)))) hsep
   replace hp:Calls Tryz.prog 159 #[v,.int .i64 0,.int .i64 (l.length:Int),fv] w fun e w'=>∃ u,e=.returned u∧Post base F w [v] ⟨[],[some ⟨38,(zb6 l (l.length:Int)).2⟩]⟩ u w':=hp
   show Calls Tryz.prog 113 #[v,.int .i64 (l.length:Int),fv] w fun e w'=>∃ u,e=.returned u∧Post base F w [v] ⟨[],[some ⟨38,(zb6 l (l.length:Int)).2⟩]⟩ u w'
   generalize (zb6 l (l.length:Int)).2=res at hp ⊢
   generalize hn:l.length=m at *
   clear hpp hv hfv hsep hok hF hm
   obtain ⟨p,cap,rfl⟩:=hsl
   clear hn
   go_enter Tryz.func113,Tryz.ntmps113
   go_wp2
   refine wp_loop_rounds 1 ?_
   rw [rounds_succ]
   go_wp2_with (go_at_call 159; refine hp.mono ?_; rintro e w' ⟨u,rfl,hpost⟩; obtain rfl:=hpost.unit)
   refine wp_loop_rounds 1 ?_
   rw [rounds_succ]
   go_wp2
   all_goals first | (exfalso; omega) | (go_end0; exact ⟨_,rfl,hpost⟩)
  ·cases hsp
end Go.Proofs.YtddkaehkimnklaaGreatDoor
namespace Go.Proofs.YtddkaehkimnklaaGreatDoor
open Go Go.Ab
open Go.Proofs Go.RowKit
def zY (x:List Row):Bool×List Row:=(decide (SortOK zbB x)&&decide (x.length<20),zjw zbB x)
def zdu:Ab.Spec ty:=zn (cx:=base) (zf (aOwn 38) (zf (zg (vFn 74 vNil)) aNil)) fun x=>((zY x.1).1,⟨[],[some ⟨38,(zY x.1).2⟩]⟩)
set_option maxHeartbeats 1000000 in
theorem zkO:Sound Tryz.prog base 73 zdu where
 enters:=Tryz.call73
 calls:=fun avs r hsp w F vs hF ha hsep=>by
  unfold zdu zn at hsp
  split at hsp
  ·rename_i x hx
   simp only [Option.some.injEq,Prod.mk.injEq] at hsp
   obtain ⟨hpre,rfl⟩:=hsp
   have hk:=(zf (aOwn 38) (zf (zg (vFn 74 vNil)) aNil):AL base _).kind vs avs x hx
   have ha':=(zf (aOwn 38) (zf (zg (vFn 74 vNil)) aNil):AL base _).ok Tryz.prog zo F w vs avs x hx ha
   rw [hk] at hsep ⊢
   clear hk hx ha
   obtain ⟨l0,c,u0⟩:=x
   obtain ⟨l,rfl⟩:∃ l:List Row,l=l0:=⟨l0,rfl⟩
   obtain ⟨v,vs',rfl,hv,hv'⟩:=ha'.inv
   obtain ⟨fv,vs'',rfl,hfv,h0⟩:=hv'.inv
   obtain rfl:=h0.nil_left.1
   have hsl:∃ p cap,v=.slice p l.length cap:=by
    obtain ⟨⟨xs,hown,_⟩,_⟩:=(show zb9 base F w v 38 l∧∀ b,zL v=some b→¬ F b from hv)
    rcases hown.2 with ⟨h1,h2⟩ | ⟨g0,cap,cur,h1,_⟩
    ·exact ⟨none,0,by rw [h1,show l.length=0 from h2]⟩
    ·exact ⟨_,cap,h1⟩
   have hpre:(decide (SortOK (α:=Row) zbB l)&&decide (l.length<20))=true:=hpre
   simp only [Bool.and_eq_true,decide_eq_true_eq] at hpre
   obtain ⟨hok,h20⟩:=hpre
   have hpp:(zb6 l (l.length:Int)).1=true:=by
    show (decide (SortOK (α:=Row) zbB l)&&(decide ((l.length:Int)=l.length)&&decide ((l.length:Int)<20)))=true
    simp only [Bool.and_eq_true,decide_eq_true_eq]
    exact ⟨hok,trivial,by omega⟩
   have hp:=(zpc).calls [.own 38 l,.pure (.lit (.int .i64 (l.length:Int))),.pure (.fn 74 [])] ⟨[],[some ⟨38,(zY l).2⟩]⟩
    (by rw [← hpp]; kernel_rfl) w F [v,.int .i64 (l.length:Int),fv] hF (.cons hv (.cons (Rep.lit _) (.cons hfv .nil))) hsep
   replace hp:Calls Tryz.prog 113 #[v,.int .i64 (l.length:Int),fv] w fun e w'=>∃ u,e=.returned u∧Post base F w [v] ⟨[],[some ⟨38,(zY l).2⟩]⟩ u w':=hp
   show Calls Tryz.prog 73 #[v,fv] w fun e w'=>∃ u,e=.returned u∧Post base F w [v] ⟨[],[some ⟨38,(zY l).2⟩]⟩ u w'
   generalize (zY l).2=res at hp ⊢
   generalize hn:l.length=m at *
   clear hpp hv hfv hsep hok hF
   obtain ⟨p,cap,rfl⟩:=hsl
   clear hn
   go_enter Tryz.func73,Tryz.ntmps73
   go_wp2_with (go_at_call 113; refine hp.mono ?_; rintro e w' ⟨u,rfl,hpost⟩; obtain rfl:=hpost.unit)
   go_end0
   exact ⟨_,rfl,hpost⟩
  ·cases hsp
end Go.Proofs.YtddkaehkimnklaaGreatDoor
namespace Go.Proofs.YtddkaehkimnklaaGreatDoor
open Go Go.Ab
abbrev ttTrelationNormalize0:=Unit×Unit×List Row×Int×Int×Unit
abbrev ttTrelationNormalize1:=Relation×(Unit×Unit×Unit)×Unit
abbrev ttTrelationNormalize2:=Int⊕Relation
abbrev ttTrelationNormalize3:=Unit×Unit×Unit×Int×Int×Unit
abbrev ttTrelationNormalize4:=(Unit×Unit×Unit)×(Unit×Unit×Unit)×List Row×List Column×List Row×Unit
abbrev ttTrelationNormalize5:=List Column×List Row
def zla (t19:List Row) (t20:Int) (t21:Int) (r:Relation):Wy ttTrelationNormalize0 ttTrelationNormalize1 ttTrelationNormalize2:=.i (decide (t21<t20)) (.i (decide (0≤t21)&&decide (t21<Int.ofNat t19.length)) (.bn (zkp r.Columns (t19.getD t21.toNat default).Values) fun r5=>.i (!r5) (.k (.inl 7)) (.bn (zmp (t19.getD t21.toNat default).Ann) fun r4=>.i (!r4) (.k (.inl 1)) (.h ((),(),t19,t20,(IntKind.i64.wrap (t21+1)),()) (r,((),(),()),())))) .d) (.k (.inr r))
def zg9 (x:ttTrelationNormalize0) (y:ttTrelationNormalize1):Wy ttTrelationNormalize0 ttTrelationNormalize1 ttTrelationNormalize2:=zla x.2.2.1 x.2.2.2.1 x.2.2.2.2.1 y.1
def zlh (n:Nat) (t19:List Row) (t20:Int) (t21:Int) (r:Relation):Bool×ttTrelationNormalize2:=zO (zg9) (.inl default) n ((),(),t19,t20,t21,()) (r,((),(),()),())
def zpT (r:ttTrelationNormalize2):LTree ty:=.ite (isL r) (.done .ret [.ptr 440 0,.lit (.int .i64 (getL r))] [.box ([.lit (.slice none 0 0),.lit (.slice none 0 0)]) false]) (.done (.exit 0) [.ptr 440 0,.ptr 441 0] [.box (base.enc 73 (getR r)) false,.box ([.lit (.slice none 0 0),.lit (.slice none 0 0)]) false])
def zqg:LL ty ttTrelationNormalize0:=za (zcF 440 0) (za (zcF 441 0) (za (lSl 38) (za (lInt .i64) (za (lInt .i64) zF))))
def zqC:BL ty ttTrelationNormalize1:=bBox (zex (fun x=>(⟨x.1,x.2.1⟩:Relation)) (fun x=>(x.Columns,x.Rows,())) (fun _=>rfl) (za (lSl 67) (za (lSl 38) zF))) false (bBox (za lNil (za lNil zF)) false (bNil))
def zwW (t49:Int) (t50:Int) (t48:List Row) (b3:List Column) (b4:List Row):Wy ttTrelationNormalize3 ttTrelationNormalize4 ttTrelationNormalize5:=.i (decide (t50<t49)) (.i (decide (0≤t50)&&decide (t50<Int.ofNat t48.length)) (.i (Int.ofNat b4.length==0) (.bn (znx (t48.getD t50.toNat default) (t48.getD t50.toNat default).Ann) fun r8=>.i (decide ((b4.length+[r8].length)*48≤reach)) (.h ((),(),(),t49,(IntKind.i64.wrap (t50+1)),()) (((),(),()),((),(),()),t48,b3,(b4++[r8]),())) .d) (.i (decide (0≤IntKind.i64.wrap (Int.ofNat b4.length - 1))&&decide (IntKind.i64.wrap (Int.ofNat b4.length - 1)<Int.ofNat b4.length)) (.bn (zbB (b4.getD (IntKind.i64.wrap (Int.ofNat b4.length - 1)).toNat default) (t48.getD t50.toNat default)) fun r11=>.i (r11 != 0) (.bn (znx (t48.getD t50.toNat default) (t48.getD t50.toNat default).Ann) fun r9=>.i (decide ((b4.length+[r9].length)*48≤reach)) (.h ((),(),(),t49,(IntKind.i64.wrap (t50+1)),()) (((),(),()),((),(),()),t48,b3,(b4++[r9]),())) .d) (.i (decide (0≤IntKind.i64.wrap (Int.ofNat b4.length - 1))&&decide (IntKind.i64.wrap (Int.ofNat b4.length - 1)<Int.ofNat b4.length)) (.bn (zxW (b4.getD (IntKind.i64.wrap (Int.ofNat b4.length - 1)).toNat default).Ann (t48.getD t50.toNat default).Ann) fun r10=>.i (decide (0≤IntKind.i64.wrap (Int.ofNat b4.length - 1))&&decide (IntKind.i64.wrap (Int.ofNat b4.length - 1)<Int.ofNat b4.length)) (.i (decide ((IntKind.i64.wrap (Int.ofNat b4.length - 1)).toNat<b4.length)) (.h ((),(),(),t49,(IntKind.i64.wrap (t50+1)),()) (((),(),()),((),(),()),t48,b3,(b4.set (IntKind.i64.wrap (Int.ofNat b4.length - 1)).toNat (Row.mk (b4.getD (IntKind.i64.wrap (Int.ofNat b4.length - 1)).toNat default).Values r10.1)),())) .d) .d) .d)) .d)) .d) (.k (b3,b4))
def zkH (x:ttTrelationNormalize3) (y:ttTrelationNormalize4):Wy ttTrelationNormalize3 ttTrelationNormalize4 ttTrelationNormalize5:=zwW x.2.2.2.1 x.2.2.2.2.1 y.2.2.1 y.2.2.2.1 y.2.2.2.2.1
def zpz (n:Nat) (t49:Int) (t50:Int) (t48:List Row) (b3:List Column) (b4:List Row):Bool×ttTrelationNormalize5:=zO (zkH) default n ((),(),(),t49,t50,()) (((),(),()),((),(),()),t48,b3,b4,())
def zo0 (r:ttTrelationNormalize5):LTree ty:=.done (.exit 2) [.ptr 440 0,.ptr 441 0] [.box ([.lit (.slice none 0 0),.lit (.slice none 0 0)]) false,.box ([.own 442,.own 443]) false,.arr 67 r.1 false,.arr 38 r.2 false]
def zpR:LL ty ttTrelationNormalize3:=za (zcF 440 0) (za (zcF 441 0) (za (lOwn 442) (za (lInt .i64) (za (lInt .i64) zF))))
def zpO:BL ty ttTrelationNormalize4:=bBox (za lNil (za lNil zF)) false (bBox (za (lOwn 443) (za (lOwn 444) zF)) false (bArr 38 false (bArr 67 false (bArr 38 false (bNil)))))
def zpV (x:ttTrelationNormalize0) (y:ttTrelationNormalize1):Nat:=(x.2.2.1.length+Int.toNat x.2.2.2.1+Int.toNat x.2.2.2.2.1+y.1.Columns.length+y.1.Rows.length+1000)
def zoS (x:ttTrelationNormalize3) (y:ttTrelationNormalize4):Nat:=(Int.toNat x.2.2.2.1+Int.toNat x.2.2.2.2.1+y.2.2.1.length+y.2.2.2.1.length+y.2.2.2.2.1.length+1000)
def zk9:Cx ty:=mkCx base 110 [(67,zmV),(68,zs7),(69,annotation_Valid_spec),(70,zhE),(71,zjg),(72,zgT),(73,zdu),(74,zlu),(75,zhn),(76,zrS),(77,annotation_Add_spec)] [(70,[true,false]),(73,[true,false])] [(4,[(1,.keep),(2,.keep),(19,.keep),(20,.keep),(21,.keep)]),(15,[(2,.keep),(7,.boxOwn [(1,38)]),(48,.keep),(49,.keep),(50,.keep)])] [(4,1,[(1,.keep),(2,.keep)]),(4,0,[(2,.keep),(3,.keep)]),(15,3,[(2,.keep),(7,.keep)]),(15,0,[(2,.keep),(3,.keep)])] [(4,spW zqg zqC (zg9) (.inl default) zpT zpV),(15,spW zpR zpO (zkH) default zo0 zoS)] []
theorem zxb:zX zk9 (lp (body Tryz.f35) 0):=zN (id:=4) (V:=zqg) (B:=zqC) (W:=zg9) (z:=.inl default) (tr:=zpT) (m:=zpV)
theorem zv7:zX zk9 (lp (body Tryz.f35) 1):=zN (id:=15) (V:=zpR) (B:=zpO) (W:=zkH) (z:=default) (tr:=zo0) (m:=zoS)
def zjx (r:Relation):Wy0 (Relation×Int):=.bn (zg7 r.Columns) fun r22=>.i (!r22) (.k ((⟨[],[]⟩:Relation),1)) (.bn (zlh (r.Rows.length+(Int.ofNat r.Rows.length).toNat +Int.toNat 0+r.Columns.length+r.Rows.length+1000) r.Rows (Int.ofNat r.Rows.length) 0 r) fun r21=>.i (isL r21) (.k ((⟨[],[]⟩:Relation),getL r21)) (.bn (zbV (getR r21).Rows) fun r20=>.bn (zcA r20) fun r19=>.bn (zY r19) fun r18=>.bn (zcl (getR r21).Columns) fun r17=>.bn (zpz ((Int.ofNat r18.length).toNat +Int.toNat 0+r18.length+r17.length+0+1000) (Int.ofNat r18.length) 0 r18 r17 []) fun r16=>.i (decide (Int.ofNat r16.2.length>1024)) (.k ((⟨[],[]⟩:Relation),6)) (.k ((⟨r16.1,r16.2⟩:Relation),0))))
def zec (r:Relation):Bool×(Relation×Int):=(zjx r).fin default
def zpt (r:Relation×Int):ARes ty:=⟨[.pure (.agg (base.enc 73 r.1)),.pure (.lit (.int .i64 r.2))],[]⟩
def zrb:AL base (Relation×Unit):=zf (zg (vAgg 73)) aNil
def zoN:Ab.Spec ty:=zn zrb fun x=>((zec x.1).1,zpt (zec x.1).2)
theorem zvX:Sound Tryz.prog base 35 zoN:=
 zy (cx':=zk9) zH zo zD (zB ⟨zty,zzI,zw1,zmz,zoz,ziu,zkO,zpQ,zlL,zx9,zyD,trivial⟩) Tryz.call35 Tryz.func35 (c:=body Tryz.f35) (by kernel_rfl) (zi (l:=[lp (body Tryz.f35) 0,lp (body Tryz.f35) 1]) (by kernel_rfl) ⟨zxb,zv7,trivial⟩) (sg:=⟨[.pure,.pure],[]⟩) (A:=zrb) (res:=zpt) (W:=fun x=>zjx x.1) (z:=default)
def zI9 (k:Go.Value) (l:List (Go.Value×Int)):Option Int:=mget (ty:=ty) (V:=3) k l
def zI4 (k:Go.Value) (l:List (Go.Value×Int)):Bool:=mhas (ty:=ty) (V:=3) k l
def zuS (k:Go.Value) (x:Int) (l:List (Go.Value×Int)):List (Go.Value×Int):=mset (ty:=ty) (V:=3) k x l
def zEF (k:Go.Value) (x:Bool) (l:List (Go.Value×Bool)):List (Go.Value×Bool):=mset (ty:=ty) (V:=4) k x l
def zdf (x:List Value):Bool×List Value:=zBQ (fun a b=>zbc a b) x
def slices_SortFunc_Lapi_Value_api_Value_spec:Ab.Spec ty:=zn (cx:=base) (zf (aOwn 40) (zf (zg (vFn 79 (vNil))) aNil)) fun x=>((zdf x.1).1,⟨[],[some ⟨40,(zdf x.1).2⟩]⟩)
theorem zmB (c:Unit) (x y:Value) (h:(zbc x y).1=true):zcc ((AV.agg (base.enc 40 x)::AV.agg (base.enc 40 y)::(vNil:VL base (Unit)).enc c).map Arg.pure)=some (true,⟨[.pure (.lit (.int .i64 (zbc x y).2))],[]⟩):=by
 rw [← h]; kernel_rfl
theorem zlj:Sound Tryz.prog base 78 slices_SortFunc_Lapi_Value_api_Value_spec:=by
 letI:DecidableEq (ty 40):=inferInstanceAs (DecidableEq Value)
 exact zFT (T:=40) zo rfl Go.Proofs.Tryz.sortVal Tryz.isAgg40 (by unfold szOf; exact Tryz.sizeOf40) Tryz.call78 zcr (vNil) (fun c=>fun a b=>zbc a b) zmB
abbrev ttTstatisticscolumn0:=Unit×Unit×Int×Unit×Unit×Int×Int×Unit
abbrev ttTstatisticscolumn1:=List Value×(Int×Int×Int×ByteArray×Int×Int×ByteArray×Unit×Unit)×(List (_root_.Go.Value×Bool))×Unit
abbrev ttTstatisticscolumn2:=Int×List Value×Int×Int×Int×ByteArray×Int×Int×ByteArray×(List (_root_.Go.Value×Bool))
abbrev ttTstatisticscolumn3:=Unit×Unit×Int×Unit×Int×Unit
abbrev ttTstatisticscolumn4:=List Value×(Int×Int×Int×ByteArray×Int×Int×ByteArray×Unit×Unit)×(Int×Int×Int×ByteArray×Int×Int×ByteArray×Unit×Unit)×List Value×Unit
abbrev ttTstatisticscolumn5:=Int×Int×Int×ByteArray×Int×Int×ByteArray×Int×Int×Int×ByteArray×Int×Int×ByteArray×List Value
def zmy (n_:Int) (t18:Int) (t19:Int) (l:List Value) (t2_0:Int) (t2_1:Int) (t2_2:Int) (t2_3:ByteArray) (t2_4:Int) (t2_5:Int) (t2_6:ByteArray) (seen:List (_root_.Go.Value×Bool)):Wy ttTstatisticscolumn0 ttTstatisticscolumn1 ttTstatisticscolumn2:=.i (decide (t19<t18)) (.i (decide (0≤t19)&&decide (t19<Int.ofNat l.length)) (.h ((),(),n_,(),(),t18,(IntKind.i64.wrap (t19+1)),()) (l,(t2_0,t2_1,t2_2,t2_3,t2_4,t2_5,t2_6,(),()),(zEF (Value.agg #[Value.int IntKind.i64 (l.getD t19.toNat default).Kind,Value.int IntKind.i64 (l.getD t19.toNat default).Int,Value.string (l.getD t19.toNat default).Text]) true seen),())) .d) (.k (n_,l,t2_0,t2_1,t2_2,t2_3,t2_4,t2_5,t2_6,seen))
def zjl (x:ttTstatisticscolumn0) (y:ttTstatisticscolumn1):Wy ttTstatisticscolumn0 ttTstatisticscolumn1 ttTstatisticscolumn2:=zmy x.2.2.1 x.2.2.2.2.2.1 x.2.2.2.2.2.2.1 y.1 y.2.1.1 y.2.1.2.1 y.2.1.2.2.1 y.2.1.2.2.2.1 y.2.1.2.2.2.2.1 y.2.1.2.2.2.2.2.1 y.2.1.2.2.2.2.2.2.1 y.2.2.1
def zmD (n:Nat) (n_:Int) (t18:Int) (t19:Int) (l:List Value) (t2_0:Int) (t2_1:Int) (t2_2:Int) (t2_3:ByteArray) (t2_4:Int) (t2_5:Int) (t2_6:ByteArray) (seen:List (_root_.Go.Value×Bool)):Bool×ttTstatisticscolumn2:=zO (zjl) default n ((),(),n_,(),(),t18,t19,()) (l,(t2_0,t2_1,t2_2,t2_3,t2_4,t2_5,t2_6,(),()),seen,())
def zqy (r:ttTstatisticscolumn2):LTree ty:=.done (.exit 0) [.own 224,.ptr 225 0,.lit (.int .i64 r.1),.mp 226] [.arr 40 r.2.1 false,.box ([.lit (.int .i64 r.2.2.1),.lit (.int .i64 r.2.2.2.1),.lit (.int .i64 r.2.2.2.2.1),.lit (.string r.2.2.2.2.2.1),.lit (.int .i64 r.2.2.2.2.2.2.1),.lit (.int .i64 r.2.2.2.2.2.2.2.1),.lit (.string r.2.2.2.2.2.2.2.2.1),.lit (.slice none 0 0)]) false,.mp 40 4 r.2.2.2.2.2.2.2.2.2 false]
def zrn:LL ty ttTstatisticscolumn0:=za (lOwn 224) (za (zcF 225 0) (za (lInt .i64) (za (lMp 226) (za (lOwn 224) (za (lInt .i64) (za (lInt .i64) zF))))))
def zrZ:BL ty ttTstatisticscolumn1:=bArr 40 false (bBox (za (lInt .i64) (za (lInt .i64) (za (lInt .i64) (za lStr (za (lInt .i64) (za (lInt .i64) (za lStr (za lNil zF)))))))) false (bMp 40 4 false (bNil)))
def zly (n_:Int) (i:Int) (l:List Value) (t2_0:Int) (t2_1:Int) (t2_2:Int) (t2_3:ByteArray) (t2_4:Int) (t2_5:Int) (t2_6:ByteArray) (c_0:Int) (c_1:Int) (c_2:Int) (c_3:ByteArray) (c_4:Int) (c_5:Int) (c_6:ByteArray) (b3:List Value):Wy ttTstatisticscolumn3 ttTstatisticscolumn4 ttTstatisticscolumn5:=.i (decide (i≤8)) (.i (decide (0≤IntKind.i64.wrap (IntKind.i64.wrap ((IntKind.i64.wrap (IntKind.i64.wrap (i*n_)+7)).tdiv 8) - 1))&&decide (IntKind.i64.wrap (IntKind.i64.wrap ((IntKind.i64.wrap (IntKind.i64.wrap (i*n_)+7)).tdiv 8) - 1)<Int.ofNat l.length)) (.i (decide ((b3.length+[l.getD (IntKind.i64.wrap (IntKind.i64.wrap ((IntKind.i64.wrap (IntKind.i64.wrap (i*n_)+7)).tdiv 8) - 1)).toNat default].length)*32≤reach)) (.h ((),(),n_,(),(IntKind.i64.wrap (i+1)),()) (l,(t2_0,t2_1,t2_2,t2_3,t2_4,t2_5,t2_6,(),()),(c_0,c_1,c_2,c_3,c_4,c_5,c_6,(),()),(b3++[l.getD (IntKind.i64.wrap (IntKind.i64.wrap ((IntKind.i64.wrap (IntKind.i64.wrap (i*n_)+7)).tdiv 8) - 1)).toNat default]),())) .d) .d) (.k (t2_0,t2_1,t2_2,t2_3,t2_4,t2_5,t2_6,c_0,c_1,c_2,c_3,c_4,c_5,c_6,b3))
def ziJ (x:ttTstatisticscolumn3) (y:ttTstatisticscolumn4):Wy ttTstatisticscolumn3 ttTstatisticscolumn4 ttTstatisticscolumn5:=zly x.2.2.1 x.2.2.2.2.1 y.1 y.2.1.1 y.2.1.2.1 y.2.1.2.2.1 y.2.1.2.2.2.1 y.2.1.2.2.2.2.1 y.2.1.2.2.2.2.2.1 y.2.1.2.2.2.2.2.2.1 y.2.2.1.1 y.2.2.1.2.1 y.2.2.1.2.2.1 y.2.2.1.2.2.2.1 y.2.2.1.2.2.2.2.1 y.2.2.1.2.2.2.2.2.1 y.2.2.1.2.2.2.2.2.2.1 y.2.2.2.1
def zlg (n:Nat) (n_:Int) (i:Int) (l:List Value) (t2_0:Int) (t2_1:Int) (t2_2:Int) (t2_3:ByteArray) (t2_4:Int) (t2_5:Int) (t2_6:ByteArray) (c_0:Int) (c_1:Int) (c_2:Int) (c_3:ByteArray) (c_4:Int) (c_5:Int) (c_6:ByteArray) (b3:List Value):Bool×ttTstatisticscolumn5:=zO (ziJ) default n ((),(),n_,(),i,()) (l,(t2_0,t2_1,t2_2,t2_3,t2_4,t2_5,t2_6,(),()),(c_0,c_1,c_2,c_3,c_4,c_5,c_6,(),()),b3,())
def zpH (r:ttTstatisticscolumn5):LTree ty:=.done (.exit 2) [.ptr 224 0,.ptr 225 0] [.box ([.lit (.int .i64 r.1),.lit (.int .i64 r.2.1),.lit (.int .i64 r.2.2.1),.lit (.string r.2.2.2.1),.lit (.int .i64 r.2.2.2.2.1),.lit (.int .i64 r.2.2.2.2.2.1),.lit (.string r.2.2.2.2.2.2.1),.lit (.slice none 0 0)]) false,.box ([.lit (.int .i64 r.2.2.2.2.2.2.2.1),.lit (.int .i64 r.2.2.2.2.2.2.2.2.1),.lit (.int .i64 r.2.2.2.2.2.2.2.2.2.1),.lit (.string r.2.2.2.2.2.2.2.2.2.2.1),.lit (.int .i64 r.2.2.2.2.2.2.2.2.2.2.2.1),.lit (.int .i64 r.2.2.2.2.2.2.2.2.2.2.2.2.1),.lit (.string r.2.2.2.2.2.2.2.2.2.2.2.2.2.1),.own 226]) false,.arr 40 r.2.2.2.2.2.2.2.2.2.2.2.2.2.2 false]
def zqW:LL ty ttTstatisticscolumn3:=za (lOwn 224) (za (zcF 225 0) (za (lInt .i64) (za (zcF 226 0) (za (lInt .i64) zF))))
def zqx:BL ty ttTstatisticscolumn4:=bArr 40 false (bBox (za (lInt .i64) (za (lInt .i64) (za (lInt .i64) (za lStr (za (lInt .i64) (za (lInt .i64) (za lStr (za lNil zF)))))))) false (bBox (za (lInt .i64) (za (lInt .i64) (za (lInt .i64) (za lStr (za (lInt .i64) (za (lInt .i64) (za lStr (za (lOwn 227) zF)))))))) false (bArr 40 false (bNil))))
def zqR (x:ttTstatisticscolumn0) (y:ttTstatisticscolumn1):Nat:=(Int.toNat x.2.2.1+Int.toNat x.2.2.2.2.2.1+Int.toNat x.2.2.2.2.2.2.1+y.1.length+Int.toNat y.2.1.1+Int.toNat y.2.1.2.1+Int.toNat y.2.1.2.2.1+y.2.1.2.2.2.1.size+Int.toNat y.2.1.2.2.2.2.1+Int.toNat y.2.1.2.2.2.2.2.1+y.2.1.2.2.2.2.2.2.1.size+y.2.2.1.length+1000)
def zpN (x:ttTstatisticscolumn3) (y:ttTstatisticscolumn4):Nat:=(Int.toNat x.2.2.1+Int.toNat x.2.2.2.2.1+y.1.length+Int.toNat y.2.1.1+Int.toNat y.2.1.2.1+Int.toNat y.2.1.2.2.1+y.2.1.2.2.2.1.size+Int.toNat y.2.1.2.2.2.2.1+Int.toNat y.2.1.2.2.2.2.2.1+y.2.1.2.2.2.2.2.2.1.size+Int.toNat y.2.2.1.1+Int.toNat y.2.2.1.2.1+Int.toNat y.2.2.1.2.2.1+y.2.2.1.2.2.2.1.size+Int.toNat y.2.2.1.2.2.2.2.1+Int.toNat y.2.2.1.2.2.2.2.2.1+y.2.2.1.2.2.2.2.2.2.1.size+y.2.2.2.1.length+1000)
def zmE:Cx ty:=mkCx base 56 [(78,slices_SortFunc_Lapi_Value_api_Value_spec),(79,zcc)] [(78,[true,false])] [(7,[(0,.keep),(2,.keep),(3,.keep),(4,.keep),(17,.keep),(18,.keep),(19,.keep)]),(13,[(0,.keep),(2,.keep),(3,.keep),(7,.boxOwn [(7,40)]),(8,.keep)])] [(7,1,[(0,.keep),(2,.keep),(3,.keep),(4,.keep)]),(13,3,[(2,.keep),(7,.keep)])] [(7,spW zrn zrZ (zjl) default zqy zqR),(13,spW zqW zqx (ziJ) default zpH zpN)] []
theorem zxN:zX zmE (lp (body Tryz.f36) 0):=zN (id:=7) (V:=zrn) (B:=zrZ) (W:=zjl) (z:=default) (tr:=zqy) (m:=zqR)
theorem zw2:zX zmE (lp (body Tryz.f36) 1):=zN (id:=13) (V:=zqW) (B:=zqx) (W:=ziJ) (z:=default) (tr:=zpH) (m:=zpN)
def znb (l:List Value):Wy0 (ColumnStats):=.i (Int.ofNat l.length==0) (.k (⟨0,(⟨0,0,ByteArray.mk #[]⟩:Value),(⟨0,0,ByteArray.mk #[]⟩:Value),[]⟩:ColumnStats)) (.bn (zdf l) fun r2=>.bn (zmD ((Int.ofNat l.length).toNat +(Int.ofNat r2.length).toNat +Int.toNat 0+r2.length+Int.toNat 0+Int.toNat 0+Int.toNat 0+(ByteArray.mk #[]).size+Int.toNat 0+Int.toNat 0+(ByteArray.mk #[]).size+0+1000) (Int.ofNat l.length) (Int.ofNat r2.length) 0 r2 0 0 0 (ByteArray.mk #[]) 0 0 (ByteArray.mk #[]) []) fun r1=>.i (decide ((0:Int)≤(0:Int))&&decide (0<Int.ofNat r1.2.1.length)) (.i (decide (0≤IntKind.i64.wrap (r1.1 - 1))&&decide (IntKind.i64.wrap (r1.1 - 1)<Int.ofNat r1.2.1.length)) (.bn (zlg (r1.1.toNat +Int.toNat 1+r1.2.1.length+r1.2.2.1.toNat +r1.2.2.2.1.toNat +r1.2.2.2.2.1.toNat +r1.2.2.2.2.2.1.size+r1.2.2.2.2.2.2.1.toNat +r1.2.2.2.2.2.2.2.1.toNat +r1.2.2.2.2.2.2.2.2.1.size+(Int.ofNat r1.2.2.2.2.2.2.2.2.2.length).toNat +(r1.2.1.getD (Int.toNat 0) default).Kind.toNat +(r1.2.1.getD (Int.toNat 0) default).Int.toNat +(r1.2.1.getD (Int.toNat 0) default).Text.size+(r1.2.1.getD (IntKind.i64.wrap (r1.1 - 1)).toNat default).Kind.toNat +(r1.2.1.getD (IntKind.i64.wrap (r1.1 - 1)).toNat default).Int.toNat +(r1.2.1.getD (IntKind.i64.wrap (r1.1 - 1)).toNat default).Text.size+0+1000) r1.1 1 r1.2.1 r1.2.2.1 r1.2.2.2.1 r1.2.2.2.2.1 r1.2.2.2.2.2.1 r1.2.2.2.2.2.2.1 r1.2.2.2.2.2.2.2.1 r1.2.2.2.2.2.2.2.2.1 (Int.ofNat r1.2.2.2.2.2.2.2.2.2.length) (r1.2.1.getD (Int.toNat 0) default).Kind (r1.2.1.getD (Int.toNat 0) default).Int (r1.2.1.getD (Int.toNat 0) default).Text (r1.2.1.getD (IntKind.i64.wrap (r1.1 - 1)).toNat default).Kind (r1.2.1.getD (IntKind.i64.wrap (r1.1 - 1)).toNat default).Int (r1.2.1.getD (IntKind.i64.wrap (r1.1 - 1)).toNat default).Text []) fun r0=>.k (⟨r0.2.2.2.2.2.2.2.1,(⟨r0.2.2.2.2.2.2.2.2.1,r0.2.2.2.2.2.2.2.2.2.1,r0.2.2.2.2.2.2.2.2.2.2.1⟩:Value),(⟨r0.2.2.2.2.2.2.2.2.2.2.2.1,r0.2.2.2.2.2.2.2.2.2.2.2.2.1,r0.2.2.2.2.2.2.2.2.2.2.2.2.2.1⟩:Value),r0.2.2.2.2.2.2.2.2.2.2.2.2.2.2⟩:ColumnStats)) .d) .d)
def zjd (l:List Value):Bool×ColumnStats:=(znb l).fin default
def zqi (r:ColumnStats):ARes ty:=⟨[.pure (.agg (base.enc 43 r))],[none]⟩
def zss:AL base (List Value×Unit):=zf (aOwn 40) aNil
def zpU:Ab.Spec ty:=zn zss fun x=>((zjd x.1).1,zqi (zjd x.1).2)
theorem zwc:Sound Tryz.prog base 36 zpU:=
 zy (cx':=zmE) zH zo zD (zB ⟨zlj,zcr,trivial⟩) Tryz.call36 Tryz.func36 (c:=body Tryz.f36) (by kernel_rfl) (zi (l:=[lp (body Tryz.f36) 0,lp (body Tryz.f36) 1]) (by kernel_rfl) ⟨zxN,zw2,trivial⟩) (sg:=⟨[.pure],[false]⟩) (A:=zss) (res:=zqi) (W:=fun x=>znb x.1) (z:=default)
abbrev ttTstatisticsGather0:=Unit×Unit×Unit×Int×Int×Unit
abbrev ttTstatisticsGather1:=Table×(Int×Int×Unit×Unit)×List Row×Unit
abbrev ttTstatisticsGather2:=(Int×Int)⊕(Table×Int×Int)
abbrev ttTstatisticsGather3:=Unit×Unit×Unit×Int×Unit×Int×Int×List Row×Int×Int×Unit
abbrev ttTstatisticsGather4:=Table×(Int×Int×Unit×Unit)×(Int×Int×Unit×Unit)×List Value×List ColumnStats×Unit
abbrev ttTstatisticsGather5:=Int×Int×Table×Int×Int×Int×Int×List Value×List ColumnStats
abbrev ttTstatisticsGather6:=Table×(Int×Int×Unit×Unit)×(Int×Int×Unit×Unit)×List ColumnStats×Unit
abbrev ttTstatisticsGather7:=Int×Int×Int×Int×List ColumnStats
def zht (t23:Int) (t24:Int) (t:Table) (t2_0:Int) (t2_1:Int) (t22:List Row):Wy ttTstatisticsGather0 ttTstatisticsGather1 ttTstatisticsGather2:=.i (decide (t24<t23)) (.i (decide (0≤t24)&&decide (t24<Int.ofNat t22.length)) (.bn (zec (Relation.mk t.Columns [Row.mk (t22.getD t24.toNat default).Values []])) fun r4=>.i (r4.2 != 0) (.k (.inl (0,0))) (.h ((),(),(),t23,(IntKind.i64.wrap (t24+1)),()) (t,(t2_0,t2_1,(),()),t22,()))) .d) (.k (.inr (t,t2_0,t2_1)))
def zjk (x:ttTstatisticsGather0) (y:ttTstatisticsGather1):Wy ttTstatisticsGather0 ttTstatisticsGather1 ttTstatisticsGather2:=zht x.2.2.2.1 x.2.2.2.2.1 y.1 y.2.1.1 y.2.1.2.1 y.2.2.1
def zry (n:Nat) (t23:Int) (t24:Int) (t:Table) (t2_0:Int) (t2_1:Int) (t22:List Row):Bool×ttTstatisticsGather2:=zO (zjk) (.inl default) n ((),(),(),t23,t24,()) (t,(t2_0,t2_1,(),()),t22,())
def zqo (r:ttTstatisticsGather2):LTree ty:=.ite (isL r) (.done .ret [.ptr 360 0] [.box ([.lit (.int .i64 ((getL r).1)),.lit (.int .i64 ((getL r).2)),.lit (.slice none 0 0)]) false]) (.done (.exit 0) [.ptr 360 0,.ptr 361 0] [.box (base.enc 25 (getR r).1) false,.box ([.lit (.int .i64 (getR r).2.1),.lit (.int .i64 (getR r).2.2),.lit (.slice none 0 0)]) false])
def zrk:LL ty ttTstatisticsGather0:=za (zcF 360 0) (za (zcF 361 0) (za (lOwn 362) (za (lInt .i64) (za (lInt .i64) zF))))
def zrX:BL ty ttTstatisticsGather1:=bBox (zex (fun x=>(⟨x.1,x.2.1,x.2.2.1,x.2.2.2.1⟩:Table)) (fun x=>(x.ID,x.Name,x.Columns,x.Rows,())) (fun _=>rfl) (za (lInt .i64) (za lStr (za (lSl 67) (za (lSl 38) zF))))) false (bBox (za (lInt .i64) (za (lInt .i64) (za lNil zF))) false (bArr 38 false (bNil)))
def zls (i:Int) (t61:Int) (t62:Int) (t66:List Row) (t67:Int) (t68:Int) (t:Table) (t2_0:Int) (t2_1:Int) (s_0:Int) (s_1:Int) (l:List Value) (b4:List ColumnStats):Wy ttTstatisticsGather3 ttTstatisticsGather4 ttTstatisticsGather5:=.i (decide (t68<t67)) (.i (decide (0≤t68)&&decide (t68<Int.ofNat t66.length)) (.i (decide (0≤i)&&decide (i<Int.ofNat (t66.getD t68.toNat default).Values.length)) (.i (decide ((l.length+[(t66.getD t68.toNat default).Values.getD i.toNat default].length)*32≤reach)) (.h ((),(),(),i,(),t61,t62,t66,t67,(IntKind.i64.wrap (t68+1)),()) (t,(t2_0,t2_1,(),()),(s_0,s_1,(),()),(l++[(t66.getD t68.toNat default).Values.getD i.toNat default]),b4,())) .d) .d) .d) (.k (t61,t62,t,t2_0,t2_1,s_0,s_1,l,b4))
def ziN (x:ttTstatisticsGather3) (y:ttTstatisticsGather4):Wy ttTstatisticsGather3 ttTstatisticsGather4 ttTstatisticsGather5:=zls x.2.2.2.1 x.2.2.2.2.2.1 x.2.2.2.2.2.2.1 x.2.2.2.2.2.2.2.1 x.2.2.2.2.2.2.2.2.1 x.2.2.2.2.2.2.2.2.2.1 y.1 y.2.1.1 y.2.1.2.1 y.2.2.1.1 y.2.2.1.2.1 y.2.2.2.1 y.2.2.2.2.1
def zlv (n:Nat) (i:Int) (t61:Int) (t62:Int) (t66:List Row) (t67:Int) (t68:Int) (t:Table) (t2_0:Int) (t2_1:Int) (s_0:Int) (s_1:Int) (l:List Value) (b4:List ColumnStats):Bool×ttTstatisticsGather5:=zO (ziN) default n ((),(),(),i,(),t61,t62,t66,t67,t68,()) (t,(t2_0,t2_1,(),()),(s_0,s_1,(),()),l,b4,())
def zpy (r:ttTstatisticsGather5):LTree ty:=.done (.exit 4) [.ptr 360 0,.ptr 361 0,.ptr 362 0,.own 363,.lit (.int .i64 r.1),.lit (.int .i64 r.2.1)] [.box (base.enc 25 r.2.2.1) false,.box ([.lit (.int .i64 r.2.2.2.1),.lit (.int .i64 r.2.2.2.2.1),.lit (.slice none 0 0)]) false,.box ([.lit (.int .i64 r.2.2.2.2.2.1),.lit (.int .i64 r.2.2.2.2.2.2.1),.own 364]) false,.arr 40 r.2.2.2.2.2.2.2.1 false,.arr 43 r.2.2.2.2.2.2.2.2 false]
def zqr:LL ty ttTstatisticsGather3:=za (zcF 360 0) (za (zcF 361 0) (za (zcF 362 0) (za (lInt .i64) (za (lOwn 363) (za (lInt .i64) (za (lInt .i64) (za (lSl 38) (za (lInt .i64) (za (lInt .i64) zF)))))))))
def zqm:BL ty ttTstatisticsGather4:=bBox (zex (fun x=>(⟨x.1,x.2.1,x.2.2.1,x.2.2.2.1⟩:Table)) (fun x=>(x.ID,x.Name,x.Columns,x.Rows,())) (fun _=>rfl) (za (lInt .i64) (za lStr (za (lSl 67) (za (lSl 38) zF))))) false (bBox (za (lInt .i64) (za (lInt .i64) (za lNil zF))) false (bBox (za (lInt .i64) (za (lInt .i64) (za (lOwn 364) zF))) false (bArr 40 false (bArr 43 false (bNil)))))
def zlk (t61:Int) (t62:Int) (t:Table) (t2_0:Int) (t2_1:Int) (s_0:Int) (s_1:Int) (b3:List ColumnStats):Wy ttTstatisticsGather0 ttTstatisticsGather6 ttTstatisticsGather7:=.i (decide (t62<t61)) (.bn (zlv (t62.toNat +t61.toNat +t62.toNat +t.Rows.length+(Int.ofNat t.Rows.length).toNat +Int.toNat 0+t.Columns.length+t.Rows.length+t2_0.toNat +t2_1.toNat +s_0.toNat +s_1.toNat +0+b3.length+1000) t62 t61 t62 t.Rows (Int.ofNat t.Rows.length) 0 t t2_0 t2_1 s_0 s_1 [] b3) fun r7=>.bn (zjd r7.2.2.2.2.2.2.2.1) fun r6=>.i (decide ((r7.2.2.2.2.2.2.2.2.length+[r6].length)*96≤reach)) (.h ((),(),(),(r7.1),(IntKind.i64.wrap (r7.2.1+1)),()) ((r7.2.2.1),((r7.2.2.2.1),(r7.2.2.2.2.1),(),()),((r7.2.2.2.2.2.1),(r7.2.2.2.2.2.2.1),(),()),(r7.2.2.2.2.2.2.2.2++[r6]),())) .d) (.k (t2_0,t2_1,s_0,s_1,b3))
def ziI (x:ttTstatisticsGather0) (y:ttTstatisticsGather6):Wy ttTstatisticsGather0 ttTstatisticsGather6 ttTstatisticsGather7:=zlk x.2.2.2.1 x.2.2.2.2.1 y.1 y.2.1.1 y.2.1.2.1 y.2.2.1.1 y.2.2.1.2.1 y.2.2.2.1
def zlm (n:Nat) (t61:Int) (t62:Int) (t:Table) (t2_0:Int) (t2_1:Int) (s_0:Int) (s_1:Int) (b3:List ColumnStats):Bool×ttTstatisticsGather7:=zO (ziI) default n ((),(),(),t61,t62,()) (t,(t2_0,t2_1,(),()),(s_0,s_1,(),()),b3,())
def zpn (r:ttTstatisticsGather7):LTree ty:=.done (.exit 2) [.ptr 360 0,.ptr 361 0] [.box ([.lit (.int .i64 r.1),.lit (.int .i64 r.2.1),.lit (.slice none 0 0)]) false,.box ([.lit (.int .i64 r.2.2.1),.lit (.int .i64 r.2.2.2.1),.own 362]) false,.arr 43 r.2.2.2.2 false]
def zqf:LL ty ttTstatisticsGather0:=za (zcF 360 0) (za (zcF 361 0) (za (zcF 362 0) (za (lInt .i64) (za (lInt .i64) zF))))
def zqG:BL ty ttTstatisticsGather6:=bBox (zex (fun x=>(⟨x.1,x.2.1,x.2.2.1,x.2.2.2.1⟩:Table)) (fun x=>(x.ID,x.Name,x.Columns,x.Rows,())) (fun _=>rfl) (za (lInt .i64) (za lStr (za (lSl 67) (za (lSl 38) zF))))) false (bBox (za (lInt .i64) (za (lInt .i64) (za lNil zF))) false (bBox (za (lInt .i64) (za (lInt .i64) (za (lOwn 363) zF))) false (bArr 43 false (bNil))))
def zqw (x:ttTstatisticsGather0) (y:ttTstatisticsGather1):Nat:=(Int.toNat x.2.2.2.1+Int.toNat x.2.2.2.2.1+y.1.Columns.length+y.1.Rows.length+Int.toNat y.2.1.1+Int.toNat y.2.1.2.1+y.2.2.1.length+1000)
def zpP (x:ttTstatisticsGather3) (y:ttTstatisticsGather4):Nat:=(Int.toNat x.2.2.2.1+Int.toNat x.2.2.2.2.2.1+Int.toNat x.2.2.2.2.2.2.1+x.2.2.2.2.2.2.2.1.length+Int.toNat x.2.2.2.2.2.2.2.2.1+Int.toNat x.2.2.2.2.2.2.2.2.2.1+y.1.Columns.length+y.1.Rows.length+Int.toNat y.2.1.1+Int.toNat y.2.1.2.1+Int.toNat y.2.2.1.1+Int.toNat y.2.2.1.2.1+y.2.2.2.1.length+y.2.2.2.2.1.length+1000)
def zpx (x:ttTstatisticsGather0) (y:ttTstatisticsGather6):Nat:=(Int.toNat x.2.2.2.1+Int.toNat x.2.2.2.2.1+y.1.Columns.length+y.1.Rows.length+Int.toNat y.2.1.1+Int.toNat y.2.1.2.1+Int.toNat y.2.2.1.1+Int.toNat y.2.2.1.2.1+y.2.2.2.1.length+1000)
def zjy:Cx ty:=mkCx base 90 [(35,zoN),(36,zpU)] [(36,[true])] [(4,[(1,.keep),(2,.keep),(22,.keep),(23,.keep),(24,.keep)]),(15,[(1,.keep),(2,.keep),(9,.boxOwn [(2,43)]),(61,.keep),(62,.keep)]),(19,[(1,.keep),(2,.keep),(9,.keep),(10,.keep),(11,.own 40),(61,.keep),(62,.keep),(66,.keep),(67,.keep),(68,.keep)])] [(4,1,[(1,.keep),(2,.keep)]),(4,0,[(2,.keep)]),(15,3,[(2,.keep),(9,.keep)]),(19,5,[(1,.keep),(2,.keep),(9,.keep),(11,.keep),(61,.keep),(62,.keep)])] [(4,spW zrk zrX (zjk) (.inl default) zqo zqw),(19,spW zqr zqm (ziN) default zpy zpP),(15,spW zqf zqG (ziI) default zpn zpx)] []
theorem zxP:zX zjy (lp (body Tryz.f12) 0):=zN (id:=4) (V:=zrk) (B:=zrX) (W:=zjk) (z:=.inl default) (tr:=zqo) (m:=zqw)
theorem zw6:zX zjy (lp (body Tryz.f12) 2):=zN (id:=19) (V:=zqr) (B:=zqm) (W:=ziN) (z:=default) (tr:=zpy) (m:=zpP)
theorem zw5:zX zjy (lp (body Tryz.f12) 1):=zN (id:=15) (V:=zqf) (B:=zqG) (W:=ziI) (z:=default) (tr:=zpn) (m:=zpx)
def zm9 (t:Table):Wy0 (Stats):=.i (decide (Int.ofNat t.Rows.length>1000000)) (.k (⟨0,0,[]⟩:Stats)) (.i (decide ((0+t.Rows.length)*48≤reach)) (.bn (zry ((Int.ofNat ([]++t.Rows).length).toNat +Int.toNat 0+t.Columns.length+t.Rows.length+Int.toNat 0+Int.toNat 0+([]++t.Rows).length+1000) (Int.ofNat ([]++t.Rows).length) 0 t 0 0 ([]++t.Rows)) fun r12=>.i (isL r12) (.k (⟨(getL r12).1,(getL r12).2,[]⟩:Stats)) (.bn (zec (Relation.mk (getR r12).1.Columns [])) fun r11=>.i (r11.2 != 0) (.k (⟨0,0,[]⟩:Stats)) (.bn (zlm ((Int.ofNat (getR r12).1.Columns.length).toNat +Int.toNat 0+(getR r12).1.Columns.length+(getR r12).1.Rows.length+(getR r12).2.1.toNat +(getR r12).2.2.toNat +(getR r12).1.ID.toNat +(Int.ofNat (getR r12).1.Rows.length).toNat +0+1000) (Int.ofNat (getR r12).1.Columns.length) 0 (getR r12).1 (getR r12).2.1 (getR r12).2.2 (getR r12).1.ID (Int.ofNat (getR r12).1.Rows.length) []) fun r10=>.k (⟨r10.2.2.1,r10.2.2.2.1,r10.2.2.2.2⟩:Stats)))) .d)
def zjf (t:Table):Bool×Stats:=(zm9 t).fin default
def zqU (r:Stats):ARes ty:=⟨[.pure (.agg (base.enc 30 r))],[]⟩
def zsk:AL base (Table×Unit):=zf (zg (vAgg 25)) aNil
def zkM:Ab.Spec ty:=zn zsk fun x=>((zjf x.1).1,zqU (zjf x.1).2)
theorem zoP:Sound Tryz.prog base 12 zkM:=
 zy (cx':=zjy) zH zo zD (zB ⟨zvX,zwc,trivial⟩) Tryz.call12 Tryz.func12 (c:=body Tryz.f12) (by kernel_rfl) (zi (l:=[lp (body Tryz.f12) 0,lp (body Tryz.f12) 1,lp (body Tryz.f12) 2]) (by kernel_rfl) ⟨zxP,zw5,zw6,trivial⟩) (sg:=⟨[.pure],[]⟩) (A:=zsk) (res:=zqU) (W:=fun x=>zm9 x.1) (z:=default)
def zkT (r:Int):ARes ty:=⟨[.pure (.lit (.int .i64 r))],[]⟩
def zml:AL base (estimator×Scalar×Unit):=zf (zg (vAgg 88)) (zf (zg (vAgg 47)) aNil)
def zd2 (F:estimator→Scalar→Bool×Int):Ab.Spec ty:=zn zml fun x=>((F x.1 x.2.1).1,zkT (F x.1 x.2.1).2)
def zq0:Cx ty:=mkCx base 39 [] [] [] [] [] []
def zhu (x_:estimator) (op:Int) (i:Int) (k:Int):Wy0 (Int):=.i (decide (x_.s.Rows>0)) (.i (decide (0≤i)&&decide (i<Int.ofNat x_.s.Columns.length)) (.i (decide (0≤k)&&decide (k<Int.ofNat x_.s.Columns.length)) (.i (!decide ((if (x_.s.Columns.getD k.toNat default).Distinct>(x_.s.Columns.getD i.toNat default).Distinct then (x_.s.Columns.getD k.toNat default).Distinct else (x_.s.Columns.getD i.toNat default).Distinct)=0)) (.i (op==5) (.k (if IntKind.i64.wrap (Int.tdiv 1000 (if (x_.s.Columns.getD k.toNat default).Distinct>(x_.s.Columns.getD i.toNat default).Distinct then (x_.s.Columns.getD k.toNat default).Distinct else (x_.s.Columns.getD i.toNat default).Distinct))>1 then IntKind.i64.wrap (Int.tdiv 1000 (if (x_.s.Columns.getD k.toNat default).Distinct>(x_.s.Columns.getD i.toNat default).Distinct then (x_.s.Columns.getD k.toNat default).Distinct else (x_.s.Columns.getD i.toNat default).Distinct)) else 1)) (.i (op==6) (.k (IntKind.i64.wrap (1000 - if IntKind.i64.wrap (Int.tdiv 1000 (if (x_.s.Columns.getD k.toNat default).Distinct>(x_.s.Columns.getD i.toNat default).Distinct then (x_.s.Columns.getD k.toNat default).Distinct else (x_.s.Columns.getD i.toNat default).Distinct))>1 then IntKind.i64.wrap (Int.tdiv 1000 (if (x_.s.Columns.getD k.toNat default).Distinct>(x_.s.Columns.getD i.toNat default).Distinct then (x_.s.Columns.getD k.toNat default).Distinct else (x_.s.Columns.getD i.toNat default).Distinct)) else 1))) (.k 333))) .d) .d) .d) (.i (op==5) (.k 0) (.i (op==6) (.k (IntKind.i64.wrap (1000 - 0))) (.k 333)))
def zbH (x_:estimator) (op:Int) (i:Int) (k:Int):Bool×Int:=(zhu x_ op i k).fin default
def zjY (r:Int):ARes ty:=⟨[.pure (.lit (.int .i64 r))],[]⟩
def zkw:AL base (estimator×Int×Int×Int×Unit):=zf (zg (vAgg 88)) (zf (zg (vInt .i64)) (zf (zg (vInt .i64)) (zf (zg (vInt .i64)) aNil)))
def zjD:Ab.Spec ty:=zn zkw fun x=>((zbH x.1 x.2.1 x.2.2.1 x.2.2.2.1).1,zjY (zbH x.1 x.2.1 x.2.2.1 x.2.2.2.1).2)
theorem zpj:Sound Tryz.prog base 127 zjD:=
 zy (cx':=zq0) zH zo zD (zB trivial) Tryz.call127 Tryz.func127 (c:=body Tryz.f127) (by kernel_rfl) (zi (l:=[]) (by kernel_rfl) trivial) (sg:=⟨[.pure],[]⟩) (A:=zkw) (res:=zjY) (W:=fun x=>zhu x.1 x.2.1 x.2.2.1 x.2.2.2.1) (z:=default)
def ztZ:Cx ty:=mkCx base 36 [(79,zcc)] [] [] [] [] []
def zji (x_:estimator) (i:Int) (v:Value):Wy0 (Int):=.i (decide (0≤i)&&decide (i<Int.ofNat x_.s.Columns.length)) (.i (x_.s.Rows==0) (.k 0) (.bn (zbc v (x_.s.Columns.getD i.toNat default).Min) fun r1=>.i (decide (r1<0)) (.k 0) (.bn (zbc v (x_.s.Columns.getD i.toNat default).Max) fun r0=>.i (decide (r0>0)) (.k 0) (.i (!decide ((x_.s.Columns.getD i.toNat default).Distinct=0)) (.k (if IntKind.i64.wrap (Int.tdiv 1000 (x_.s.Columns.getD i.toNat default).Distinct)>1 then IntKind.i64.wrap (Int.tdiv 1000 (x_.s.Columns.getD i.toNat default).Distinct) else 1)) .d)))) .d
def zcu (x_:estimator) (i:Int) (v:Value):Bool×Int:=(zji x_ i v).fin default
def zmb (r:Int):ARes ty:=⟨[.pure (.lit (.int .i64 r))],[]⟩
def znm:AL base (estimator×Int×Value×Unit):=zf (zg (vAgg 88)) (zf (zg (vInt .i64)) (zf (zg (vAgg 40)) aNil))
def zfU:Ab.Spec ty:=zn znm fun x=>((zcu x.1 x.2.1 x.2.2.1).1,zmb (zcu x.1 x.2.1 x.2.2.1).2)
theorem zhK:Sound Tryz.prog base 87 zfU:=
 zy (cx':=ztZ) zH zo zD (zB ⟨zcr,trivial⟩) Tryz.call87 Tryz.func87 (c:=body Tryz.f87) (by kernel_rfl) (zi (l:=[]) (by kernel_rfl) trivial) (sg:=⟨[.pure],[]⟩) (A:=znm) (res:=zmb) (W:=fun x=>zji x.1 x.2.1 x.2.2.1) (z:=default)
abbrev ttTstatisticsestimatorlt0:=Unit×Int×List Value×Int×Int×Unit
def ziT (n_:Int) (t16:List Value) (t17:Int) (t18:Int) (v:Value):Wy ttTstatisticsestimatorlt0 (Value×Unit) (Int):=.i (decide (t18<t17)) (.i (decide (0≤t18)&&decide (t18<Int.ofNat t16.length)) (.bn (zbc (t16.getD t18.toNat default) v) fun r0=>.i (decide (r0<0)) (.h ((),(IntKind.i64.wrap (n_+125)),t16,t17,(IntKind.i64.wrap (t18+1)),()) (v,())) (.h ((),n_,t16,t17,(IntKind.i64.wrap (t18+1)),()) (v,()))) .d) (.k n_)
def ziW (x:ttTstatisticsestimatorlt0) (y:Value×Unit):Wy ttTstatisticsestimatorlt0 (Value×Unit) (Int):=ziT x.2.1 x.2.2.1 x.2.2.2.1 x.2.2.2.2.1 y.1
def zgR (n:Nat) (n_:Int) (t16:List Value) (t17:Int) (t18:Int) (v:Value):Bool×Int:=zO (ziW) default n ((),n_,t16,t17,t18,()) (v,())
def zl0 (r:Int):LTree ty:=.done (.exit 0) [.lit (.int .i64 r)] []
def zmM:LL ty ttTstatisticsestimatorlt0:=za (zcF 120 0) (za (lInt .i64) (za (lSl 40) (za (lInt .i64) (za (lInt .i64) zF))))
def zmO:BL ty (Value×Unit):=bBox (zex (fun x=>(⟨x.1,x.2.1,x.2.2.1⟩:Value)) (fun x=>(x.Kind,x.Int,x.Text,())) (fun _=>rfl) (za (lInt .i64) (za (lInt .i64) (za lStr zF)))) false (bNil)
def zlX (x:ttTstatisticsestimatorlt0) (y:Value×Unit):Nat:=(Int.toNat x.2.1+x.2.2.1.length+Int.toNat x.2.2.2.1+Int.toNat x.2.2.2.2.1+1000)
def zm2:Cx ty:=mkCx base 30 [(79,zcc)] [] [(3,[(5,.keep),(7,.keep),(16,.keep),(17,.keep),(18,.keep)])] [(3,1,[(7,.keep)])] [(3,spW zmM zmO (ziW) default zl0 zlX)] []
theorem ztU:zX zm2 (lp (body Tryz.f60) 0):=zN (id:=3) (V:=zmM) (B:=zmO) (W:=ziW) (z:=default) (tr:=zl0) (m:=zlX)
def zjs (x_:estimator) (i:Int) (v:Value):Wy0 (Int):=.i (decide (0≤i)&&decide (i<Int.ofNat x_.s.Columns.length)) (.bn (zgR (Int.toNat 0+(x_.s.Columns.getD i.toNat default).Bounds.length+(Int.ofNat (x_.s.Columns.getD i.toNat default).Bounds.length).toNat +Int.toNat 0+1000) 0 (x_.s.Columns.getD i.toNat default).Bounds (Int.ofNat (x_.s.Columns.getD i.toNat default).Bounds.length) 0 v) fun r2=>.k r2) .d
def zc1 (x_:estimator) (i:Int) (v:Value):Bool×Int:=(zjs x_ i v).fin default
def zlU (r:Int):ARes ty:=⟨[.pure (.lit (.int .i64 r))],[]⟩
def znl:AL base (estimator×Int×Value×Unit):=zf (zg (vAgg 88)) (zf (zg (vInt .i64)) (zf (zg (vAgg 40)) aNil))
def zh4:Ab.Spec ty:=zn znl fun x=>((zc1 x.1 x.2.1 x.2.2.1).1,zlU (zc1 x.1 x.2.1 x.2.2.1).2)
theorem zkR:Sound Tryz.prog base 60 zh4:=
 zy (cx':=zm2) zH zo zD (zB ⟨zcr,trivial⟩) Tryz.call60 Tryz.func60 (c:=body Tryz.f60) (by kernel_rfl) (zi (l:=[lp (body Tryz.f60) 0]) (by kernel_rfl) ⟨ztU,trivial⟩) (sg:=⟨[.pure],[]⟩) (A:=znl) (res:=zlU) (W:=fun x=>zjs x.1 x.2.1 x.2.2.1) (z:=default)
def zue:Cx ty:=mkCx base 17 [(60,zh4),(87,zfU)] [] [] [] [] []
def zjj (x_:estimator) (i:Int) (v:Value):Wy0 (Int):=.bn (zc1 x_ i v) fun r1=>.bn (zcu x_ i v) fun r0=>.k (if IntKind.i64.wrap (r1+r0)<1000 then IntKind.i64.wrap (r1+r0) else 1000)
def zed (x_:estimator) (i:Int) (v:Value):Bool×Int:=(zjj x_ i v).fin default
def zmd (r:Int):ARes ty:=⟨[.pure (.lit (.int .i64 r))],[]⟩
def znw:AL base (estimator×Int×Value×Unit):=zf (zg (vAgg 88)) (zf (zg (vInt .i64)) (zf (zg (vAgg 40)) aNil))
def zlx:Ab.Spec ty:=zn znw fun x=>((zed x.1 x.2.1 x.2.2.1).1,zmd (zed x.1 x.2.1 x.2.2.1).2)
theorem zr2:Sound Tryz.prog base 61 zlx:=
 zy (cx':=zue) zH zo zD (zB ⟨zkR,zhK,trivial⟩) Tryz.call61 Tryz.func61 (c:=body Tryz.f61) (by kernel_rfl) (zi (l:=[]) (by kernel_rfl) trivial) (sg:=⟨[.pure],[]⟩) (A:=znw) (res:=zmd) (W:=fun x=>zjj x.1 x.2.1 x.2.2.1) (z:=default)
def zq3:Cx ty:=mkCx base 47 [(60,zh4),(61,zlx),(87,zfU)] [] [] [] [] []
def zhq (x_:estimator) (op:Int) (i:Int) (v:Value):Wy0 (Int):=.i (op==5) (.bn (zcu x_ i v) fun r0=>.k r0) (.i (op==6) (.bn (zcu x_ i v) fun r1=>.k (IntKind.i64.wrap (1000 - r1))) (.i (op==7) (.bn (zc1 x_ i v) fun r2=>.k r2) (.i (op==8) (.bn (zed x_ i v) fun r3=>.k r3) (.i (op==9) (.bn (zed x_ i v) fun r4=>.k (IntKind.i64.wrap (1000 - r4))) (.bn (zc1 x_ i v) fun r5=>.k (IntKind.i64.wrap (1000 - r5)))))))
def zbG (x_:estimator) (op:Int) (i:Int) (v:Value):Bool×Int:=(zhq x_ op i v).fin default
def zjT (r:Int):ARes ty:=⟨[.pure (.lit (.int .i64 r))],[]⟩
def zkB:AL base (estimator×Int×Int×Value×Unit):=zf (zg (vAgg 88)) (zf (zg (vInt .i64)) (zf (zg (vInt .i64)) (zf (zg (vAgg 40)) aNil)))
def zjB:Ab.Spec ty:=zn zkB fun x=>((zbG x.1 x.2.1 x.2.2.1 x.2.2.2.1).1,zjT (zbG x.1 x.2.1 x.2.2.1 x.2.2.2.1).2)
theorem zo7:Sound Tryz.prog base 128 zjB:=
 zy (cx':=zq3) zH zo zD (zB ⟨zkR,zr2,zhK,trivial⟩) Tryz.call128 Tryz.func128 (c:=body Tryz.f128) (by kernel_rfl) (zi (l:=[]) (by kernel_rfl) trivial) (sg:=⟨[.pure],[]⟩) (A:=zkB) (res:=zjT) (W:=fun x=>zhq x.1 x.2.1 x.2.2.1 x.2.2.2.1) (z:=default)
def zti:Cx ty:=mkCx base 15 [] [] [] [] [] []
def ziZ (x_:estimator) (i:Int):Wy0 (Bool):=.i (decide (i≥0)) (.k (decide (i<Int.ofNat x_.s.Columns.length))) (.k false)
def zbO (x_:estimator) (i:Int):Bool×Bool:=(ziZ x_ i).fin default
def zlG (r:Bool):ARes ty:=⟨[.pure (.lit (.bool r))],[]⟩
def zm3:AL base (estimator×Int×Unit):=zf (zg (vAgg 88)) (zf (zg (vInt .i64)) aNil)
def zhI:Ab.Spec ty:=zn zm3 fun x=>((zbO x.1 x.2.1).1,zlG (zbO x.1 x.2.1).2)
theorem zkr:Sound Tryz.prog base 59 zhI:=
 zy (cx':=zti) zH zo zD (zB trivial) Tryz.call59 Tryz.func59 (c:=body Tryz.f59) (by kernel_rfl) (zi (l:=[]) (by kernel_rfl) trivial) (sg:=⟨[.pure],[]⟩) (A:=zm3) (res:=zlG) (W:=fun x=>ziZ x.1 x.2.1) (z:=default)
def zxk:Cx ty:=mkCx base 17 [] [] [] [] [] []
def zlH (op:Int):Wy0 (Int):=.i (zI4 (Value.int IntKind.i64 op) (zuS (Value.int IntKind.i64 10) 8 (zuS (Value.int IntKind.i64 8) 10 (zuS (Value.int IntKind.i64 9) 7 (zuS (Value.int IntKind.i64 7) 9 []))))) (.k ((zI9 (Value.int IntKind.i64 op) (zuS (Value.int IntKind.i64 10) 8 (zuS (Value.int IntKind.i64 8) 10 (zuS (Value.int IntKind.i64 9) 7 (zuS (Value.int IntKind.i64 7) 9 []))))).getD 0)) (.k op)
def zhX (op:Int):Bool×Int:=(zlH op).fin default
def zoR (r:Int):ARes ty:=⟨[.pure (.lit (.int .i64 r))],[]⟩
def zqO:AL base (Int×Unit):=zf (zg (vInt .i64)) aNil
def zog:Ab.Spec ty:=zn zqO fun x=>((zhX x.1).1,zoR (zhX x.1).2)
theorem zuI:Sound Tryz.prog base 126 zog:=
 zy (cx':=zxk) zH zo zD (zB trivial) Tryz.call126 Tryz.func126 (c:=body Tryz.f126) (by kernel_rfl) (zi (l:=[]) (by kernel_rfl) trivial) (sg:=⟨[.pure],[]⟩) (A:=zqO) (res:=zoR) (W:=fun x=>zlH x.1) (z:=default)
def zpi:Cx ty:=mkCx base 63 [(59,zhI),(126,zog),(127,zjD),(128,zjB)] [] [] [] [] []
def zgF (x_:estimator) (op:Int) (a:Scalar) (b:Scalar):Wy0 (Int):=.i (a.Kind==0) (.bn (zhX op) fun r6=>.i (b.Kind != 1) (.k 333) (.i (a.Kind==2) (.k 333) (.bn (zbO x_ b.Column) fun r5=>.i (!r5) (.k 333) (.i (a.Kind==1) (.bn (zbO x_ a.Column) fun r2=>.i (!r2) (.k 333) (.i (a.Kind==1) (.bn (zbH x_ r6 b.Column a.Column) fun r0=>.k r0) (.i (a.Kind==0) (.bn (zbG x_ r6 b.Column a.Value) fun r1=>.k r1) (.k 333)))) (.i (a.Kind==1) (.bn (zbH x_ r6 b.Column a.Column) fun r3=>.k r3) (.i (a.Kind==0) (.bn (zbG x_ r6 b.Column a.Value) fun r4=>.k r4) (.k 333))))))) (.i (a.Kind != 1) (.k 333) (.i (b.Kind==2) (.k 333) (.bn (zbO x_ a.Column) fun r12=>.i (!r12) (.k 333) (.i (b.Kind==1) (.bn (zbO x_ b.Column) fun r9=>.i (!r9) (.k 333) (.i (b.Kind==1) (.bn (zbH x_ op a.Column b.Column) fun r7=>.k r7) (.i (b.Kind==0) (.bn (zbG x_ op a.Column b.Value) fun r8=>.k r8) (.k 333)))) (.i (b.Kind==1) (.bn (zbH x_ op a.Column b.Column) fun r10=>.k r10) (.i (b.Kind==0) (.bn (zbG x_ op a.Column b.Value) fun r11=>.k r11) (.k 333)))))))
def zbn (x_:estimator) (op:Int) (a:Scalar) (b:Scalar):Bool×Int:=(zgF x_ op a b).fin default
def ziO (r:Int):ARes ty:=⟨[.pure (.lit (.int .i64 r))],[]⟩
def zjE:AL base (estimator×Int×Scalar×Scalar×Unit):=zf (zg (vAgg 88)) (zf (zg (vInt .i64)) (zf (zg (vAgg 47)) (zf (zg (vAgg 47)) aNil)))
def zim:Ab.Spec ty:=zn zjE fun x=>((zbn x.1 x.2.1 x.2.2.1 x.2.2.2.1).1,ziO (zbn x.1 x.2.1 x.2.2.1 x.2.2.2.1).2)
theorem znL:Sound Tryz.prog base 88 zim:=
 zy (cx':=zpi) zH zo zD (zB ⟨zkr,zuI,zpj,zo7,trivial⟩) Tryz.call88 Tryz.func88 (c:=body Tryz.f88) (by kernel_rfl) (zi (l:=[]) (by kernel_rfl) trivial) (sg:=⟨[.pure],[]⟩) (A:=zjE) (res:=ziO) (W:=fun x=>zgF x.1 x.2.1 x.2.2.1 x.2.2.2.1) (z:=default)
def zru (zu:estimator→Scalar→Bool×Int):Cx ty:=mkCx base 121 [(46,(zd2 zu)),(59,zhI),(87,zfU),(88,zim)] [] [] [] [] []
def zhH (zu:estimator→Scalar→Bool×Int) (x_:estimator) (e:Scalar):Wy0 (Int):=.i (e.Kind==0) (.i (e.Value.Kind==2&&(e.Value.Int==1&&(e.Value.Text.toList==(ByteArray.mk #[]).toList&&true))) (.k 1000) (.k 0)) (.i (e.Kind==1) (.bn (zbO x_ e.Column) fun r12=>.i (r12) (.bn (zcu x_ e.Column (Value.mk 2 1 (ByteArray.mk #[]))) fun r0=>.k r0) (.i (e.Kind != 2) (.k 333) (.i (e.Op==13) (.i (Int.ofNat e.Args.length==1) (.i (decide ((0:Int)≤(0:Int))&&decide (0<Int.ofNat e.Args.length)) (.bn (zu x_ (Scalar.mk (e.Args.getD (Int.toNat 0) default).Kind (e.Args.getD (Int.toNat 0) default).Column (e.Args.getD (Int.toNat 0) default).Value (e.Args.getD (Int.toNat 0) default).Op (e.Args.getD (Int.toNat 0) default).Args)) fun r1=>.k (IntKind.i64.wrap (1000 - r1))) .d) (.i (Int.ofNat e.Args.length != 2) (.k 333) (.i (e.Op==11) (.i (decide ((0:Int)≤(0:Int))&&decide (0<Int.ofNat e.Args.length)) (.bn (zu x_ (Scalar.mk (e.Args.getD (Int.toNat 0) default).Kind (e.Args.getD (Int.toNat 0) default).Column (e.Args.getD (Int.toNat 0) default).Value (e.Args.getD (Int.toNat 0) default).Op (e.Args.getD (Int.toNat 0) default).Args)) fun r3=>.i (decide ((0:Int)≤(1:Int))&&decide (1<Int.ofNat e.Args.length)) (.bn (zu x_ (Scalar.mk (e.Args.getD (Int.toNat 1) default).Kind (e.Args.getD (Int.toNat 1) default).Column (e.Args.getD (Int.toNat 1) default).Value (e.Args.getD (Int.toNat 1) default).Op (e.Args.getD (Int.toNat 1) default).Args)) fun r2=>.k (IntKind.i64.wrap ((IntKind.i64.wrap (r3*r2)).tdiv 1000))) .d) .d) (.i (e.Op==12) (.i (decide ((0:Int)≤(0:Int))&&decide (0<Int.ofNat e.Args.length)) (.bn (zu x_ (Scalar.mk (e.Args.getD (Int.toNat 0) default).Kind (e.Args.getD (Int.toNat 0) default).Column (e.Args.getD (Int.toNat 0) default).Value (e.Args.getD (Int.toNat 0) default).Op (e.Args.getD (Int.toNat 0) default).Args)) fun r5=>.i (decide ((0:Int)≤(1:Int))&&decide (1<Int.ofNat e.Args.length)) (.bn (zu x_ (Scalar.mk (e.Args.getD (Int.toNat 1) default).Kind (e.Args.getD (Int.toNat 1) default).Column (e.Args.getD (Int.toNat 1) default).Value (e.Args.getD (Int.toNat 1) default).Op (e.Args.getD (Int.toNat 1) default).Args)) fun r4=>.k (IntKind.i64.wrap (IntKind.i64.wrap (r5+r4) - IntKind.i64.wrap ((IntKind.i64.wrap (r5*r4)).tdiv 1000)))) .d) .d) (.i (decide (e.Op≥5)) (.i (decide (e.Op≤10)) (.i (decide ((0:Int)≤(0:Int))&&decide (0<Int.ofNat e.Args.length)) (.i (decide ((0:Int)≤(1:Int))&&decide (1<Int.ofNat e.Args.length)) (.bn (zbn x_ e.Op (Scalar.mk (e.Args.getD (Int.toNat 0) default).Kind (e.Args.getD (Int.toNat 0) default).Column (e.Args.getD (Int.toNat 0) default).Value (e.Args.getD (Int.toNat 0) default).Op (e.Args.getD (Int.toNat 0) default).Args) (Scalar.mk (e.Args.getD (Int.toNat 1) default).Kind (e.Args.getD (Int.toNat 1) default).Column (e.Args.getD (Int.toNat 1) default).Value (e.Args.getD (Int.toNat 1) default).Op (e.Args.getD (Int.toNat 1) default).Args)) fun r6=>.k r6) .d) .d) (.k 333)) (.k 333)))))) (.i (Int.ofNat e.Args.length != 2) (.k 333) (.i (e.Op==11) (.i (decide ((0:Int)≤(0:Int))&&decide (0<Int.ofNat e.Args.length)) (.bn (zu x_ (Scalar.mk (e.Args.getD (Int.toNat 0) default).Kind (e.Args.getD (Int.toNat 0) default).Column (e.Args.getD (Int.toNat 0) default).Value (e.Args.getD (Int.toNat 0) default).Op (e.Args.getD (Int.toNat 0) default).Args)) fun r8=>.i (decide ((0:Int)≤(1:Int))&&decide (1<Int.ofNat e.Args.length)) (.bn (zu x_ (Scalar.mk (e.Args.getD (Int.toNat 1) default).Kind (e.Args.getD (Int.toNat 1) default).Column (e.Args.getD (Int.toNat 1) default).Value (e.Args.getD (Int.toNat 1) default).Op (e.Args.getD (Int.toNat 1) default).Args)) fun r7=>.k (IntKind.i64.wrap ((IntKind.i64.wrap (r8*r7)).tdiv 1000))) .d) .d) (.i (e.Op==12) (.i (decide ((0:Int)≤(0:Int))&&decide (0<Int.ofNat e.Args.length)) (.bn (zu x_ (Scalar.mk (e.Args.getD (Int.toNat 0) default).Kind (e.Args.getD (Int.toNat 0) default).Column (e.Args.getD (Int.toNat 0) default).Value (e.Args.getD (Int.toNat 0) default).Op (e.Args.getD (Int.toNat 0) default).Args)) fun r10=>.i (decide ((0:Int)≤(1:Int))&&decide (1<Int.ofNat e.Args.length)) (.bn (zu x_ (Scalar.mk (e.Args.getD (Int.toNat 1) default).Kind (e.Args.getD (Int.toNat 1) default).Column (e.Args.getD (Int.toNat 1) default).Value (e.Args.getD (Int.toNat 1) default).Op (e.Args.getD (Int.toNat 1) default).Args)) fun r9=>.k (IntKind.i64.wrap (IntKind.i64.wrap (r10+r9) - IntKind.i64.wrap ((IntKind.i64.wrap (r10*r9)).tdiv 1000)))) .d) .d) (.i (decide (e.Op≥5)) (.i (decide (e.Op≤10)) (.i (decide ((0:Int)≤(0:Int))&&decide (0<Int.ofNat e.Args.length)) (.i (decide ((0:Int)≤(1:Int))&&decide (1<Int.ofNat e.Args.length)) (.bn (zbn x_ e.Op (Scalar.mk (e.Args.getD (Int.toNat 0) default).Kind (e.Args.getD (Int.toNat 0) default).Column (e.Args.getD (Int.toNat 0) default).Value (e.Args.getD (Int.toNat 0) default).Op (e.Args.getD (Int.toNat 0) default).Args) (Scalar.mk (e.Args.getD (Int.toNat 1) default).Kind (e.Args.getD (Int.toNat 1) default).Column (e.Args.getD (Int.toNat 1) default).Value (e.Args.getD (Int.toNat 1) default).Op (e.Args.getD (Int.toNat 1) default).Args)) fun r11=>.k r11) .d) .d) (.k 333)) (.k 333)))))))) (.i (e.Kind != 2) (.k 333) (.i (e.Op==13) (.i (Int.ofNat e.Args.length==1) (.i (decide ((0:Int)≤(0:Int))&&decide (0<Int.ofNat e.Args.length)) (.bn (zu x_ (Scalar.mk (e.Args.getD (Int.toNat 0) default).Kind (e.Args.getD (Int.toNat 0) default).Column (e.Args.getD (Int.toNat 0) default).Value (e.Args.getD (Int.toNat 0) default).Op (e.Args.getD (Int.toNat 0) default).Args)) fun r13=>.k (IntKind.i64.wrap (1000 - r13))) .d) (.i (Int.ofNat e.Args.length != 2) (.k 333) (.i (e.Op==11) (.i (decide ((0:Int)≤(0:Int))&&decide (0<Int.ofNat e.Args.length)) (.bn (zu x_ (Scalar.mk (e.Args.getD (Int.toNat 0) default).Kind (e.Args.getD (Int.toNat 0) default).Column (e.Args.getD (Int.toNat 0) default).Value (e.Args.getD (Int.toNat 0) default).Op (e.Args.getD (Int.toNat 0) default).Args)) fun r15=>.i (decide ((0:Int)≤(1:Int))&&decide (1<Int.ofNat e.Args.length)) (.bn (zu x_ (Scalar.mk (e.Args.getD (Int.toNat 1) default).Kind (e.Args.getD (Int.toNat 1) default).Column (e.Args.getD (Int.toNat 1) default).Value (e.Args.getD (Int.toNat 1) default).Op (e.Args.getD (Int.toNat 1) default).Args)) fun r14=>.k (IntKind.i64.wrap ((IntKind.i64.wrap (r15*r14)).tdiv 1000))) .d) .d) (.i (e.Op==12) (.i (decide ((0:Int)≤(0:Int))&&decide (0<Int.ofNat e.Args.length)) (.bn (zu x_ (Scalar.mk (e.Args.getD (Int.toNat 0) default).Kind (e.Args.getD (Int.toNat 0) default).Column (e.Args.getD (Int.toNat 0) default).Value (e.Args.getD (Int.toNat 0) default).Op (e.Args.getD (Int.toNat 0) default).Args)) fun r17=>.i (decide ((0:Int)≤(1:Int))&&decide (1<Int.ofNat e.Args.length)) (.bn (zu x_ (Scalar.mk (e.Args.getD (Int.toNat 1) default).Kind (e.Args.getD (Int.toNat 1) default).Column (e.Args.getD (Int.toNat 1) default).Value (e.Args.getD (Int.toNat 1) default).Op (e.Args.getD (Int.toNat 1) default).Args)) fun r16=>.k (IntKind.i64.wrap (IntKind.i64.wrap (r17+r16) - IntKind.i64.wrap ((IntKind.i64.wrap (r17*r16)).tdiv 1000)))) .d) .d) (.i (decide (e.Op≥5)) (.i (decide (e.Op≤10)) (.i (decide ((0:Int)≤(0:Int))&&decide (0<Int.ofNat e.Args.length)) (.i (decide ((0:Int)≤(1:Int))&&decide (1<Int.ofNat e.Args.length)) (.bn (zbn x_ e.Op (Scalar.mk (e.Args.getD (Int.toNat 0) default).Kind (e.Args.getD (Int.toNat 0) default).Column (e.Args.getD (Int.toNat 0) default).Value (e.Args.getD (Int.toNat 0) default).Op (e.Args.getD (Int.toNat 0) default).Args) (Scalar.mk (e.Args.getD (Int.toNat 1) default).Kind (e.Args.getD (Int.toNat 1) default).Column (e.Args.getD (Int.toNat 1) default).Value (e.Args.getD (Int.toNat 1) default).Op (e.Args.getD (Int.toNat 1) default).Args)) fun r18=>.k r18) .d) .d) (.k 333)) (.k 333)))))) (.i (Int.ofNat e.Args.length != 2) (.k 333) (.i (e.Op==11) (.i (decide ((0:Int)≤(0:Int))&&decide (0<Int.ofNat e.Args.length)) (.bn (zu x_ (Scalar.mk (e.Args.getD (Int.toNat 0) default).Kind (e.Args.getD (Int.toNat 0) default).Column (e.Args.getD (Int.toNat 0) default).Value (e.Args.getD (Int.toNat 0) default).Op (e.Args.getD (Int.toNat 0) default).Args)) fun r20=>.i (decide ((0:Int)≤(1:Int))&&decide (1<Int.ofNat e.Args.length)) (.bn (zu x_ (Scalar.mk (e.Args.getD (Int.toNat 1) default).Kind (e.Args.getD (Int.toNat 1) default).Column (e.Args.getD (Int.toNat 1) default).Value (e.Args.getD (Int.toNat 1) default).Op (e.Args.getD (Int.toNat 1) default).Args)) fun r19=>.k (IntKind.i64.wrap ((IntKind.i64.wrap (r20*r19)).tdiv 1000))) .d) .d) (.i (e.Op==12) (.i (decide ((0:Int)≤(0:Int))&&decide (0<Int.ofNat e.Args.length)) (.bn (zu x_ (Scalar.mk (e.Args.getD (Int.toNat 0) default).Kind (e.Args.getD (Int.toNat 0) default).Column (e.Args.getD (Int.toNat 0) default).Value (e.Args.getD (Int.toNat 0) default).Op (e.Args.getD (Int.toNat 0) default).Args)) fun r22=>.i (decide ((0:Int)≤(1:Int))&&decide (1<Int.ofNat e.Args.length)) (.bn (zu x_ (Scalar.mk (e.Args.getD (Int.toNat 1) default).Kind (e.Args.getD (Int.toNat 1) default).Column (e.Args.getD (Int.toNat 1) default).Value (e.Args.getD (Int.toNat 1) default).Op (e.Args.getD (Int.toNat 1) default).Args)) fun r21=>.k (IntKind.i64.wrap (IntKind.i64.wrap (r22+r21) - IntKind.i64.wrap ((IntKind.i64.wrap (r22*r21)).tdiv 1000)))) .d) .d) (.i (decide (e.Op≥5)) (.i (decide (e.Op≤10)) (.i (decide ((0:Int)≤(0:Int))&&decide (0<Int.ofNat e.Args.length)) (.i (decide ((0:Int)≤(1:Int))&&decide (1<Int.ofNat e.Args.length)) (.bn (zbn x_ e.Op (Scalar.mk (e.Args.getD (Int.toNat 0) default).Kind (e.Args.getD (Int.toNat 0) default).Column (e.Args.getD (Int.toNat 0) default).Value (e.Args.getD (Int.toNat 0) default).Op (e.Args.getD (Int.toNat 0) default).Args) (Scalar.mk (e.Args.getD (Int.toNat 1) default).Kind (e.Args.getD (Int.toNat 1) default).Column (e.Args.getD (Int.toNat 1) default).Value (e.Args.getD (Int.toNat 1) default).Op (e.Args.getD (Int.toNat 1) default).Args)) fun r23=>.k r23) .d) .d) (.k 333)) (.k 333))))))))
def zd3 (zu:estimator→Scalar→Bool×Int) (x_:estimator) (e:Scalar):Bool×Int:=(zhH zu x_ e).fin default
theorem zpm (zu:estimator→Scalar→Bool×Int) (zr8:Sound Tryz.prog base 46 (zd2 zu)):Sound Tryz.prog base 46 (zd2 (zd3 zu)):=
 zy (cx':=(zru zu)) zH zo zD (zB ⟨zr8,zkr,zhK,znL,trivial⟩) Tryz.call46 Tryz.func46 (c:=body Tryz.f46) (by kernel_rfl) (zi (l:=[]) (by kernel_rfl) trivial) (sg:=⟨[.pure],[]⟩) (A:=zml) (res:=zkT) (W:=fun x=>zhH zu x.1 x.2.1) (z:=default)
def zFl:Nat→(estimator→Scalar→Bool×Int)
 | 0=>fun _ _=>(false,default)
 | n+1=>zd3 (zFl n)
def zcU (n:Nat):estimator→Scalar→Bool×Int:=zFl n
theorem zrQ (n:Nat):zcU (n+1)=zd3 (zcU n):=rfl
theorem zDc:∀ n,Sound Tryz.prog base 46 (zd2 (zcU n))
 | 0=>zbp Tryz.call46 (fun _=>rfl)
 | n+1=>by
  have ih:=zDc n
  exact zpm _ (ih)
def zjm:estimator→Scalar→Bool×Int:=zcU 1000
def statistics_estimator_cond_spec:Ab.Spec ty:=zd2 zjm
theorem zq4:Sound Tryz.prog base 46 statistics_estimator_cond_spec:=(zDc 1000)
def zuT:Cx ty:=mkCx base 12 [(15,ziK),(46,statistics_estimator_cond_spec)] [] [] [] [] []
def zj0 (s:Stats) (cond:Scalar):Wy0 (Int):=.bn (zh6 s) fun r1=>.i (!r1) (.k 0) (.bn (zjm (estimator.mk s) (Scalar.mk cond.Kind cond.Column cond.Value cond.Op cond.Args)) fun r0=>.k r0)
def zcK (s:Stats) (cond:Scalar):Bool×Int:=(zj0 s cond).fin default
def zm0 (r:Int):ARes ty:=⟨[.pure (.lit (.int .i64 r))],[]⟩
def zoo:AL base (Stats×Scalar×Unit):=zf (zg (vAgg 30)) (zf (zg (vAgg 47)) aNil)
def ziA:Ab.Spec ty:=zn zoo fun x=>((zcK x.1 x.2.1).1,zm0 (zcK x.1 x.2.1).2)
theorem zlF:Sound Tryz.prog base 19 ziA:=
 zy (cx':=zuT) zH zo zD (zB ⟨zkL,zq4,trivial⟩) Tryz.call19 Tryz.func19 (c:=body Tryz.f19) (by kernel_rfl) (zi (l:=[]) (by kernel_rfl) trivial) (sg:=⟨[.pure],[]⟩) (A:=zoo) (res:=zm0) (W:=fun x=>zj0 x.1 x.2.1) (z:=default)
abbrev ttTlaw37awake0:=Unit×Unit×Int×Int×Unit
abbrev ttTlaw37awake1:=(Int×ByteArray×Unit×Unit×Unit)×List Int×List Column×List Row×Unit
abbrev ttTlaw37awake2:=Int×ByteArray×List Column×List Row
def zDE (t10:Int) (t11:Int) (t_0:Int) (t_1:ByteArray) (t9:List Int) (b2:List Column) (b3:List Row):Wy ttTlaw37awake0 ttTlaw37awake1 ttTlaw37awake2:=.i (decide (t11<t10)) (.i (decide (0≤t11)&&decide (t11<Int.ofNat t9.length)) (.i (decide ((b3.length+[Row.mk [(zp2 (t9.getD t11.toNat default)).2] []].length)*48≤reach)) (.h ((),(),t10,(IntKind.i64.wrap (t11+1)),()) ((t_0,t_1,(),(),()),t9,b2,(b3++[Row.mk [(zp2 (t9.getD t11.toNat default)).2] []]),())) .d) .d) (.k (t_0,t_1,b2,b3))
def zyl (x:ttTlaw37awake0) (y:ttTlaw37awake1):Wy ttTlaw37awake0 ttTlaw37awake1 ttTlaw37awake2:=zDE x.2.2.1 x.2.2.2.1 y.1.1 y.1.2.1 y.2.1 y.2.2.1 y.2.2.2.1
def zwK (r:ttTlaw37awake2):LTree ty:=.done (.exit 0) [.ptr 368 0] [.box ([.lit (.int .i64 r.1),.lit (.string r.2.1),.own 369,.own 370]) false,.arr 67 r.2.2.1 false,.arr 38 r.2.2.2 false]
def zxI:LL ty ttTlaw37awake0:=za (zcF 368 0) (za (lOwn 369) (za (lInt .i64) (za (lInt .i64) zF)))
def zxF:BL ty ttTlaw37awake1:=bBox (za (lInt .i64) (za lStr (za (lOwn 370) (za (lOwn 371) zF)))) false (bArr 2 false (bArr 67 false (bArr 38 false (bNil))))
def zwz (x:ttTlaw37awake0) (y:ttTlaw37awake1):Nat:=(Int.toNat x.2.2.1+Int.toNat x.2.2.2.1+Int.toNat y.1.1+y.1.2.1.size+y.2.1.length+y.2.2.1.length+y.2.2.2.1.length+1000)
def zxC:Cx ty:=mkCx base0 92 [(12,zkM),(15,ziK),(19,ziA),(21,zn6),(24,zpo),(32,ztC),(33,zwM)] [] [(3,[(1,.boxOwn [(3,38)]),(9,.keep),(10,.keep),(11,.keep)])] [(3,1,[(1,.keep)])] [(3,spW zxI zxF (zyl) default zwK zwz)] []
theorem zC3:zX zxC (lp (body Tryz.f10) 0):=zN (id:=3) (V:=zxI) (B:=zxF) (W:=zyl) (z:=default) (tr:=zwK) (m:=zwz)
def zzl:Wy0 (Bool):=.k true
def zBp:Bool×Bool:=(zzl).fin default
def zwq (r:Bool):ARes ty:=⟨[.pure (.lit (.bool r))],[]⟩
def zzv:AL base0 (Unit):=aNil
def zvA:Ab.Spec ty:=zn zzv fun x=>((zBp ).1,zwq (zBp ).2)
theorem zBa:Sound Tryz.prog base0 10 zvA:=
 zy (cx':=zxC) zH zsA zD (zB ⟨zoP.nodr,zkL.nodr,zlF.nodr,zr9.nodr,zwf,zzM.nodr,zBN.nodr,trivial⟩) Tryz.call10 Tryz.func10 (c:=body Tryz.f10) (by kernel_rfl) (zi (l:=[lp (body Tryz.f10) 0]) (by kernel_rfl) ⟨zC3,trivial⟩) (sg:=⟨[.pure],[]⟩) (A:=zzv) (res:=zwq) (W:=fun x=>zzl ) (z:=default)
abbrev ttTref01Short0:=List Value×Int×Int×Unit
abbrev ttTref01Short1:=Bool⊕(List Value×Int)
def zsL (l:List Value) (n_:Int) (i:Int):Wy ttTref01Short0 (Unit) ttTref01Short1:=.i (decide (i<Int.ofNat l.length)) (.i (decide (0≤i)&&decide (i<Int.ofNat l.length)) (.i (decide (Int.ofNat (l.getD i.toNat default).Text.size>300)) (.k (.inl false)) (.h (l,n_,(IntKind.i64.wrap (i+1)),()) ())) .d) (.k (.inr (l,n_)))
def zsC (x:ttTref01Short0) (y:Unit):Wy ttTref01Short0 (Unit) ttTref01Short1:=zsL x.1 x.2.1 x.2.2.1
def zsQ (n:Nat) (l:List Value) (n_:Int) (i:Int):Bool×ttTref01Short1:=zO (zsC) (.inl default) n (l,n_,i,()) ()
def zwr (r:ttTref01Short1):LTree ty:=.ite (isL r) (.done .ret [.lit (.bool (getL r))] []) (.done (.exit 0) [.sl 40 (getR r).1,.lit (.int .i64 (getR r).2)] [])
def zyc:LL ty ttTref01Short0:=za (lSl 40) (za (lInt .i64) (za (lInt .i64) zF))
def zx4:BL ty (Unit):=bNil
def zwG (x:ttTref01Short0) (y:Unit):Nat:=(x.1.length+Int.toNat x.2.1+Int.toNat x.2.2.1+1)
def zyj:Cx ty:=mkCx base 23 [] [] [(2,[(0,.keep),(1,.keep),(5,.keep)])] [(2,1,[(0,.keep),(1,.keep)]),(2,0,[(4,.keep)])] [(2,spW zyc zx4 (zsC) (.inl default) zwr zwG)] []
theorem zCm:zX zyj (lp (body Tryz.f27) 0):=zN (id:=2) (V:=zyc) (B:=zx4) (W:=zsC) (z:=.inl default) (tr:=zwr) (m:=zwG)
def zt1 (l:List Value) (n_:Int):Wy0 (Bool):=.bn (zsQ (l.length+n_.toNat +Int.toNat 0+1) l n_ 0) fun r0=>.i (isL r0) (.k (getL r0)) (.k (decide (Int.ofNat (getR r0).1.length≤(getR r0).2)))
def zm6 (l:List Value) (n_:Int):Bool×Bool:=(zt1 l n_).fin default
def zwD (r:Bool):ARes ty:=⟨[.pure (.lit (.bool r))],[]⟩
def zzD:AL base (List Value×Int×Unit):=zf (zg (vSl 40)) (zf (zg (vInt .i64)) aNil)
def zva:Ab.Spec ty:=zn zzD fun x=>((zm6 x.1 x.2.1).1,zwD (zm6 x.1 x.2.1).2)
theorem zBd:Sound Tryz.prog base 27 zva:=
 zy (cx':=zyj) zH zo zD (zB trivial) Tryz.call27 Tryz.func27 (c:=body Tryz.f27) (by kernel_rfl) (zi (l:=[lp (body Tryz.f27) 0]) (by kernel_rfl) ⟨zCm,trivial⟩) (sg:=⟨[.pure],[]⟩) (A:=zzD) (res:=zwD) (W:=fun x=>zt1 x.1 x.2.1) (z:=default)
def zu4 (r:Int):ARes ty:=⟨[.pure (.lit (.int .i64 r))],[]⟩
def zyk:AL base (List Term×Int×Int×Unit):=zf (zg (vSl 152)) (zf (zg (vInt .i64)) (zf (zg (vInt .i64)) aNil))
def zlp (F:List Term→Int→Int→Bool×Int):Ab.Spec ty:=zn zyk fun x=>((F x.1 x.2.1 x.2.2.1).1,zu4 (F x.1 x.2.1 x.2.2.1).2)
abbrev ttTref05weight0:=List Term×Int×Int×Int×Int×Int×Unit×Int×Unit
abbrev ttTref05weight1:=List Term×Int×Int×Int×Int×Int×Atom
abbrev ttTref05weight2:=List Term×Int×Int×Int×Int×Int
abbrev ttTref05weight3:=List Term×Int×Int×Int×Int×Int×Unit
abbrev ttTref05weight4:=List Term×Int×Int×Int×Int
abbrev ttTref05weight5:=List Term×Int×Int×Int×Int×Unit
def zn7 (zt:List Term→Int→Int→Bool×Int) (a:List Term) (limit:Int) (deep:Int) (n_:Int) (i:Int) (k:Int) (j:Int) (x_:Atom):Wy ttTref05weight0 (Atom×Unit) ttTref05weight1:=.i (decide (j<Int.ofNat x_.Args.length)) (.i (decide (n_≤limit)) (.i (decide (0≤j)&&decide (j<Int.ofNat x_.Args.length)) (.bn (zt (x_.Args.getD j.toNat default) (IntKind.i64.wrap (limit - n_)) (IntKind.i64.wrap (deep - 1))) fun r0=>.h (a,limit,deep,(IntKind.i64.wrap (n_+r0)),i,k,(),(IntKind.i64.wrap (j+1)),()) (x_,())) .d) (.k (a,limit,deep,n_,i,k,x_))) (.k (a,limit,deep,n_,i,k,x_))
def znY (zt:List Term→Int→Int→Bool×Int) (x:ttTref05weight0) (y:Atom×Unit):Wy ttTref05weight0 (Atom×Unit) ttTref05weight1:=zn7 zt x.1 x.2.1 x.2.2.1 x.2.2.2.1 x.2.2.2.2.1 x.2.2.2.2.2.1 x.2.2.2.2.2.2.2.1 y.1
def zn0 (zt:List Term→Int→Int→Bool×Int) (n:Nat) (a:List Term) (limit:Int) (deep:Int) (n_:Int) (i:Int) (k:Int) (j:Int) (x_:Atom):Bool×ttTref05weight1:=zO (znY zt) default n (a,limit,deep,n_,i,k,(),j,()) (x_,())
def zsx (r:ttTref05weight1):LTree ty:=.done (.exit 4) [.sl 152 r.1,.lit (.int .i64 r.2.1),.lit (.int .i64 r.2.2.1),.lit (.int .i64 r.2.2.2.1),.lit (.int .i64 r.2.2.2.2.1),.lit (.int .i64 r.2.2.2.2.2.1),.ptr 544 0] [.box (base.enc 158 r.2.2.2.2.2.2) false]
def ztM:LL ty ttTref05weight0:=za (lSl 152) (za (lInt .i64) (za (lInt .i64) (za (lInt .i64) (za (lInt .i64) (za (lInt .i64) (za (zcF 544 0) (za (lInt .i64) zF)))))))
def ztb:BL ty (Atom×Unit):=bBox (zex (fun x=>(⟨x.1,⟨x.2.1,x.2.2.1⟩,x.2.2.2.1,x.2.2.2.2.1,x.2.2.2.2.2.1,x.2.2.2.2.2.2.1,⟨x.2.2.2.2.2.2.2.1,x.2.2.2.2.2.2.2.2.1,x.2.2.2.2.2.2.2.2.2.1⟩⟩:Atom)) (fun x=>(x.Kind,x.Row.Table,x.Row.Seq,x.Args,x.Func,x.Items,x.Op,x.Bound.Kind,x.Bound.Int,x.Bound.Text,())) (fun _=>rfl) (za (lInt .i64) (za (lInt .i64) (za (lInt .i64) (za (lSl 36) (za (lInt .i64) (za (lSl 182) (za (lInt .i64) (za (lInt .i64) (za (lInt .i64) (za lStr zF))))))))))) false (bNil)
def zoj (zt:List Term→Int→Int→Bool×Int) (a:List Term) (limit:Int) (deep:Int) (n_:Int) (i:Int) (k:Int) (j:Int) (x_:Atom):Wy ttTref05weight0 (Atom×Unit) ttTref05weight2:=.i (decide (j<Int.ofNat x_.Items.length)) (.i (decide (n_≤limit)) (.i (decide (0≤j)&&decide (j<Int.ofNat x_.Items.length)) (.i (decide (0≤j)&&decide (j<Int.ofNat x_.Items.length)) (.bn (zt (x_.Items.getD j.toNat default).Ann (IntKind.i64.wrap (limit - n_)) (IntKind.i64.wrap (deep - 1))) fun r2=>.h (a,limit,deep,(IntKind.i64.wrap (IntKind.i64.wrap (n_+Int.ofNat (x_.Items.getD j.toNat default).Value.Text.size)+r2)),i,k,(),(IntKind.i64.wrap (j+1)),()) (x_,())) .d) .d) (.k (a,limit,deep,n_,i,k))) (.k (a,limit,deep,n_,i,k))
def znQ (zt:List Term→Int→Int→Bool×Int) (x:ttTref05weight0) (y:Atom×Unit):Wy ttTref05weight0 (Atom×Unit) ttTref05weight2:=zoj zt x.1 x.2.1 x.2.2.1 x.2.2.2.1 x.2.2.2.2.1 x.2.2.2.2.2.1 x.2.2.2.2.2.2.2.1 y.1
def zob (zt:List Term→Int→Int→Bool×Int) (n:Nat) (a:List Term) (limit:Int) (deep:Int) (n_:Int) (i:Int) (k:Int) (j:Int) (x_:Atom):Bool×ttTref05weight2:=zO (znQ zt) default n (a,limit,deep,n_,i,k,(),j,()) (x_,())
def zsf (r:ttTref05weight2):LTree ty:=.done (.exit 6) [.sl 152 r.1,.lit (.int .i64 r.2.1),.lit (.int .i64 r.2.2.1),.lit (.int .i64 r.2.2.2.1),.lit (.int .i64 r.2.2.2.2.1),.lit (.int .i64 r.2.2.2.2.2)] []
def ztR:LL ty ttTref05weight0:=za (lSl 152) (za (lInt .i64) (za (lInt .i64) (za (lInt .i64) (za (lInt .i64) (za (lInt .i64) (za (zcF 544 0) (za (lInt .i64) zF)))))))
def ztr:BL ty (Atom×Unit):=bBox (zex (fun x=>(⟨x.1,⟨x.2.1,x.2.2.1⟩,x.2.2.2.1,x.2.2.2.2.1,x.2.2.2.2.2.1,x.2.2.2.2.2.2.1,⟨x.2.2.2.2.2.2.2.1,x.2.2.2.2.2.2.2.2.1,x.2.2.2.2.2.2.2.2.2.1⟩⟩:Atom)) (fun x=>(x.Kind,x.Row.Table,x.Row.Seq,x.Args,x.Func,x.Items,x.Op,x.Bound.Kind,x.Bound.Int,x.Bound.Text,())) (fun _=>rfl) (za (lInt .i64) (za (lInt .i64) (za (lInt .i64) (za (lSl 36) (za (lInt .i64) (za (lSl 182) (za (lInt .i64) (za (lInt .i64) (za (lInt .i64) (za lStr zF))))))))))) false (bNil)
def zph (zt:List Term→Int→Int→Bool×Int) (a:List Term) (limit:Int) (deep:Int) (n_:Int) (i:Int) (k:Int):Wy ttTref05weight3 (Unit) ttTref05weight4:=.i (decide (0≤i)&&decide (i<Int.ofNat a.length)) (.i (decide (k<Int.ofNat (a.getD i.toNat default).Factors.length)) (.i (decide (n_≤limit)) (.i (decide (0≤i)&&decide (i<Int.ofNat a.length)) (.i (decide (0≤k)&&decide (k<Int.ofNat (a.getD i.toNat default).Factors.length)) (.bn (zn0 zt (a.length+limit.toNat +deep.toNat +(IntKind.i64.wrap (IntKind.i64.wrap (IntKind.i64.wrap (n_+Int.ofNat ((a.getD i.toNat default).Factors.getD k.toNat default).Atom.Items.length)+Int.ofNat ((a.getD i.toNat default).Factors.getD k.toNat default).Atom.Args.length)+Int.ofNat ((a.getD i.toNat default).Factors.getD k.toNat default).Atom.Bound.Text.size)).toNat +i.toNat +k.toNat +Int.toNat 0+((a.getD i.toNat default).Factors.getD k.toNat default).Atom.Args.length+((a.getD i.toNat default).Factors.getD k.toNat default).Atom.Items.length+1000) a limit deep (IntKind.i64.wrap (IntKind.i64.wrap (IntKind.i64.wrap (n_+Int.ofNat ((a.getD i.toNat default).Factors.getD k.toNat default).Atom.Items.length)+Int.ofNat ((a.getD i.toNat default).Factors.getD k.toNat default).Atom.Args.length)+Int.ofNat ((a.getD i.toNat default).Factors.getD k.toNat default).Atom.Bound.Text.size)) i k 0 (Atom.mk ((a.getD i.toNat default).Factors.getD k.toNat default).Atom.Kind ((a.getD i.toNat default).Factors.getD k.toNat default).Atom.Row ((a.getD i.toNat default).Factors.getD k.toNat default).Atom.Args ((a.getD i.toNat default).Factors.getD k.toNat default).Atom.Func ((a.getD i.toNat default).Factors.getD k.toNat default).Atom.Items ((a.getD i.toNat default).Factors.getD k.toNat default).Atom.Op ((a.getD i.toNat default).Factors.getD k.toNat default).Atom.Bound)) fun r5=>.bn (zob zt (r5.1.length+r5.2.1.toNat +r5.2.2.1.toNat +r5.2.2.2.1.toNat +r5.2.2.2.2.1.toNat +r5.2.2.2.2.2.1.toNat +Int.toNat 0+r5.2.2.2.2.2.2.Args.length+r5.2.2.2.2.2.2.Items.length+1000) r5.1 r5.2.1 r5.2.2.1 r5.2.2.2.1 r5.2.2.2.2.1 r5.2.2.2.2.2.1 0 (Atom.mk r5.2.2.2.2.2.2.Kind r5.2.2.2.2.2.2.Row r5.2.2.2.2.2.2.Args r5.2.2.2.2.2.2.Func r5.2.2.2.2.2.2.Items r5.2.2.2.2.2.2.Op r5.2.2.2.2.2.2.Bound)) fun r4=>.h ((r4.1),(r4.2.1),(r4.2.2.1),(r4.2.2.2.1),(r4.2.2.2.2.1),(IntKind.i64.wrap (r4.2.2.2.2.2+1)),()) ()) .d) .d) (.k (a,limit,deep,n_,i))) (.k (a,limit,deep,n_,i))) .d
def zo6 (zt:List Term→Int→Int→Bool×Int) (x:ttTref05weight3) (y:Unit):Wy ttTref05weight3 (Unit) ttTref05weight4:=zph zt x.1 x.2.1 x.2.2.1 x.2.2.2.1 x.2.2.2.2.1 x.2.2.2.2.2.1
def zpe (zt:List Term→Int→Int→Bool×Int) (n:Nat) (a:List Term) (limit:Int) (deep:Int) (n_:Int) (i:Int) (k:Int):Bool×ttTref05weight4:=zO (zo6 zt) default n (a,limit,deep,n_,i,k,()) ()
def zth (r:ttTref05weight4):LTree ty:=.done (.exit 2) [.sl 152 r.1,.lit (.int .i64 r.2.1),.lit (.int .i64 r.2.2.1),.lit (.int .i64 r.2.2.2.1),.lit (.int .i64 r.2.2.2.2)] []
def zuD:LL ty ttTref05weight3:=za (lSl 152) (za (lInt .i64) (za (lInt .i64) (za (lInt .i64) (za (lInt .i64) (za (lInt .i64) zF)))))
def zuw:BL ty (Unit):=bNil
def zo8 (zt:List Term→Int→Int→Bool×Int) (a:List Term) (limit:Int) (deep:Int) (n_:Int) (i:Int):Wy ttTref05weight5 (Unit) (Int):=.i (decide (i<Int.ofNat a.length)) (.i (decide (n_≤limit)) (.i (decide (0≤i)&&decide (i<Int.ofNat a.length)) (.bn (zpe zt (a.length+limit.toNat +deep.toNat +(IntKind.i64.wrap (IntKind.i64.wrap (n_+1)+Int.ofNat (a.getD i.toNat default).Factors.length)).toNat +i.toNat +Int.toNat 0+1000) a limit deep (IntKind.i64.wrap (IntKind.i64.wrap (n_+1)+Int.ofNat (a.getD i.toNat default).Factors.length)) i 0) fun r8=>.h ((r8.1),(r8.2.1),(r8.2.2.1),(r8.2.2.2.1),(IntKind.i64.wrap (r8.2.2.2.2+1)),()) ()) .d) (.k n_)) (.k n_)
def zpg (zt:List Term→Int→Int→Bool×Int) (x:ttTref05weight5) (y:Unit):Wy ttTref05weight5 (Unit) (Int):=zo8 zt x.1 x.2.1 x.2.2.1 x.2.2.2.1 x.2.2.2.2.1
def zo5 (zt:List Term→Int→Int→Bool×Int) (n:Nat) (a:List Term) (limit:Int) (deep:Int) (n_:Int) (i:Int):Bool×Int:=zO (zpg zt) default n (a,limit,deep,n_,i,()) ()
def ztJ (r:Int):LTree ty:=.done (.exit 0) [.lit (.int .i64 r)] []
def zuy:LL ty ttTref05weight5:=za (lSl 152) (za (lInt .i64) (za (lInt .i64) (za (lInt .i64) (za (lInt .i64) zF))))
def zuu:BL ty (Unit):=bNil
def zst (x:ttTref05weight0) (y:Atom×Unit):Nat:=(x.1.length+Int.toNat x.2.1+Int.toNat x.2.2.1+Int.toNat x.2.2.2.1+Int.toNat x.2.2.2.2.1+Int.toNat x.2.2.2.2.2.1+Int.toNat x.2.2.2.2.2.2.2.1+y.1.Args.length+y.1.Items.length+1000)
def zsm (x:ttTref05weight0) (y:Atom×Unit):Nat:=(x.1.length+Int.toNat x.2.1+Int.toNat x.2.2.1+Int.toNat x.2.2.2.1+Int.toNat x.2.2.2.2.1+Int.toNat x.2.2.2.2.2.1+Int.toNat x.2.2.2.2.2.2.2.1+y.1.Args.length+y.1.Items.length+1000)
def ztx (x:ttTref05weight3) (y:Unit):Nat:=(x.1.length+Int.toNat x.2.1+Int.toNat x.2.2.1+Int.toNat x.2.2.2.1+Int.toNat x.2.2.2.2.1+Int.toNat x.2.2.2.2.2.1+1000)
def ztH (x:ttTref05weight5) (y:Unit):Nat:=(x.1.length+Int.toNat x.2.1+Int.toNat x.2.2.1+Int.toNat x.2.2.2.1+Int.toNat x.2.2.2.2.1+1000)
def zjb (zt:List Term→Int→Int→Bool×Int):Cx ty:=mkCx base 136 [(100,(zlp zt))] [] [(5,[(0,.keep),(1,.keep),(2,.keep),(7,.keep),(8,.keep)]),(9,[(0,.keep),(1,.keep),(2,.keep),(7,.keep),(8,.keep),(9,.keep)]),(14,[(0,.keep),(1,.keep),(2,.keep),(7,.keep),(8,.keep),(9,.keep),(10,.keep),(11,.keep)]),(18,[(0,.keep),(1,.keep),(2,.keep),(7,.keep),(8,.keep),(9,.keep),(10,.keep),(12,.keep)])] [(5,1,[(7,.keep)]),(9,3,[(0,.keep),(1,.keep),(2,.keep),(7,.keep),(8,.keep)]),(14,5,[(0,.keep),(1,.keep),(2,.keep),(7,.keep),(8,.keep),(9,.keep),(10,.keep)]),(18,7,[(0,.keep),(1,.keep),(2,.keep),(7,.keep),(8,.keep),(9,.keep)])] [(14,spW ztM ztb (znY zt) default zsx zst),(18,spW ztR ztr (znQ zt) default zsf zsm),(9,spW zuD zuw (zo6 zt) default zth ztx),(5,spW zuy zuu (zpg zt) default ztJ ztH)] []
theorem zzP (zt:List Term→Int→Int→Bool×Int):zX (zjb zt) (lp (body Tryz.f100) 2):=zN (id:=14) (V:=ztM) (B:=ztb) (W:=znY zt) (z:=default) (tr:=zsx) (m:=zst)
theorem zzJ (zt:List Term→Int→Int→Bool×Int):zX (zjb zt) (lp (body Tryz.f100) 3):=zN (id:=18) (V:=ztR) (B:=ztr) (W:=znQ zt) (z:=default) (tr:=zsf) (m:=zsm)
theorem zzZ (zt:List Term→Int→Int→Bool×Int):zX (zjb zt) (lp (body Tryz.f100) 1):=zN (id:=9) (V:=zuD) (B:=zuw) (W:=zo6 zt) (z:=default) (tr:=zth) (m:=ztx)
theorem zAl (zt:List Term→Int→Int→Bool×Int):zX (zjb zt) (lp (body Tryz.f100) 0):=zN (id:=5) (V:=zuy) (B:=zuu) (W:=zpg zt) (z:=default) (tr:=ztJ) (m:=ztH)
def zmI (zt:List Term→Int→Int→Bool×Int) (a:List Term) (limit:Int) (deep:Int):Wy0 (Int):=.i (deep==0) (.k (IntKind.i64.wrap (limit+1))) (.bn (zo5 zt (a.length+limit.toNat +deep.toNat +Int.toNat 0+Int.toNat 0+1000) a limit deep 0 0) fun r10=>.k r10)
def zk7 (zt:List Term→Int→Int→Bool×Int) (a:List Term) (limit:Int) (deep:Int):Bool×Int:=(zmI zt a limit deep).fin default
theorem zyL (zt:List Term→Int→Int→Bool×Int) (zB3:Sound Tryz.prog base 100 (zlp zt)):Sound Tryz.prog base 100 (zlp (zk7 zt)):=
 zy (cx':=(zjb zt)) zH zo zD (zB ⟨zB3,trivial⟩) Tryz.call100 Tryz.func100 (c:=body Tryz.f100) (by kernel_rfl) (zi (l:=[lp (body Tryz.f100) 0,lp (body Tryz.f100) 1,lp (body Tryz.f100) 2,lp (body Tryz.f100) 3]) (by kernel_rfl) ⟨zAl zt,zzZ zt,zzP zt,zzJ zt,trivial⟩) (sg:=⟨[.pure],[]⟩) (A:=zyk) (res:=zu4) (W:=fun x=>zmI zt x.1 x.2.1 x.2.2.1) (z:=default)
def zBi:Nat→(List Term→Int→Int→Bool×Int)
 | 0=>fun _ _ _=>(false,default)
 | n+1=>zk7 (zBi n)
def zjH (n:Nat):List Term→Int→Int→Bool×Int:=zBi n
theorem zuB (n:Nat):zjH (n+1)=zk7 (zjH n):=rfl
theorem zzj:∀ n,Sound Tryz.prog base 100 (zlp (zjH n))
 | 0=>zbp Tryz.call100 (fun _=>rfl)
 | n+1=>by
  have ih:=zzj n
  exact zyL _ (ih)
def zvN:List Term→Int→Int→Bool×Int:=zjH 1000
def ref05_weight_spec:Ab.Spec ty:=zlp zvN
theorem zAj:Sound Tryz.prog base 100 ref05_weight_spec:=(zzj 1000)
abbrev ttTref05Few0:=Int×List (List Term)×Int×Unit
def zvF (limit:Int) (l:List (List Term)) (i:Int):Wy ttTref05Few0 (Unit) (Bool⊕Unit):=.i (decide (i<Int.ofNat l.length)) (.i (decide (0≤i)&&decide (i<Int.ofNat l.length)) (.bn (zvN (l.getD i.toNat default) limit 12) fun r0=>.i (decide (r0>limit)) (.k (.inl false)) (.h (limit,l,(IntKind.i64.wrap (i+1)),()) ())) .d) (.k (.inr ()))
def zvv (x:ttTref05Few0) (y:Unit):Wy ttTref05Few0 (Unit) (Bool⊕Unit):=zvF x.1 x.2.1 x.2.2.1
def zvi (n:Nat) (limit:Int) (l:List (List Term)) (i:Int):Bool×(Bool⊕Unit):=zO (zvv) (.inl default) n (limit,l,i,()) ()
def zy8 (r:Bool⊕Unit):LTree ty:=.ite (isL r) (.done .ret [.lit (.bool (getL r))] []) (.done (.exit 0) [] [])
def zAk:LL ty ttTref05Few0:=za (lInt .i64) (za (lSl 36) (za (lInt .i64) zF))
def zAx:BL ty (Unit):=bNil
def zy9 (x:ttTref05Few0) (y:Unit):Nat:=(Int.toNat x.1+x.2.1.length+Int.toNat x.2.2.1+1000)
def zAn:Cx ty:=mkCx base 20 [(100,ref05_weight_spec)] [] [(2,[(0,.keep),(1,.keep),(5,.keep)])] [(2,1,[]),(2,0,[(4,.keep)])] [(2,spW zAk zAx (zvv) (.inl default) zy8 zy9)] []
theorem zEt:zX zAn (lp (body Tryz.f66) 0):=zN (id:=2) (V:=zAk) (B:=zAx) (W:=zvv) (z:=.inl default) (tr:=zy8) (m:=zy9)
def zxl (limit:Int) (l:List (List Term)):Wy0 (Bool):=.bn (zvi (limit.toNat +l.length+Int.toNat 0+1000) limit l 0) fun r2=>.i (isL r2) (.k (getL r2)) (.k true)
def zqX (limit:Int) (l:List (List Term)):Bool×Bool:=(zxl limit l).fin default
def zzx (r:Bool):ARes ty:=⟨[.pure (.lit (.bool r))],[]⟩
def zBk:AL base (Int×List (List Term)×Unit):=zf (zg (vInt .i64)) (zf (zg (vSl 36)) aNil)
def zx6:Ab.Spec ty:=zn zBk fun x=>((zqX x.1 x.2.1).1,zzx (zqX x.1 x.2.1).2)
theorem zCL:Sound Tryz.prog base 66 zx6:=
 zy (cx':=zAn) zH zo zD (zB ⟨zAj,trivial⟩) Tryz.call66 Tryz.func66 (c:=body Tryz.f66) (by kernel_rfl) (zi (l:=[lp (body Tryz.f66) 0]) (by kernel_rfl) ⟨zEt,trivial⟩) (sg:=⟨[.pure],[]⟩) (A:=zBk) (res:=zzx) (W:=fun x=>zxl x.1 x.2.1) (z:=default)
abbrev ttTref29Few0:=Int×Int×List Relation×Int×Int×Unit
abbrev ttTref29Few1:=Bool⊕(Int×Int×List Relation×Int)
abbrev ttTref29Few2:=Int×Int×List Relation×Int×Unit
def zvm (rows:Int) (weight:Int) (l:List Relation) (i:Int) (k:Int):Wy ttTref29Few0 (Unit) ttTref29Few1:=.i (decide (0≤i)&&decide (i<Int.ofNat l.length)) (.i (decide (k<Int.ofNat (l.getD i.toNat default).Columns.length)) (.i (decide (0≤i)&&decide (i<Int.ofNat l.length)) (.i (decide (0≤k)&&decide (k<Int.ofNat (l.getD i.toNat default).Columns.length)) (.i (decide (Int.ofNat ((l.getD i.toNat default).Columns.getD k.toNat default).Name.size>100)) (.k (.inl false)) (.h (rows,weight,l,i,(IntKind.i64.wrap (k+1)),()) ())) .d) .d) (.k (.inr (rows,weight,l,i)))) .d
def zrP (x:ttTref29Few0) (y:Unit):Wy ttTref29Few0 (Unit) ttTref29Few1:=zvm x.1 x.2.1 x.2.2.1 x.2.2.2.1 x.2.2.2.2.1
def zz1 (n:Nat) (rows:Int) (weight:Int) (l:List Relation) (i:Int) (k:Int):Bool×ttTref29Few1:=zO (zrP) (.inl default) n (rows,weight,l,i,k,()) ()
def zze (r:ttTref29Few1):LTree ty:=.ite (isL r) (.done .ret [.lit (.bool (getL r))] []) (.done (.exit 2) [.lit (.int .i64 (getR r).1),.lit (.int .i64 (getR r).2.1),.sl 73 (getR r).2.2.1,.lit (.int .i64 (getR r).2.2.2)] [])
def zAs:LL ty ttTref29Few0:=za (lInt .i64) (za (lInt .i64) (za (lSl 73) (za (lInt .i64) (za (lInt .i64) zF))))
def zAN:BL ty (Unit):=bNil
def zt7 (rows:Int) (weight:Int) (l:List Relation) (i:Int) (k:Int):Wy ttTref29Few0 (Unit) ttTref29Few1:=.i (decide (0≤i)&&decide (i<Int.ofNat l.length)) (.i (decide (k<Int.ofNat (l.getD i.toNat default).Rows.length)) (.i (decide (0≤i)&&decide (i<Int.ofNat l.length)) (.i (decide (0≤k)&&decide (k<Int.ofNat (l.getD i.toNat default).Rows.length)) (.bn (zm6 ((l.getD i.toNat default).Rows.getD k.toNat default).Values 20) fun r1=>.i (!r1) (.k (.inl false)) (.i (decide (0≤i)&&decide (i<Int.ofNat l.length)) (.i (decide (0≤k)&&decide (k<Int.ofNat (l.getD i.toNat default).Rows.length)) (.bn (zqX weight [((l.getD i.toNat default).Rows.getD k.toNat default).Ann]) fun r0=>.i (!r0) (.k (.inl false)) (.h (rows,weight,l,i,(IntKind.i64.wrap (k+1)),()) ())) .d) .d)) .d) .d) (.k (.inr (rows,weight,l,i)))) .d
def zp4 (x:ttTref29Few0) (y:Unit):Wy ttTref29Few0 (Unit) ttTref29Few1:=zt7 x.1 x.2.1 x.2.2.1 x.2.2.2.1 x.2.2.2.2.1
def zzt (n:Nat) (rows:Int) (weight:Int) (l:List Relation) (i:Int) (k:Int):Bool×ttTref29Few1:=zO (zp4) (.inl default) n (rows,weight,l,i,k,()) ()
def zye (r:ttTref29Few1):LTree ty:=.ite (isL r) (.done .ret [.lit (.bool (getL r))] []) (.done (.exit 4) [.lit (.int .i64 (getR r).1),.lit (.int .i64 (getR r).2.1),.sl 73 (getR r).2.2.1,.lit (.int .i64 (getR r).2.2.2)] [])
def zzE:LL ty ttTref29Few0:=za (lInt .i64) (za (lInt .i64) (za (lSl 73) (za (lInt .i64) (za (lInt .i64) zF))))
def zzy:BL ty (Unit):=bNil
def zjV (rows:Int) (weight:Int) (l:List Relation) (i:Int):Wy ttTref29Few2 (Unit) (Bool⊕Unit):=.i (decide (i<Int.ofNat l.length)) (.i (decide (0≤i)&&decide (i<Int.ofNat l.length)) (.i (decide (Int.ofNat (l.getD i.toNat default).Rows.length>rows)) (.k (.inl false)) (.i (decide (0≤i)&&decide (i<Int.ofNat l.length)) (.i (decide (Int.ofNat (l.getD i.toNat default).Columns.length>20)) (.k (.inl false)) (.bn (zz1 (rows.toNat +weight.toNat +l.length+i.toNat +Int.toNat 0+1000) rows weight l i 0) fun r5=>.i (isL r5) (.k (.inl (getL r5))) (.bn (zzt ((getR r5).1.toNat +(getR r5).2.1.toNat +(getR r5).2.2.1.length+(getR r5).2.2.2.toNat +Int.toNat 0+1000) (getR r5).1 (getR r5).2.1 (getR r5).2.2.1 (getR r5).2.2.2 0) fun r4=>.i (isL r4) (.k (.inl (getL r4))) (.h ((getR r4).1,(getR r4).2.1,(getR r4).2.2.1,(IntKind.i64.wrap ((getR r4).2.2.2+1)),()) ())))) .d)) .d) (.k (.inr ()))
def zrU (x:ttTref29Few2) (y:Unit):Wy ttTref29Few2 (Unit) (Bool⊕Unit):=zjV x.1 x.2.1 x.2.2.1 x.2.2.2.1
def zvD (n:Nat) (rows:Int) (weight:Int) (l:List Relation) (i:Int):Bool×(Bool⊕Unit):=zO (zrU) (.inl default) n (rows,weight,l,i,()) ()
def zzo (r:Bool⊕Unit):LTree ty:=.ite (isL r) (.done .ret [.lit (.bool (getL r))] []) (.done (.exit 0) [] [])
def zAz:LL ty ttTref29Few2:=za (lInt .i64) (za (lInt .i64) (za (lSl 73) (za (lInt .i64) zF)))
def zAm:BL ty (Unit):=bNil
def zzg (x:ttTref29Few0) (y:Unit):Nat:=(Int.toNat x.1+Int.toNat x.2.1+x.2.2.1.length+Int.toNat x.2.2.2.1+Int.toNat x.2.2.2.2.1+1000)
def zxx (x:ttTref29Few0) (y:Unit):Nat:=(Int.toNat x.1+Int.toNat x.2.1+x.2.2.1.length+Int.toNat x.2.2.2.1+Int.toNat x.2.2.2.2.1+1000)
def zzf (x:ttTref29Few2) (y:Unit):Nat:=(Int.toNat x.1+Int.toNat x.2.1+x.2.2.1.length+Int.toNat x.2.2.2.1+1000)
def zrO:Cx ty:=mkCx base 90 [(27,zva),(66,zx6)] [] [(2,[(0,.keep),(1,.keep),(2,.keep),(7,.keep)]),(7,[(0,.keep),(1,.keep),(2,.keep),(7,.keep),(8,.keep)]),(12,[(0,.keep),(1,.keep),(2,.keep),(7,.keep),(9,.keep)])] [(2,1,[]),(2,0,[(6,.keep)]),(7,3,[(0,.keep),(1,.keep),(2,.keep),(7,.keep)]),(7,0,[(6,.keep)]),(12,5,[(0,.keep),(1,.keep),(2,.keep),(7,.keep)]),(12,0,[(6,.keep)])] [(7,spW zAs zAN (zrP) (.inl default) zze zzg),(12,spW zzE zzy (zp4) (.inl default) zye zxx),(2,spW zAz zAm (zrU) (.inl default) zzo zzf)] []
theorem zEu:zX zrO (lp (body Tryz.f34) 1):=zN (id:=7) (V:=zAs) (B:=zAN) (W:=zrP) (z:=.inl default) (tr:=zze) (m:=zzg)
theorem zDH:zX zrO (lp (body Tryz.f34) 2):=zN (id:=12) (V:=zzE) (B:=zzy) (W:=zp4) (z:=.inl default) (tr:=zye) (m:=zxx)
theorem zEo:zX zrO (lp (body Tryz.f34) 0):=zN (id:=2) (V:=zAz) (B:=zAm) (W:=zrU) (z:=.inl default) (tr:=zzo) (m:=zzf)
def zwT (rows:Int) (weight:Int) (l:List Relation):Wy0 (Bool):=.bn (zvD (rows.toNat +weight.toNat +l.length+Int.toNat 0+1000) rows weight l 0) fun r8=>.i (isL r8) (.k (getL r8)) (.k true)
def ztl (rows:Int) (weight:Int) (l:List Relation):Bool×Bool:=(zwT rows weight l).fin default
def zzz (r:Bool):ARes ty:=⟨[.pure (.lit (.bool r))],[]⟩
def zBj:AL base (Int×Int×List Relation×Unit):=zf (zg (vInt .i64)) (zf (zg (vInt .i64)) (zf (zg (vSl 73)) aNil))
def zyd:Ab.Spec ty:=zn zBj fun x=>((ztl x.1 x.2.1 x.2.2.1).1,zzz (ztl x.1 x.2.1 x.2.2.1).2)
theorem zCb:Sound Tryz.prog base 34 zyd:=
 zy (cx':=zrO) zH zo zD (zB ⟨zBd,zCL,trivial⟩) Tryz.call34 Tryz.func34 (c:=body Tryz.f34) (by kernel_rfl) (zi (l:=[lp (body Tryz.f34) 0,lp (body Tryz.f34) 1,lp (body Tryz.f34) 2]) (by kernel_rfl) ⟨zEo,zEu,zDH,trivial⟩) (sg:=⟨[.pure],[]⟩) (A:=zBj) (res:=zzz) (W:=fun x=>zwT x.1 x.2.1 x.2.2.1) (z:=default)
def zFg:Cx ty:=mkCx base 10 [(34,zyd)] [] [] [] [] []
def zxd (t:Table):Wy0 (Bool):=.bn (ztl 12 8 [Relation.mk t.Columns t.Rows]) fun r0=>.k r0
def ztf (t:Table):Bool×Bool:=(zxd t).fin default
def zzC (r:Bool):ARes ty:=⟨[.pure (.lit (.bool r))],[]⟩
def zBH:AL base (Table×Unit):=zf (zg (vAgg 25)) aNil
def zyh:Ab.Spec ty:=zn zBH fun x=>((ztf x.1).1,zzC (ztf x.1).2)
theorem zCG:Sound Tryz.prog base 11 zyh:=
 zy (cx':=zFg) zH zo zD (zB ⟨zCb,trivial⟩) Tryz.call11 Tryz.func11 (c:=body Tryz.f11) (by kernel_rfl) (zi (l:=[]) (by kernel_rfl) trivial) (sg:=⟨[.pure],[]⟩) (A:=zBH) (res:=zzC) (W:=fun x=>zxd x.1) (z:=default)
end Go.Proofs.YtddkaehkimnklaaGreatDoor
end
