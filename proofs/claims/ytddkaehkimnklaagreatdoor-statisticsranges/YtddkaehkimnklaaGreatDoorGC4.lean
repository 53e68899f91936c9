/- Texts of this claim, joined (the program, its functions in plain words, and what they compute). -/
import Derived.WalkKit
import Derived.WalkSpells
import Derived.Test.YtddkaehkimnklaaGreatDoorGC1
import Derived.Test.YtddkaehkimnklaaGreatDoorGA3
import Derived.Test.YtddkaehkimnklaaGreatDoorGC3
import Derived.Test.YtddkaehkimnklaaGreatDoorGB1
import Derived.Test.YtddkaehkimnklaaGreatDoorGC2
set_option autoImplicit false
set_option linter.unusedVariables false
set_option linter.unusedSectionVars false
set_option linter.unusedSimpArgs false
set_option maxRecDepth 1000000
set_option maxHeartbeats 0
noncomputable section
namespace Go.Proofs.YtddkaehkimnklaaGreatDoor
open Go Go.Ab
abbrev ttTslicesIndexFuncLapiRowapiRowno0:=List Row×Unit×Int×Int×Unit
def zl4 (s:List Row) (t7:Int) (t8:Int):Wy ttTslicesIndexFuncLapiRowapiRowno0 (Unit) (Int⊕Unit):=.i (decide (t8<t7)) (.i (decide (0≤t8)&&decide (t8<Int.ofNat s.length)) (.i ((zii (s.getD t8.toNat default)).2) (.k (.inl t8)) (.h (s,(),t7,(IntKind.i64.wrap (t8+1)),()) ())) .d) (.k (.inr ()))
def zed (x:ttTslicesIndexFuncLapiRowapiRowno0) (y:Unit):Wy ttTslicesIndexFuncLapiRowapiRowno0 (Unit) (Int⊕Unit):=zl4 x.1 x.2.2.1 x.2.2.2.1
def zmc (n:Nat) (s:List Row) (t7:Int) (t8:Int):Bool×(Int⊕Unit):=zY (zed) (.inl default) n (s,(),t7,t8,()) ()
def zhd (r:Int⊕Unit):LTree ty:=.ite (isL r) (.done .ret [.lit (.int .i64 (getL r))] []) (.done (.exit 0) [] [])
def zhn:LL ty ttTslicesIndexFuncLapiRowapiRowno0:=za (lSl 38) (za (lFn 72 (zG)) (za (lInt .i64) (za (lInt .i64) zG)))
def zhs:BL ty (Unit):=bNil
def zhf (x:ttTslicesIndexFuncLapiRowapiRowno0) (y:Unit):Nat:=(x.1.length+Int.toNat x.2.2.1+Int.toNat x.2.2.2.1+1000)
def zhq:Cx ty:=mkCx base 19 [(72,zgH)] [] [(2,[(0,.keep),(1,.keep),(7,.keep),(8,.keep)])] [(2,1,[]),(2,0,[(4,.keep)])] [(2,spW zhn zhs (zed) (.inl default) zhd zhf)] []
theorem zlC:zX zhq (lp (body Tryz.f112) 0):=zN (id:=2) (V:=zhn) (B:=zhs) (W:=zed) (z:=.inl default) (tr:=zhd) (m:=zhf)
def zhF (s:List Row):Wy0 (Int):=.bn (zmc (s.length+(Int.ofNat s.length).toNat +Int.toNat 0+1000) s (Int.ofNat s.length) 0) fun r0=>.i (isL r0) (.k (getL r0)) (.k (-1:Int))
def zfe (s:List Row):Bool×Int:=(zhF s).fin default
def zha (r:Int):ARes ty:=⟨[.pure (.lit (.int .i64 r))],[]⟩
def zhI:AL base (List Row×Unit×Unit):=zf (zg (vSl 38)) (zf (zg (vFn 72 vNil)) aNil)
def zg5:Ab.Spec ty:=zl zhI fun x=>((zfe x.1).1,zha (zfe x.1).2)
theorem zkW:Sound Tryz.prog base 112 zg5:=
 zt (cx':=zhq) zD zo zB (zu ⟨zh6,trivial⟩) Tryz.call112 Tryz.func112 (c:=body Tryz.f112) (by kernel_rfl) (zh (l:=[lp (body Tryz.f112) 0]) (by kernel_rfl) ⟨zlC,trivial⟩) (sg:=⟨[.pure],[]⟩) (A:=zhI) (res:=zha) (W:=fun x=>zhF x.1) (z:=default)
abbrev ttTslicesDeleteFuncLapiRowapiRow0:=Unit×Unit×Int×Int×Unit
abbrev ttTslicesDeleteFuncLapiRowapiRow1:=List Row×Unit
abbrev ttTslicesDeleteFuncLapiRowapiRow2:=Int×List Row
def zm5 (i:Int) (j:Int) (s:List Row):Wy ttTslicesDeleteFuncLapiRowapiRow0 ttTslicesDeleteFuncLapiRowapiRow1 ttTslicesDeleteFuncLapiRowapiRow2:=.i (decide (j<Int.ofNat s.length)) (.i (decide (0≤j)&&decide (j<Int.ofNat s.length)) (.i (!(zii (s.getD j.toNat default)).2) (.i (decide (0≤i)&&decide (i<Int.ofNat s.length)) (.i (decide (i.toNat<s.length)) (.h ((),(),(IntKind.i64.wrap (i+1)),(IntKind.i64.wrap (j+1)),()) ((s.set i.toNat (s.getD j.toNat default)),())) .d) .d) (.h ((),(),i,(IntKind.i64.wrap (j+1)),()) (s,()))) .d) (.k (i,s))
def zeW (x:ttTslicesDeleteFuncLapiRowapiRow0) (y:ttTslicesDeleteFuncLapiRowapiRow1):Wy ttTslicesDeleteFuncLapiRowapiRow0 ttTslicesDeleteFuncLapiRowapiRow1 ttTslicesDeleteFuncLapiRowapiRow2:=zm5 x.2.2.1 x.2.2.2.1 y.1
def zm4 (n:Nat) (i:Int) (j:Int) (s:List Row):Bool×ttTslicesDeleteFuncLapiRowapiRow2:=zY (zeW) default n ((),(),i,j,()) (s,())
def zhC (r:ttTslicesDeleteFuncLapiRowapiRow2):LTree ty:=.done (.exit 0) [.own 168,.lit (.int .i64 r.1)] [.arr 38 r.2 false]
def zhQ:LL ty ttTslicesDeleteFuncLapiRowapiRow0:=za (lOwn 168) (za (lFn 72 (zG)) (za (lInt .i64) (za (lInt .i64) zG)))
def zhS:BL ty ttTslicesDeleteFuncLapiRowapiRow1:=bArr 38 false (bNil)
def zhE (x:ttTslicesDeleteFuncLapiRowapiRow0) (y:ttTslicesDeleteFuncLapiRowapiRow1):Nat:=(Int.toNat x.2.2.1+Int.toNat x.2.2.2.1+y.1.length+1000)
def zhR:Cx ty:=mkCx base 42 [(72,zgH),(112,zg5)] [] [(5,[(0,.keep),(1,.keep),(5,.keep),(6,.keep)])] [(5,1,[(0,.keep),(5,.keep)])] [(5,spW zhQ zhS (zeW) default zhC zhE)] []
theorem zmi:zX zhR (lp (body Tryz.f70) 0):=zN (id:=5) (V:=zhQ) (B:=zhS) (W:=zeW) (z:=default) (tr:=zhC) (m:=zhE)
def zia (s:List Row):Wy0 (List Row):=.bn (zfe s) fun r1=>.i (r1==(-1:Int)) (.k s) (.bn (zm4 (r1.toNat +(IntKind.i64.wrap (r1+1)).toNat +s.length+1000) r1 (IntKind.i64.wrap (r1+1)) s) fun r0=>.i (decide (0≤r0.1)&&decide (r0.1≤Int.ofNat r0.2.length)&&decide (Int.ofNat r0.2.length≤Int.ofNat r0.2.length)) (.i (decide (r0.1.toNat +((Int.ofNat r0.2.length).toNat - r0.1.toNat)≤r0.2.length)) (.i (decide ((0:Int)≤(0:Int))&&decide (0≤r0.1)&&decide (r0.1≤Int.ofNat (List.take r0.1.toNat r0.2++List.replicate ((Int.ofNat r0.2.length).toNat - r0.1.toNat) (Row.mk [] [])++List.drop (r0.1.toNat +((Int.ofNat r0.2.length).toNat - r0.1.toNat)) r0.2).length)) (.k (List.take (r0.1.toNat - Int.toNat 0) (List.take r0.1.toNat r0.2++List.replicate ((Int.ofNat r0.2.length).toNat - r0.1.toNat) (Row.mk [] [])++List.drop (r0.1.toNat +((Int.ofNat r0.2.length).toNat - r0.1.toNat)) r0.2))) .d) .d) .d)
def zf4 (s:List Row):Bool×List Row:=(zia s).fin default
def zhD (r:List Row):ARes ty:=⟨[.own 38 r],[none]⟩
def zh1:AL base (List Row×Unit×Unit):=zf (aOwn 38) (zf (zg (vFn 72 vNil)) aNil)
def zho:Ab.Spec ty:=zl zh1 fun x=>((zf4 x.1).1,zhD (zf4 x.1).2)
theorem zlK:Sound Tryz.prog base 70 zho:=
 zt (cx':=zhR) zD zo zB (zu ⟨zh6,zkW,trivial⟩) Tryz.call70 Tryz.func70 (c:=body Tryz.f70) (by kernel_rfl) (zh (l:=[lp (body Tryz.f70) 0]) (by kernel_rfl) ⟨zmi,trivial⟩) (sg:=⟨[.own 38],[false]⟩) (A:=zh1) (res:=zhD) (W:=fun x=>zia x.1) (z:=default)
def zfK (x:List Row) (a b:Int):Bool×List Row:=zCC zbw x a b
def slices_insertionSortCmpFunc_api_Row_spec:Ab.Spec ty:=zl (cx:=base) (zf (aOwn 38) (zf (zg (vInt .i64)) (zf (zg (vInt .i64)) (zf (zg (vFn 74 vNil)) aNil)))) fun x=>((zfK x.1 x.2.1 x.2.2.1).1,⟨[],[some ⟨38,(zfK x.1 x.2.1 x.2.2.1).2⟩]⟩)
theorem zl0 (c:Unit) (x y:Row) (h:(zbw x y).1=true):zkz ((AV.agg (base.enc 38 x)::AV.agg (base.enc 38 y)::(vNil:VL base Unit).enc c).map Arg.pure)=some (true,⟨[.pure (.lit (.int .i64 (zbw x y).2))],[]⟩):=by
 rw [← h]; kernel_rfl
theorem zk4:Sound Tryz.prog base 159 slices_insertionSortCmpFunc_api_Row_spec:=by
 letI:DecidableEq (ty 38):=inferInstanceAs (DecidableEq Row)
 exact zFX (T:=38) zo rfl Go.Proofs.Tryz.insR Tryz.isAgg38 (by unfold szOf; exact Tryz.sizeOf38) Tryz.call159 zoN vNil (fun c=>zbw) zl0
open Go.Proofs Go.RowKit
def zbV (x:List Row) (m:Int):Bool×List Row:=(decide (SortOK zbw x)&&(decide (m=x.length)&&decide (m<20)),zj7 zbw x)
def zja:Ab.Spec ty:=zl (cx:=base) (zf (aOwn 38) (zf (zg (vInt .i64)) (zf (zg (vFn 74 vNil)) aNil))) fun x=>((zbV x.1 x.2.1).1,⟨[],[some ⟨38,(zbV x.1 x.2.1).2⟩]⟩)
set_option maxHeartbeats 1000000 in
theorem zop:Sound Tryz.prog base 113 zja where
 enters:=Tryz.call113
 calls:=fun avs r hsp w F vs hF ha hsep=>by
  unfold zja zl at hsp
  split at hsp
  ·rename_i x hx
   simp only [Option.some.injEq,Prod.mk.injEq] at hsp
   obtain ⟨hpre,rfl⟩:=hsp
   have hk:=(zf (aOwn 38) (zf (zg (vInt .i64)) (zf (zg (vFn 74 vNil)) aNil)):AL base _).kind vs avs x hx
   have ha':=(zf (aOwn 38) (zf (zg (vInt .i64)) (zf (zg (vFn 74 vNil)) aNil)):AL base _).ok Tryz.prog zo F w vs avs x hx ha
   rw [hk] at hsep ⊢
   clear hk hx ha
   obtain ⟨l0,m,c,u0⟩:=x
   obtain ⟨l,rfl⟩:∃ l:List Row,l=l0:=⟨l0,rfl⟩
   obtain ⟨v,vs',rfl,hv,hv'⟩:=ha'.inv
   obtain ⟨mv,vs1,rfl,hm,hv1⟩:=hv'.inv
   obtain ⟨fv,vs'',rfl,hfv,h0⟩:=hv1.inv
   obtain rfl:=h0.nil_left.1
   have hm:Rep base F w mv (.lit (.int .i64 m)):=hm
   obtain rfl:mv=.int .i64 m:=by cases hm; rfl
   have hsl:∃ p cap,v=.slice p l.length cap:=by
    obtain ⟨⟨xs,hown,_⟩,_⟩:=(show zb2 base F w v 38 l∧∀ b,zK v=some b→¬ F b from hv)
    rcases hown.2 with ⟨h1,h2⟩ | ⟨g0,cap,cur,h1,_⟩
    ·exact ⟨none,0,by rw [h1,show l.length=0 from h2]⟩
    ·exact ⟨_,cap,h1⟩
   have hpre:(decide (SortOK (α:=Row) zbw l)&&(decide (m=l.length)&&decide (m<20)))=true:=hpre
   simp only [Bool.and_eq_true,decide_eq_true_eq] at hpre
   obtain ⟨hok,rfl,h20⟩:=hpre
   have hpp:(zfK l 0 (l.length:Int)).1=true:=by
    show (decide (SortOK (α:=Row) zbw l)&&(decide ((0:Int)=0)&&decide ((l.length:Int)=l.length)))=true
    simp only [Bool.and_eq_true,decide_eq_true_eq]
    exact ⟨hok,trivial,trivial⟩
   have hp:=(zk4).calls [.own 38 l,.pure (.lit (.int .i64 0)),.pure (.lit (.int .i64 (l.length:Int))),.pure (.fn 74 [])] ⟨[],[some ⟨38,(zbV l (l.length:Int)).2⟩]⟩
    (by rw [← hpp]; kernel_rfl) w F [v,.int .i64 0,.int .i64 (l.length:Int),fv] hF (.cons hv (.cons (Rep.lit _) (.cons (Rep.lit _) (.cons hfv .nil)))) hsep
   replace hp:Calls Tryz.prog 159 #[v,.int .i64 0,.int .i64 (l.length:Int),fv] w fun e w'=>∃ u,e=.returned u∧Post base F w [v] ⟨[],[some ⟨38,(zbV l (l.length:Int)).2⟩]⟩ u w':=hp
   show Calls Tryz.prog 113 #[v,.int .i64 (l.length:Int),fv] w fun e w'=>∃ u,e=.returned u∧Post base F w [v] ⟨[],[some ⟨38,(zbV l (l.length:Int)).2⟩]⟩ u w'
   generalize (zbV l (l.length:Int)).2=res at hp ⊢
   generalize hn:l.length=m at *
   clear hpp hv hfv hsep hok hF hm
   obtain ⟨p,cap,rfl⟩:=hsl
   clear hn
   go_enter Tryz.func113,Tryz.ntmps113
   go_wp2
   refine wp_loop_rounds 1 ?_
   rw [rounds_succ]
   go_wp2_with (go_at_call 159; refine hp.mono ?_; rintro e w' ⟨u,rfl,hpost⟩; obtain rfl:=hpost.unit)
   refine wp_loop_rounds 1 ?_
   rw [rounds_succ]
   go_wp2
   all_goals first | (exfalso; omega) | (go_end0; exact ⟨_,rfl,hpost⟩)
  ·cases hsp
end Go.Proofs.YtddkaehkimnklaaGreatDoor
namespace Go.Proofs.YtddkaehkimnklaaGreatDoor
open Go Go.Ab
open Go.Proofs Go.RowKit
def zbb (x:List Row):Bool×List Row:=(decide (SortOK zbw x)&&decide (x.length<20),zj7 zbw x)
def zdh:Ab.Spec ty:=zl (cx:=base) (zf (aOwn 38) (zf (zg (vFn 74 vNil)) aNil)) fun x=>((zbb x.1).1,⟨[],[some ⟨38,(zbb x.1).2⟩]⟩)
set_option maxHeartbeats 1000000 in
theorem zkh:Sound Tryz.prog base 73 zdh where
 enters:=Tryz.call73
 calls:=fun avs r hsp w F vs hF ha hsep=>by
  unfold zdh zl at hsp
  split at hsp
  ·rename_i x hx
   simp only [Option.some.injEq,Prod.mk.injEq] at hsp
   obtain ⟨hpre,rfl⟩:=hsp
   have hk:=(zf (aOwn 38) (zf (zg (vFn 74 vNil)) aNil):AL base _).kind vs avs x hx
   have ha':=(zf (aOwn 38) (zf (zg (vFn 74 vNil)) aNil):AL base _).ok Tryz.prog zo F w vs avs x hx ha
   rw [hk] at hsep ⊢
   clear hk hx ha
   obtain ⟨l0,c,u0⟩:=x
   obtain ⟨l,rfl⟩:∃ l:List Row,l=l0:=⟨l0,rfl⟩
   obtain ⟨v,vs',rfl,hv,hv'⟩:=ha'.inv
   obtain ⟨fv,vs'',rfl,hfv,h0⟩:=hv'.inv
   obtain rfl:=h0.nil_left.1
   have hsl:∃ p cap,v=.slice p l.length cap:=by
    obtain ⟨⟨xs,hown,_⟩,_⟩:=(show zb2 base F w v 38 l∧∀ b,zK v=some b→¬ F b from hv)
    rcases hown.2 with ⟨h1,h2⟩ | ⟨g0,cap,cur,h1,_⟩
    ·exact ⟨none,0,by rw [h1,show l.length=0 from h2]⟩
    ·exact ⟨_,cap,h1⟩
   have hpre:(decide (SortOK (α:=Row) zbw l)&&decide (l.length<20))=true:=hpre
   simp only [Bool.and_eq_true,decide_eq_true_eq] at hpre
   obtain ⟨hok,h20⟩:=hpre
   have hpp:(zbV l (l.length:Int)).1=true:=by
    show (decide (SortOK (α:=Row) zbw l)&&(decide ((l.length:Int)=l.length)&&decide ((l.length:Int)<20)))=true
    simp only [Bool.and_eq_true,decide_eq_true_eq]
    exact ⟨hok,trivial,by omega⟩
   have hp:=(zop).calls [.own 38 l,.pure (.lit (.int .i64 (l.length:Int))),.pure (.fn 74 [])] ⟨[],[some ⟨38,(zbb l).2⟩]⟩
    (by rw [← hpp]; kernel_rfl) w F [v,.int .i64 (l.length:Int),fv] hF (.cons hv (.cons (Rep.lit _) (.cons hfv .nil))) hsep
   replace hp:Calls Tryz.prog 113 #[v,.int .i64 (l.length:Int),fv] w fun e w'=>∃ u,e=.returned u∧Post base F w [v] ⟨[],[some ⟨38,(zbb l).2⟩]⟩ u w':=hp
   show Calls Tryz.prog 73 #[v,fv] w fun e w'=>∃ u,e=.returned u∧Post base F w [v] ⟨[],[some ⟨38,(zbb l).2⟩]⟩ u w'
   generalize (zbb l).2=res at hp ⊢
   generalize hn:l.length=m at *
   clear hpp hv hfv hsep hok hF
   obtain ⟨p,cap,rfl⟩:=hsl
   clear hn
   go_enter Tryz.func73,Tryz.ntmps73
   go_wp2_with (go_at_call 113; refine hp.mono ?_; rintro e w' ⟨u,rfl,hpost⟩; obtain rfl:=hpost.unit)
   go_end0
   exact ⟨_,rfl,hpost⟩
  ·cases hsp
end Go.Proofs.YtddkaehkimnklaaGreatDoor
namespace Go.Proofs.YtddkaehkimnklaaGreatDoor
open Go Go.Ab
abbrev ttTrelationNormalize0:=Unit×Unit×List Row×Int×Int×Unit
abbrev ttTrelationNormalize1:=Relation×(Unit×Unit×Unit)×Unit
abbrev ttTrelationNormalize2:=Int⊕Relation
abbrev ttTrelationNormalize3:=Unit×Unit×Unit×Int×Int×Unit
abbrev ttTrelationNormalize4:=(Unit×Unit×Unit)×(Unit×Unit×Unit)×List Row×List Column×List Row×Unit
abbrev ttTrelationNormalize5:=List Column×List Row
def zw0 (t19:List Row) (t20:Int) (t21:Int) (r:Relation):Wy ttTrelationNormalize0 ttTrelationNormalize1 ttTrelationNormalize2:=.i (decide (t21<t20)) (.i (decide (0≤t21)&&decide (t21<Int.ofNat t19.length)) (.bn (zs7 r.Columns (t19.getD t21.toNat default).Values) fun r5=>.i (!r5) (.k (.inl 7)) (.bn (zuU (t19.getD t21.toNat default).Ann) fun r4=>.i (!r4) (.k (.inl 1)) (.h ((),(),t19,t20,(IntKind.i64.wrap (t21+1)),()) (r,((),(),()),())))) .d) (.k (.inr r))
def zkG (x:ttTrelationNormalize0) (y:ttTrelationNormalize1):Wy ttTrelationNormalize0 ttTrelationNormalize1 ttTrelationNormalize2:=zw0 x.2.2.1 x.2.2.2.1 x.2.2.2.2.1 y.1
def zxM (n:Nat) (t19:List Row) (t20:Int) (t21:Int) (r:Relation):Bool×ttTrelationNormalize2:=zY (zkG) (.inl default) n ((),(),t19,t20,t21,()) (r,((),(),()),())
def zoT (r:ttTrelationNormalize2):LTree ty:=.ite (isL r) (.done .ret [.ptr 440 0,.lit (.int .i64 (getL r))] [.box ([.lit (.slice none 0 0),.lit (.slice none 0 0)]) false]) (.done (.exit 0) [.ptr 440 0,.ptr 441 0] [.box (base.enc 73 (getR r)) false,.box ([.lit (.slice none 0 0),.lit (.slice none 0 0)]) false])
def zpE:LL ty ttTrelationNormalize0:=za (zc8 440 0) (za (zc8 441 0) (za (lSl 38) (za (lInt .i64) (za (lInt .i64) zG))))
def zpr:BL ty ttTrelationNormalize1:=bBox (zgF (fun x=>(⟨x.1,x.2.1⟩:Relation)) (fun x=>(x.Columns,x.Rows,())) (fun _=>rfl) (za (lSl 67) (za (lSl 38) zG))) false (bBox (za lNil (za lNil zG)) false (bNil))
def zwh (t49:Int) (t50:Int) (t48:List Row) (b3:List Column) (b4:List Row):Wy ttTrelationNormalize3 ttTrelationNormalize4 ttTrelationNormalize5:=.i (decide (t50<t49)) (.i (decide (0≤t50)&&decide (t50<Int.ofNat t48.length)) (.i (Int.ofNat b4.length==0) (.bn (zmA (t48.getD t50.toNat default) (t48.getD t50.toNat default).Ann) fun r8=>.i (decide ((b4.length+[r8].length)*48≤zdn)) (.h ((),(),(),t49,(IntKind.i64.wrap (t50+1)),()) (((),(),()),((),(),()),t48,b3,(b4++[r8]),())) .d) (.i (decide (0≤IntKind.i64.wrap (Int.ofNat b4.length - 1))&&decide (IntKind.i64.wrap (Int.ofNat b4.length - 1)<Int.ofNat b4.length)) (.bn (zbw (b4.getD (IntKind.i64.wrap (Int.ofNat b4.length - 1)).toNat default) (t48.getD t50.toNat default)) fun r11=>.i (r11 != 0) (.bn (zmA (t48.getD t50.toNat default) (t48.getD t50.toNat default).Ann) fun r9=>.i (decide ((b4.length+[r9].length)*48≤zdn)) (.h ((),(),(),t49,(IntKind.i64.wrap (t50+1)),()) (((),(),()),((),(),()),t48,b3,(b4++[r9]),())) .d) (.i (decide (0≤IntKind.i64.wrap (Int.ofNat b4.length - 1))&&decide (IntKind.i64.wrap (Int.ofNat b4.length - 1)<Int.ofNat b4.length)) (.bn (zxy (b4.getD (IntKind.i64.wrap (Int.ofNat b4.length - 1)).toNat default).Ann (t48.getD t50.toNat default).Ann) fun r10=>.i (decide (0≤IntKind.i64.wrap (Int.ofNat b4.length - 1))&&decide (IntKind.i64.wrap (Int.ofNat b4.length - 1)<Int.ofNat b4.length)) (.i (decide ((IntKind.i64.wrap (Int.ofNat b4.length - 1)).toNat<b4.length)) (.h ((),(),(),t49,(IntKind.i64.wrap (t50+1)),()) (((),(),()),((),(),()),t48,b3,(b4.set (IntKind.i64.wrap (Int.ofNat b4.length - 1)).toNat (Row.mk (b4.getD (IntKind.i64.wrap (Int.ofNat b4.length - 1)).toNat default).Values r10.1)),())) .d) .d) .d)) .d)) .d) (.k (b3,b4))
def zkk (x:ttTrelationNormalize3) (y:ttTrelationNormalize4):Wy ttTrelationNormalize3 ttTrelationNormalize4 ttTrelationNormalize5:=zwh x.2.2.2.1 x.2.2.2.2.1 y.2.2.1 y.2.2.2.1 y.2.2.2.2.1
def zwm (n:Nat) (t49:Int) (t50:Int) (t48:List Row) (b3:List Column) (b4:List Row):Bool×ttTrelationNormalize5:=zY (zkk) default n ((),(),(),t49,t50,()) (((),(),()),((),(),()),t48,b3,b4,())
def znW (r:ttTrelationNormalize5):LTree ty:=.done (.exit 2) [.ptr 440 0,.ptr 441 0] [.box ([.lit (.slice none 0 0),.lit (.slice none 0 0)]) false,.box ([.own 442,.own 443]) false,.arr 67 r.1 false,.arr 38 r.2 false]
def zoJ:LL ty ttTrelationNormalize3:=za (zc8 440 0) (za (zc8 441 0) (za (lOwn 442) (za (lInt .i64) (za (lInt .i64) zG))))
def zoy:BL ty ttTrelationNormalize4:=bBox (za lNil (za lNil zG)) false (bBox (za (lOwn 443) (za (lOwn 444) zG)) false (bArr 38 false (bArr 67 false (bArr 38 false (bNil)))))
def zo9 (x:ttTrelationNormalize0) (y:ttTrelationNormalize1):Nat:=(x.2.2.1.length+Int.toNat x.2.2.2.1+Int.toNat x.2.2.2.2.1+y.1.Columns.length+y.1.Rows.length+1000)
def zod (x:ttTrelationNormalize3) (y:ttTrelationNormalize4):Nat:=(Int.toNat x.2.2.2.1+Int.toNat x.2.2.2.2.1+y.2.2.1.length+y.2.2.2.1.length+y.2.2.2.2.1.length+1000)
def zkD:Cx ty:=mkCx base 110 [(67,zlT),(68,zsv),(69,annotation_Valid_spec),(70,zho),(71,ziG),(72,zgH),(73,zdh),(74,zkz),(75,zhe),(76,zrd),(77,annotation_Add_spec)] [(70,[true,false]),(73,[true,false])] [(4,[(1,.keep),(2,.keep),(19,.keep),(20,.keep),(21,.keep)]),(15,[(2,.keep),(7,.boxOwn [(1,38)]),(48,.keep),(49,.keep),(50,.keep)])] [(4,1,[(1,.keep),(2,.keep)]),(4,0,[(2,.keep),(3,.keep)]),(15,3,[(2,.keep),(7,.keep)]),(15,0,[(2,.keep),(3,.keep)])] [(4,spW zpE zpr (zkG) (.inl default) zoT zo9),(15,spW zoJ zoy (zkk) default znW zod)] []
theorem zwu:zX zkD (lp (body Tryz.f35) 0):=zN (id:=4) (V:=zpE) (B:=zpr) (W:=zkG) (z:=.inl default) (tr:=zoT) (m:=zo9)
theorem zvf:zX zkD (lp (body Tryz.f35) 1):=zN (id:=15) (V:=zoJ) (B:=zoy) (W:=zkk) (z:=default) (tr:=znW) (m:=zod)
def zqH (r:Relation):Wy0 (Relation×Int):=.bn (zkH r.Columns) fun r22=>.i (!r22) (.k ((⟨[],[]⟩:Relation),1)) (.bn (zxM (r.Rows.length+(Int.ofNat r.Rows.length).toNat +Int.toNat 0+r.Columns.length+r.Rows.length+1000) r.Rows (Int.ofNat r.Rows.length) 0 r) fun r21=>.i (isL r21) (.k ((⟨[],[]⟩:Relation),getL r21)) (.bn (zhz (getR r21).Rows) fun r20=>.bn (zf4 r20) fun r19=>.bn (zbb r19) fun r18=>.bn (zfG (getR r21).Columns) fun r17=>.bn (zwm ((Int.ofNat r18.length).toNat +Int.toNat 0+r18.length+r17.length+0+1000) (Int.ofNat r18.length) 0 r18 r17 []) fun r16=>.i (decide (Int.ofNat r16.2.length>1024)) (.k ((⟨[],[]⟩:Relation),6)) (.k ((⟨r16.1,r16.2⟩:Relation),0))))
def zjY (r:Relation):Bool×(Relation×Int):=(zqH r).fin default
def zoP (r:Relation×Int):ARes ty:=⟨[.pure (.agg (base.enc 73 r.1)),.pure (.lit (.int .i64 r.2))],[]⟩
def zq6:AL base (Relation×Unit):=zf (zg (vAgg 73)) aNil
def znX:Ab.Spec ty:=zl zq6 fun x=>((zjY x.1).1,zoP (zjY x.1).2)
theorem zun:Sound Tryz.prog base 35 znX:=
 zt (cx':=zkD) zD zo zB (zu ⟨zsH,zzj,zwB,zlK,znw,zh6,zkh,zoN,zk3,zxr,zxV,trivial⟩) Tryz.call35 Tryz.func35 (c:=body Tryz.f35) (by kernel_rfl) (zh (l:=[lp (body Tryz.f35) 0,lp (body Tryz.f35) 1]) (by kernel_rfl) ⟨zwu,zvf,trivial⟩) (sg:=⟨[.pure,.pure],[]⟩) (A:=zq6) (res:=zoP) (W:=fun x=>zqH x.1) (z:=default)
def zJf (k:Go.Value) (l:List (Go.Value×Int)):Option Int:=mget (ty:=ty) (V:=3) k l
def zJa (k:Go.Value) (l:List (Go.Value×Int)):Bool:=mhas (ty:=ty) (V:=3) k l
def zvV (k:Go.Value) (x:Int) (l:List (Go.Value×Int)):List (Go.Value×Int):=mset (ty:=ty) (V:=3) k x l
def zJg (k:Go.Value) (x:Bool) (l:List (Go.Value×Bool)):List (Go.Value×Bool):=mset (ty:=ty) (V:=4) k x l
def ze8 (x:List Value):Bool×List Value:=zBs (fun a b=>zbF a b) x
def slices_SortFunc_Lapi_Value_api_Value_spec:Ab.Spec ty:=zl (cx:=base) (zf (aOwn 40) (zf (zg (vFn 79 (vNil))) aNil)) fun x=>((ze8 x.1).1,⟨[],[some ⟨40,(ze8 x.1).2⟩]⟩)
theorem zlL (c:Unit) (x y:Value) (h:(zbF x y).1=true):zb5 ((AV.agg (base.enc 40 x)::AV.agg (base.enc 40 y)::(vNil:VL base (Unit)).enc c).map Arg.pure)=some (true,⟨[.pure (.lit (.int .i64 (zbF x y).2))],[]⟩):=by
 rw [← h]; kernel_rfl
theorem zkQ:Sound Tryz.prog base 78 slices_SortFunc_Lapi_Value_api_Value_spec:=by
 letI:DecidableEq (ty 40):=inferInstanceAs (DecidableEq Value)
 exact zE3 (T:=40) zo rfl Go.Proofs.Tryz.sortVal Tryz.isAgg40 (by unfold szOf; exact Tryz.sizeOf40) Tryz.call78 zcf (vNil) (fun c=>fun a b=>zbF a b) zlL
abbrev ttTstatisticscolumn0:=Unit×Unit×Int×Unit×Unit×Int×Int×Unit
abbrev ttTstatisticscolumn1:=List Value×(Int×Int×Int×ByteArray×Int×Int×ByteArray×Unit×Unit)×(List (_root_.Go.Value×Bool))×Unit
abbrev ttTstatisticscolumn2:=Int×List Value×Int×Int×Int×ByteArray×Int×Int×ByteArray×(List (_root_.Go.Value×Bool))
abbrev ttTstatisticscolumn3:=Unit×Unit×Int×Unit×Int×Unit
abbrev ttTstatisticscolumn4:=List Value×(Int×Int×Int×ByteArray×Int×Int×ByteArray×Unit×Unit)×(Int×Int×Int×ByteArray×Int×Int×ByteArray×Unit×Unit)×List Value×Unit
abbrev ttTstatisticscolumn5:=Int×Int×Int×ByteArray×Int×Int×ByteArray×Int×Int×Int×ByteArray×Int×Int×ByteArray×List Value
def zxW (n_:Int) (t18:Int) (t19:Int) (l:List Value) (t2_0:Int) (t2_1:Int) (t2_2:Int) (t2_3:ByteArray) (t2_4:Int) (t2_5:Int) (t2_6:ByteArray) (seen:List (_root_.Go.Value×Bool)):Wy ttTstatisticscolumn0 ttTstatisticscolumn1 ttTstatisticscolumn2:=.i (decide (t19<t18)) (.i (decide (0≤t19)&&decide (t19<Int.ofNat l.length)) (.h ((),(),n_,(),(),t18,(IntKind.i64.wrap (t19+1)),()) (l,(t2_0,t2_1,t2_2,t2_3,t2_4,t2_5,t2_6,(),()),(zJg (Value.agg #[Value.int IntKind.i64 (l.getD t19.toNat default).Kind,Value.int IntKind.i64 (l.getD t19.toNat default).Int,Value.string (l.getD t19.toNat default).Text]) true seen),())) .d) (.k (n_,l,t2_0,t2_1,t2_2,t2_3,t2_4,t2_5,t2_6,seen))
def zlN (x:ttTstatisticscolumn0) (y:ttTstatisticscolumn1):Wy ttTstatisticscolumn0 ttTstatisticscolumn1 ttTstatisticscolumn2:=zxW x.2.2.1 x.2.2.2.2.2.1 x.2.2.2.2.2.2.1 y.1 y.2.1.1 y.2.1.2.1 y.2.1.2.2.1 y.2.1.2.2.2.1 y.2.1.2.2.2.2.1 y.2.1.2.2.2.2.2.1 y.2.1.2.2.2.2.2.2.1 y.2.2.1
def zxR (n:Nat) (n_:Int) (t18:Int) (t19:Int) (l:List Value) (t2_0:Int) (t2_1:Int) (t2_2:Int) (t2_3:ByteArray) (t2_4:Int) (t2_5:Int) (t2_6:ByteArray) (seen:List (_root_.Go.Value×Bool)):Bool×ttTstatisticscolumn2:=zY (zlN) default n ((),(),n_,(),(),t18,t19,()) (l,(t2_0,t2_1,t2_2,t2_3,t2_4,t2_5,t2_6,(),()),seen,())
def zpZ (r:ttTstatisticscolumn2):LTree ty:=.done (.exit 0) [.own 224,.ptr 225 0,.lit (.int .i64 r.1),.mp 226] [.arr 40 r.2.1 false,.box ([.lit (.int .i64 r.2.2.1),.lit (.int .i64 r.2.2.2.1),.lit (.int .i64 r.2.2.2.2.1),.lit (.string r.2.2.2.2.2.1),.lit (.int .i64 r.2.2.2.2.2.2.1),.lit (.int .i64 r.2.2.2.2.2.2.2.1),.lit (.string r.2.2.2.2.2.2.2.2.1),.lit (.slice none 0 0)]) false,.mp 40 4 r.2.2.2.2.2.2.2.2.2 false]
def zqM:LL ty ttTstatisticscolumn0:=za (lOwn 224) (za (zc8 225 0) (za (lInt .i64) (za (lMp 226) (za (lOwn 224) (za (lInt .i64) (za (lInt .i64) zG))))))
def zqQ:BL ty ttTstatisticscolumn1:=bArr 40 false (bBox (za (lInt .i64) (za (lInt .i64) (za (lInt .i64) (za lStr (za (lInt .i64) (za (lInt .i64) (za lStr (za lNil zG)))))))) false (bMp 40 4 false (bNil)))
def zxz (n_:Int) (i:Int) (l:List Value) (t2_0:Int) (t2_1:Int) (t2_2:Int) (t2_3:ByteArray) (t2_4:Int) (t2_5:Int) (t2_6:ByteArray) (c_0:Int) (c_1:Int) (c_2:Int) (c_3:ByteArray) (c_4:Int) (c_5:Int) (c_6:ByteArray) (b3:List Value):Wy ttTstatisticscolumn3 ttTstatisticscolumn4 ttTstatisticscolumn5:=.i (decide (i≤8)) (.i (decide (0≤IntKind.i64.wrap (IntKind.i64.wrap ((IntKind.i64.wrap (IntKind.i64.wrap (i*n_)+7)).tdiv 8) - 1))&&decide (IntKind.i64.wrap (IntKind.i64.wrap ((IntKind.i64.wrap (IntKind.i64.wrap (i*n_)+7)).tdiv 8) - 1)<Int.ofNat l.length)) (.i (decide ((b3.length+[l.getD (IntKind.i64.wrap (IntKind.i64.wrap ((IntKind.i64.wrap (IntKind.i64.wrap (i*n_)+7)).tdiv 8) - 1)).toNat default].length)*32≤zdn)) (.h ((),(),n_,(),(IntKind.i64.wrap (i+1)),()) (l,(t2_0,t2_1,t2_2,t2_3,t2_4,t2_5,t2_6,(),()),(c_0,c_1,c_2,c_3,c_4,c_5,c_6,(),()),(b3++[l.getD (IntKind.i64.wrap (IntKind.i64.wrap ((IntKind.i64.wrap (IntKind.i64.wrap (i*n_)+7)).tdiv 8) - 1)).toNat default]),())) .d) .d) (.k (t2_0,t2_1,t2_2,t2_3,t2_4,t2_5,t2_6,c_0,c_1,c_2,c_3,c_4,c_5,c_6,b3))
def zkV (x:ttTstatisticscolumn3) (y:ttTstatisticscolumn4):Wy ttTstatisticscolumn3 ttTstatisticscolumn4 ttTstatisticscolumn5:=zxz x.2.2.1 x.2.2.2.2.1 y.1 y.2.1.1 y.2.1.2.1 y.2.1.2.2.1 y.2.1.2.2.2.1 y.2.1.2.2.2.2.1 y.2.1.2.2.2.2.2.1 y.2.1.2.2.2.2.2.2.1 y.2.2.1.1 y.2.2.1.2.1 y.2.2.1.2.2.1 y.2.2.1.2.2.2.1 y.2.2.1.2.2.2.2.1 y.2.2.1.2.2.2.2.2.1 y.2.2.1.2.2.2.2.2.2.1 y.2.2.2.1
def zxF (n:Nat) (n_:Int) (i:Int) (l:List Value) (t2_0:Int) (t2_1:Int) (t2_2:Int) (t2_3:ByteArray) (t2_4:Int) (t2_5:Int) (t2_6:ByteArray) (c_0:Int) (c_1:Int) (c_2:Int) (c_3:ByteArray) (c_4:Int) (c_5:Int) (c_6:ByteArray) (b3:List Value):Bool×ttTstatisticscolumn5:=zY (zkV) default n ((),(),n_,(),i,()) (l,(t2_0,t2_1,t2_2,t2_3,t2_4,t2_5,t2_6,(),()),(c_0,c_1,c_2,c_3,c_4,c_5,c_6,(),()),b3,())
def zov (r:ttTstatisticscolumn5):LTree ty:=.done (.exit 2) [.ptr 224 0,.ptr 225 0] [.box ([.lit (.int .i64 r.1),.lit (.int .i64 r.2.1),.lit (.int .i64 r.2.2.1),.lit (.string r.2.2.2.1),.lit (.int .i64 r.2.2.2.2.1),.lit (.int .i64 r.2.2.2.2.2.1),.lit (.string r.2.2.2.2.2.2.1),.lit (.slice none 0 0)]) false,.box ([.lit (.int .i64 r.2.2.2.2.2.2.2.1),.lit (.int .i64 r.2.2.2.2.2.2.2.2.1),.lit (.int .i64 r.2.2.2.2.2.2.2.2.2.1),.lit (.string r.2.2.2.2.2.2.2.2.2.2.1),.lit (.int .i64 r.2.2.2.2.2.2.2.2.2.2.2.1),.lit (.int .i64 r.2.2.2.2.2.2.2.2.2.2.2.2.1),.lit (.string r.2.2.2.2.2.2.2.2.2.2.2.2.2.1),.own 226]) false,.arr 40 r.2.2.2.2.2.2.2.2.2.2.2.2.2.2 false]
def zpC:LL ty ttTstatisticscolumn3:=za (lOwn 224) (za (zc8 225 0) (za (lInt .i64) (za (zc8 226 0) (za (lInt .i64) zG))))
def zpu:BL ty ttTstatisticscolumn4:=bArr 40 false (bBox (za (lInt .i64) (za (lInt .i64) (za (lInt .i64) (za lStr (za (lInt .i64) (za (lInt .i64) (za lStr (za lNil zG)))))))) false (bBox (za (lInt .i64) (za (lInt .i64) (za (lInt .i64) (za lStr (za (lInt .i64) (za (lInt .i64) (za lStr (za (lOwn 227) zG)))))))) false (bArr 40 false (bNil))))
def zpT (x:ttTstatisticscolumn0) (y:ttTstatisticscolumn1):Nat:=(Int.toNat x.2.2.1+Int.toNat x.2.2.2.2.2.1+Int.toNat x.2.2.2.2.2.2.1+y.1.length+Int.toNat y.2.1.1+Int.toNat y.2.1.2.1+Int.toNat y.2.1.2.2.1+y.2.1.2.2.2.1.size+Int.toNat y.2.1.2.2.2.2.1+Int.toNat y.2.1.2.2.2.2.2.1+y.2.1.2.2.2.2.2.2.1.size+y.2.2.1.length+1000)
def zoB (x:ttTstatisticscolumn3) (y:ttTstatisticscolumn4):Nat:=(Int.toNat x.2.2.1+Int.toNat x.2.2.2.2.1+y.1.length+Int.toNat y.2.1.1+Int.toNat y.2.1.2.1+Int.toNat y.2.1.2.2.1+y.2.1.2.2.2.1.size+Int.toNat y.2.1.2.2.2.2.1+Int.toNat y.2.1.2.2.2.2.2.1+y.2.1.2.2.2.2.2.2.1.size+Int.toNat y.2.2.1.1+Int.toNat y.2.2.1.2.1+Int.toNat y.2.2.1.2.2.1+y.2.2.1.2.2.2.1.size+Int.toNat y.2.2.1.2.2.2.2.1+Int.toNat y.2.2.1.2.2.2.2.2.1+y.2.2.1.2.2.2.2.2.2.1.size+y.2.2.2.1.length+1000)
def zlE:Cx ty:=mkCx base 56 [(78,slices_SortFunc_Lapi_Value_api_Value_spec),(79,zb5)] [(78,[true,false])] [(7,[(0,.keep),(2,.keep),(3,.keep),(4,.keep),(17,.keep),(18,.keep),(19,.keep)]),(13,[(0,.keep),(2,.keep),(3,.keep),(7,.boxOwn [(7,40)]),(8,.keep)])] [(7,1,[(0,.keep),(2,.keep),(3,.keep),(4,.keep)]),(13,3,[(2,.keep),(7,.keep)])] [(7,spW zqM zqQ (zlN) default zpZ zpT),(13,spW zpC zpu (zkV) default zov zoB)] []
theorem zxI:zX zlE (lp (body Tryz.f36) 0):=zN (id:=7) (V:=zqM) (B:=zqQ) (W:=zlN) (z:=default) (tr:=zpZ) (m:=zpT)
theorem zwl:zX zlE (lp (body Tryz.f36) 1):=zN (id:=13) (V:=zpC) (B:=zpu) (W:=zkV) (z:=default) (tr:=zov) (m:=zoB)
def zrx (l:List Value):Wy0 (ColumnStats):=.i (Int.ofNat l.length==0) (.k (⟨0,(⟨0,0,ByteArray.mk #[]⟩:Value),(⟨0,0,ByteArray.mk #[]⟩:Value),[]⟩:ColumnStats)) (.bn (ze8 l) fun r2=>.bn (zxR ((Int.ofNat l.length).toNat +(Int.ofNat r2.length).toNat +Int.toNat 0+r2.length+Int.toNat 0+Int.toNat 0+Int.toNat 0+(ByteArray.mk #[]).size+Int.toNat 0+Int.toNat 0+(ByteArray.mk #[]).size+0+1000) (Int.ofNat l.length) (Int.ofNat r2.length) 0 r2 0 0 0 (ByteArray.mk #[]) 0 0 (ByteArray.mk #[]) []) fun r1=>.i (decide ((0:Int)≤(0:Int))&&decide (0<Int.ofNat r1.2.1.length)) (.i (decide (0≤IntKind.i64.wrap (r1.1 - 1))&&decide (IntKind.i64.wrap (r1.1 - 1)<Int.ofNat r1.2.1.length)) (.bn (zxF (r1.1.toNat +Int.toNat 1+r1.2.1.length+r1.2.2.1.toNat +r1.2.2.2.1.toNat +r1.2.2.2.2.1.toNat +r1.2.2.2.2.2.1.size+r1.2.2.2.2.2.2.1.toNat +r1.2.2.2.2.2.2.2.1.toNat +r1.2.2.2.2.2.2.2.2.1.size+(Int.ofNat r1.2.2.2.2.2.2.2.2.2.length).toNat +(r1.2.1.getD (Int.toNat 0) default).Kind.toNat +(r1.2.1.getD (Int.toNat 0) default).Int.toNat +(r1.2.1.getD (Int.toNat 0) default).Text.size+(r1.2.1.getD (IntKind.i64.wrap (r1.1 - 1)).toNat default).Kind.toNat +(r1.2.1.getD (IntKind.i64.wrap (r1.1 - 1)).toNat default).Int.toNat +(r1.2.1.getD (IntKind.i64.wrap (r1.1 - 1)).toNat default).Text.size+0+1000) r1.1 1 r1.2.1 r1.2.2.1 r1.2.2.2.1 r1.2.2.2.2.1 r1.2.2.2.2.2.1 r1.2.2.2.2.2.2.1 r1.2.2.2.2.2.2.2.1 r1.2.2.2.2.2.2.2.2.1 (Int.ofNat r1.2.2.2.2.2.2.2.2.2.length) (r1.2.1.getD (Int.toNat 0) default).Kind (r1.2.1.getD (Int.toNat 0) default).Int (r1.2.1.getD (Int.toNat 0) default).Text (r1.2.1.getD (IntKind.i64.wrap (r1.1 - 1)).toNat default).Kind (r1.2.1.getD (IntKind.i64.wrap (r1.1 - 1)).toNat default).Int (r1.2.1.getD (IntKind.i64.wrap (r1.1 - 1)).toNat default).Text []) fun r0=>.k (⟨r0.2.2.2.2.2.2.2.1,(⟨r0.2.2.2.2.2.2.2.2.1,r0.2.2.2.2.2.2.2.2.2.1,r0.2.2.2.2.2.2.2.2.2.2.1⟩:Value),(⟨r0.2.2.2.2.2.2.2.2.2.2.2.1,r0.2.2.2.2.2.2.2.2.2.2.2.2.1,r0.2.2.2.2.2.2.2.2.2.2.2.2.2.1⟩:Value),r0.2.2.2.2.2.2.2.2.2.2.2.2.2.2⟩:ColumnStats)) .d) .d)
def zof (l:List Value):Bool×ColumnStats:=(zrx l).fin default
def zpt (r:ColumnStats):ARes ty:=⟨[.pure (.agg (base.enc 43 r))],[none]⟩
def zrz:AL base (List Value×Unit):=zf (aOwn 40) aNil
def zox:Ab.Spec ty:=zl zrz fun x=>((zof x.1).1,zpt (zof x.1).2)
theorem zvj:Sound Tryz.prog base 36 zox:=
 zt (cx':=zlE) zD zo zB (zu ⟨zkQ,zcf,trivial⟩) Tryz.call36 Tryz.func36 (c:=body Tryz.f36) (by kernel_rfl) (zh (l:=[lp (body Tryz.f36) 0,lp (body Tryz.f36) 1]) (by kernel_rfl) ⟨zxI,zwl,trivial⟩) (sg:=⟨[.pure],[false]⟩) (A:=zrz) (res:=zpt) (W:=fun x=>zrx x.1) (z:=default)
abbrev ttTstatisticsGather0:=Unit×Unit×Unit×Int×Int×Unit
abbrev ttTstatisticsGather1:=Table×(Int×Int×Unit×Unit)×List Row×Unit
abbrev ttTstatisticsGather2:=(Int×Int)⊕(Table×Int×Int)
abbrev ttTstatisticsGather3:=Unit×Unit×Unit×Int×Unit×Int×Int×List Row×Int×Int×Unit
abbrev ttTstatisticsGather4:=Table×(Int×Int×Unit×Unit)×(Int×Int×Unit×Unit)×List Value×List ColumnStats×Unit
abbrev ttTstatisticsGather5:=Int×Int×Table×Int×Int×Int×Int×List Value×List ColumnStats
abbrev ttTstatisticsGather6:=Table×(Int×Int×Unit×Unit)×(Int×Int×Unit×Unit)×List ColumnStats×Unit
abbrev ttTstatisticsGather7:=Int×Int×Int×Int×List ColumnStats
def zx1 (t23:Int) (t24:Int) (t:Table) (t2_0:Int) (t2_1:Int) (t22:List Row):Wy ttTstatisticsGather0 ttTstatisticsGather1 ttTstatisticsGather2:=.i (decide (t24<t23)) (.i (decide (0≤t24)&&decide (t24<Int.ofNat t22.length)) (.bn (zjY (Relation.mk t.Columns [Row.mk (t22.getD t24.toNat default).Values []])) fun r4=>.i (r4.2 != 0) (.k (.inl (0,0))) (.h ((),(),(),t23,(IntKind.i64.wrap (t24+1)),()) (t,(t2_0,t2_1,(),()),t22,()))) .d) (.k (.inr (t,t2_0,t2_1)))
def zlB (x:ttTstatisticsGather0) (y:ttTstatisticsGather1):Wy ttTstatisticsGather0 ttTstatisticsGather1 ttTstatisticsGather2:=zx1 x.2.2.2.1 x.2.2.2.2.1 y.1 y.2.1.1 y.2.1.2.1 y.2.2.1
def zyH (n:Nat) (t23:Int) (t24:Int) (t:Table) (t2_0:Int) (t2_1:Int) (t22:List Row):Bool×ttTstatisticsGather2:=zY (zlB) (.inl default) n ((),(),(),t23,t24,()) (t,(t2_0,t2_1,(),()),t22,())
def zpx (r:ttTstatisticsGather2):LTree ty:=.ite (isL r) (.done .ret [.ptr 360 0] [.box ([.lit (.int .i64 ((getL r).1)),.lit (.int .i64 ((getL r).2)),.lit (.slice none 0 0)]) false]) (.done (.exit 0) [.ptr 360 0,.ptr 361 0] [.box (base.enc 25 (getR r).1) false,.box ([.lit (.int .i64 (getR r).2.1),.lit (.int .i64 (getR r).2.2),.lit (.slice none 0 0)]) false])
def zq5:LL ty ttTstatisticsGather0:=za (zc8 360 0) (za (zc8 361 0) (za (lOwn 362) (za (lInt .i64) (za (lInt .i64) zG))))
def zrk:BL ty ttTstatisticsGather1:=bBox (zgF (fun x=>(⟨x.1,x.2.1,x.2.2.1,x.2.2.2.1⟩:Table)) (fun x=>(x.ID,x.Name,x.Columns,x.Rows,())) (fun _=>rfl) (za (lInt .i64) (za lStr (za (lSl 67) (za (lSl 38) zG))))) false (bBox (za (lInt .i64) (za (lInt .i64) (za lNil zG))) false (bArr 38 false (bNil)))
def zxv (i:Int) (t61:Int) (t62:Int) (t66:List Row) (t67:Int) (t68:Int) (t:Table) (t2_0:Int) (t2_1:Int) (s_0:Int) (s_1:Int) (l:List Value) (b4:List ColumnStats):Wy ttTstatisticsGather3 ttTstatisticsGather4 ttTstatisticsGather5:=.i (decide (t68<t67)) (.i (decide (0≤t68)&&decide (t68<Int.ofNat t66.length)) (.i (decide (0≤i)&&decide (i<Int.ofNat (t66.getD t68.toNat default).Values.length)) (.i (decide ((l.length+[(t66.getD t68.toNat default).Values.getD i.toNat default].length)*32≤zdn)) (.h ((),(),(),i,(),t61,t62,t66,t67,(IntKind.i64.wrap (t68+1)),()) (t,(t2_0,t2_1,(),()),(s_0,s_1,(),()),(l++[(t66.getD t68.toNat default).Values.getD i.toNat default]),b4,())) .d) .d) .d) (.k (t61,t62,t,t2_0,t2_1,s_0,s_1,l,b4))
def zkA (x:ttTstatisticsGather3) (y:ttTstatisticsGather4):Wy ttTstatisticsGather3 ttTstatisticsGather4 ttTstatisticsGather5:=zxv x.2.2.2.1 x.2.2.2.2.2.1 x.2.2.2.2.2.2.1 x.2.2.2.2.2.2.2.1 x.2.2.2.2.2.2.2.2.1 x.2.2.2.2.2.2.2.2.2.1 y.1 y.2.1.1 y.2.1.2.1 y.2.2.1.1 y.2.2.1.2.1 y.2.2.2.1 y.2.2.2.2.1
def zxg (n:Nat) (i:Int) (t61:Int) (t62:Int) (t66:List Row) (t67:Int) (t68:Int) (t:Table) (t2_0:Int) (t2_1:Int) (s_0:Int) (s_1:Int) (l:List Value) (b4:List ColumnStats):Bool×ttTstatisticsGather5:=zY (zkA) default n ((),(),(),i,(),t61,t62,t66,t67,t68,()) (t,(t2_0,t2_1,(),()),(s_0,s_1,(),()),l,b4,())
def zo4 (r:ttTstatisticsGather5):LTree ty:=.done (.exit 4) [.ptr 360 0,.ptr 361 0,.ptr 362 0,.own 363,.lit (.int .i64 r.1),.lit (.int .i64 r.2.1)] [.box (base.enc 25 r.2.2.1) false,.box ([.lit (.int .i64 r.2.2.2.1),.lit (.int .i64 r.2.2.2.2.1),.lit (.slice none 0 0)]) false,.box ([.lit (.int .i64 r.2.2.2.2.2.1),.lit (.int .i64 r.2.2.2.2.2.2.1),.own 364]) false,.arr 40 r.2.2.2.2.2.2.2.1 false,.arr 43 r.2.2.2.2.2.2.2.2 false]
def zpP:LL ty ttTstatisticsGather3:=za (zc8 360 0) (za (zc8 361 0) (za (zc8 362 0) (za (lInt .i64) (za (lOwn 363) (za (lInt .i64) (za (lInt .i64) (za (lSl 38) (za (lInt .i64) (za (lInt .i64) zG)))))))))
def zpR:BL ty ttTstatisticsGather4:=bBox (zgF (fun x=>(⟨x.1,x.2.1,x.2.2.1,x.2.2.2.1⟩:Table)) (fun x=>(x.ID,x.Name,x.Columns,x.Rows,())) (fun _=>rfl) (za (lInt .i64) (za lStr (za (lSl 67) (za (lSl 38) zG))))) false (bBox (za (lInt .i64) (za (lInt .i64) (za lNil zG))) false (bBox (za (lInt .i64) (za (lInt .i64) (za (lOwn 364) zG))) false (bArr 40 false (bArr 43 false (bNil)))))
def zw8 (t61:Int) (t62:Int) (t:Table) (t2_0:Int) (t2_1:Int) (s_0:Int) (s_1:Int) (b3:List ColumnStats):Wy ttTstatisticsGather0 ttTstatisticsGather6 ttTstatisticsGather7:=.i (decide (t62<t61)) (.bn (zxg (t62.toNat +t61.toNat +t62.toNat +t.Rows.length+(Int.ofNat t.Rows.length).toNat +Int.toNat 0+t.Columns.length+t.Rows.length+t2_0.toNat +t2_1.toNat +s_0.toNat +s_1.toNat +0+b3.length+1000) t62 t61 t62 t.Rows (Int.ofNat t.Rows.length) 0 t t2_0 t2_1 s_0 s_1 [] b3) fun r7=>.bn (zof r7.2.2.2.2.2.2.2.1) fun r6=>.i (decide ((r7.2.2.2.2.2.2.2.2.length+[r6].length)*96≤zdn)) (.h ((),(),(),(r7.1),(IntKind.i64.wrap (r7.2.1+1)),()) ((r7.2.2.1),((r7.2.2.2.1),(r7.2.2.2.2.1),(),()),((r7.2.2.2.2.2.1),(r7.2.2.2.2.2.2.1),(),()),(r7.2.2.2.2.2.2.2.2++[r6]),())) .d) (.k (t2_0,t2_1,s_0,s_1,b3))
def zkC (x:ttTstatisticsGather0) (y:ttTstatisticsGather6):Wy ttTstatisticsGather0 ttTstatisticsGather6 ttTstatisticsGather7:=zw8 x.2.2.2.1 x.2.2.2.2.1 y.1 y.2.1.1 y.2.1.2.1 y.2.2.1.1 y.2.2.1.2.1 y.2.2.2.1
def zwT (n:Nat) (t61:Int) (t62:Int) (t:Table) (t2_0:Int) (t2_1:Int) (s_0:Int) (s_1:Int) (b3:List ColumnStats):Bool×ttTstatisticsGather7:=zY (zkC) default n ((),(),(),t61,t62,()) (t,(t2_0,t2_1,(),()),(s_0,s_1,(),()),b3,())
def zoM (r:ttTstatisticsGather7):LTree ty:=.done (.exit 2) [.ptr 360 0,.ptr 361 0] [.box ([.lit (.int .i64 r.1),.lit (.int .i64 r.2.1),.lit (.slice none 0 0)]) false,.box ([.lit (.int .i64 r.2.2.1),.lit (.int .i64 r.2.2.2.1),.own 362]) false,.arr 43 r.2.2.2.2 false]
def zp0:LL ty ttTstatisticsGather0:=za (zc8 360 0) (za (zc8 361 0) (za (zc8 362 0) (za (lInt .i64) (za (lInt .i64) zG))))
def zpM:BL ty ttTstatisticsGather6:=bBox (zgF (fun x=>(⟨x.1,x.2.1,x.2.2.1,x.2.2.2.1⟩:Table)) (fun x=>(x.ID,x.Name,x.Columns,x.Rows,())) (fun _=>rfl) (za (lInt .i64) (za lStr (za (lSl 67) (za (lSl 38) zG))))) false (bBox (za (lInt .i64) (za (lInt .i64) (za lNil zG))) false (bBox (za (lInt .i64) (za (lInt .i64) (za (lOwn 363) zG))) false (bArr 43 false (bNil))))
def zqk (x:ttTstatisticsGather0) (y:ttTstatisticsGather1):Nat:=(Int.toNat x.2.2.2.1+Int.toNat x.2.2.2.2.1+y.1.Columns.length+y.1.Rows.length+Int.toNat y.2.1.1+Int.toNat y.2.1.2.1+y.2.2.1.length+1000)
def zoX (x:ttTstatisticsGather3) (y:ttTstatisticsGather4):Nat:=(Int.toNat x.2.2.2.1+Int.toNat x.2.2.2.2.2.1+Int.toNat x.2.2.2.2.2.2.1+x.2.2.2.2.2.2.2.1.length+Int.toNat x.2.2.2.2.2.2.2.2.1+Int.toNat x.2.2.2.2.2.2.2.2.2.1+y.1.Columns.length+y.1.Rows.length+Int.toNat y.2.1.1+Int.toNat y.2.1.2.1+Int.toNat y.2.2.1.1+Int.toNat y.2.2.1.2.1+y.2.2.2.1.length+y.2.2.2.2.1.length+1000)
def zo6 (x:ttTstatisticsGather0) (y:ttTstatisticsGather6):Nat:=(Int.toNat x.2.2.2.1+Int.toNat x.2.2.2.2.1+y.1.Columns.length+y.1.Rows.length+Int.toNat y.2.1.1+Int.toNat y.2.1.2.1+Int.toNat y.2.2.1.1+Int.toNat y.2.2.1.2.1+y.2.2.2.1.length+1000)
def ziQ:Cx ty:=mkCx base 90 [(35,znX),(36,zox)] [(36,[true])] [(4,[(1,.keep),(2,.keep),(22,.keep),(23,.keep),(24,.keep)]),(15,[(1,.keep),(2,.keep),(9,.boxOwn [(2,43)]),(61,.keep),(62,.keep)]),(19,[(1,.keep),(2,.keep),(9,.keep),(10,.keep),(11,.own 40),(61,.keep),(62,.keep),(66,.keep),(67,.keep),(68,.keep)])] [(4,1,[(1,.keep),(2,.keep)]),(4,0,[(2,.keep)]),(15,3,[(2,.keep),(9,.keep)]),(19,5,[(1,.keep),(2,.keep),(9,.keep),(11,.keep),(61,.keep),(62,.keep)])] [(4,spW zq5 zrk (zlB) (.inl default) zpx zqk),(19,spW zpP zpR (zkA) default zo4 zoX),(15,spW zp0 zpM (zkC) default zoM zo6)] []
theorem zxh:zX ziQ (lp (body Tryz.f12) 0):=zN (id:=4) (V:=zq5) (B:=zrk) (W:=zlB) (z:=.inl default) (tr:=zpx) (m:=zqk)
theorem zwv:zX ziQ (lp (body Tryz.f12) 2):=zN (id:=19) (V:=zpP) (B:=zpR) (W:=zkA) (z:=default) (tr:=zo4) (m:=zoX)
theorem zwH:zX ziQ (lp (body Tryz.f12) 1):=zN (id:=15) (V:=zp0) (B:=zpM) (W:=zkC) (z:=default) (tr:=zoM) (m:=zo6)
def zrF (t:Table):Wy0 (Stats):=.i (decide (Int.ofNat t.Rows.length>1000000)) (.k (⟨0,0,[]⟩:Stats)) (.i (decide ((0+t.Rows.length)*48≤zdn)) (.bn (zyH ((Int.ofNat ([]++t.Rows).length).toNat +Int.toNat 0+t.Columns.length+t.Rows.length+Int.toNat 0+Int.toNat 0+([]++t.Rows).length+1000) (Int.ofNat ([]++t.Rows).length) 0 t 0 0 ([]++t.Rows)) fun r12=>.i (isL r12) (.k (⟨(getL r12).1,(getL r12).2,[]⟩:Stats)) (.bn (zjY (Relation.mk (getR r12).1.Columns [])) fun r11=>.i (r11.2 != 0) (.k (⟨0,0,[]⟩:Stats)) (.bn (zwT ((Int.ofNat (getR r12).1.Columns.length).toNat +Int.toNat 0+(getR r12).1.Columns.length+(getR r12).1.Rows.length+(getR r12).2.1.toNat +(getR r12).2.2.toNat +(getR r12).1.ID.toNat +(Int.ofNat (getR r12).1.Rows.length).toNat +0+1000) (Int.ofNat (getR r12).1.Columns.length) 0 (getR r12).1 (getR r12).2.1 (getR r12).2.2 (getR r12).1.ID (Int.ofNat (getR r12).1.Rows.length) []) fun r10=>.k (⟨r10.2.2.1,r10.2.2.2.1,r10.2.2.2.2⟩:Stats)))) .d)
def ztT (t:Table):Bool×Stats:=(zrF t).fin default
def zpS (r:Stats):ARes ty:=⟨[.pure (.agg (base.enc 30 r))],[]⟩
def zry:AL base (Table×Unit):=zf (zg (vAgg 25)) aNil
def zoA:Ab.Spec ty:=zl zry fun x=>((ztT x.1).1,zpS (ztT x.1).2)
theorem zvv:Sound Tryz.prog base 12 zoA:=
 zt (cx':=ziQ) zD zo zB (zu ⟨zun,zvj,trivial⟩) Tryz.call12 Tryz.func12 (c:=body Tryz.f12) (by kernel_rfl) (zh (l:=[lp (body Tryz.f12) 0,lp (body Tryz.f12) 1,lp (body Tryz.f12) 2]) (by kernel_rfl) ⟨zxh,zwH,zwv,trivial⟩) (sg:=⟨[.pure],[]⟩) (A:=zry) (res:=zpS) (W:=fun x=>zrF x.1) (z:=default)
def zkp (r:Int):ARes ty:=⟨[.pure (.lit (.int .i64 r))],[]⟩
def zla:AL base (estimator×Scalar×Unit):=zf (zg (vAgg 88)) (zf (zg (vAgg 47)) aNil)
def zdU (F:estimator→Scalar→Bool×Int):Ab.Spec ty:=zl zla fun x=>((F x.1 x.2.1).1,zkp (F x.1 x.2.1).2)
def zqr:Cx ty:=mkCx base 39 [] [] [] [] [] []
def zjT (x_:estimator) (op:Int) (i:Int) (k:Int):Wy0 (Int):=.i (decide (x_.s.Rows>0)) (.i (decide (0≤i)&&decide (i<Int.ofNat x_.s.Columns.length)) (.i (decide (0≤k)&&decide (k<Int.ofNat x_.s.Columns.length)) (.i (!decide ((if (x_.s.Columns.getD k.toNat default).Distinct>(x_.s.Columns.getD i.toNat default).Distinct then (x_.s.Columns.getD k.toNat default).Distinct else (x_.s.Columns.getD i.toNat default).Distinct)=0)) (.i (op==5) (.k (if IntKind.i64.wrap (Int.tdiv 1000 (if (x_.s.Columns.getD k.toNat default).Distinct>(x_.s.Columns.getD i.toNat default).Distinct then (x_.s.Columns.getD k.toNat default).Distinct else (x_.s.Columns.getD i.toNat default).Distinct))>1 then IntKind.i64.wrap (Int.tdiv 1000 (if (x_.s.Columns.getD k.toNat default).Distinct>(x_.s.Columns.getD i.toNat default).Distinct then (x_.s.Columns.getD k.toNat default).Distinct else (x_.s.Columns.getD i.toNat default).Distinct)) else 1)) (.i (op==6) (.k (IntKind.i64.wrap (1000 - if IntKind.i64.wrap (Int.tdiv 1000 (if (x_.s.Columns.getD k.toNat default).Distinct>(x_.s.Columns.getD i.toNat default).Distinct then (x_.s.Columns.getD k.toNat default).Distinct else (x_.s.Columns.getD i.toNat default).Distinct))>1 then IntKind.i64.wrap (Int.tdiv 1000 (if (x_.s.Columns.getD k.toNat default).Distinct>(x_.s.Columns.getD i.toNat default).Distinct then (x_.s.Columns.getD k.toNat default).Distinct else (x_.s.Columns.getD i.toNat default).Distinct)) else 1))) (.k 333))) .d) .d) .d) (.i (op==5) (.k 0) (.i (op==6) (.k (IntKind.i64.wrap (1000 - 0))) (.k 333)))
def zcC (x_:estimator) (op:Int) (i:Int) (k:Int):Bool×Int:=(zjT x_ op i k).fin default
def zjm (r:Int):ARes ty:=⟨[.pure (.lit (.int .i64 r))],[]⟩
def zjV:AL base (estimator×Int×Int×Int×Unit):=zf (zg (vAgg 88)) (zf (zg (vInt .i64)) (zf (zg (vInt .i64)) (zf (zg (vInt .i64)) aNil)))
def zi8:Ab.Spec ty:=zl zjV fun x=>((zcC x.1 x.2.1 x.2.2.1 x.2.2.2.1).1,zjm (zcC x.1 x.2.1 x.2.2.1 x.2.2.2.1).2)
theorem zoo:Sound Tryz.prog base 127 zi8:=
 zt (cx':=zqr) zD zo zB (zu trivial) Tryz.call127 Tryz.func127 (c:=body Tryz.f127) (by kernel_rfl) (zh (l:=[]) (by kernel_rfl) trivial) (sg:=⟨[.pure],[]⟩) (A:=zjV) (res:=zjm) (W:=fun x=>zjT x.1 x.2.1 x.2.2.1 x.2.2.2.1) (z:=default)
def zs8:Cx ty:=mkCx base 36 [(79,zb5)] [] [] [] [] []
def zi3 (x_:estimator) (i:Int) (v:Value):Wy0 (Int):=.i (decide (0≤i)&&decide (i<Int.ofNat x_.s.Columns.length)) (.i (x_.s.Rows==0) (.k 0) (.bn (zbF v (x_.s.Columns.getD i.toNat default).Min) fun r1=>.i (decide (r1<0)) (.k 0) (.bn (zbF v (x_.s.Columns.getD i.toNat default).Max) fun r0=>.i (decide (r0>0)) (.k 0) (.i (!decide ((x_.s.Columns.getD i.toNat default).Distinct=0)) (.k (if IntKind.i64.wrap (Int.tdiv 1000 (x_.s.Columns.getD i.toNat default).Distinct)>1 then IntKind.i64.wrap (Int.tdiv 1000 (x_.s.Columns.getD i.toNat default).Distinct) else 1)) .d)))) .d
def zch (x_:estimator) (i:Int) (v:Value):Bool×Int:=(zi3 x_ i v).fin default
def zlk (r:Int):ARes ty:=⟨[.pure (.lit (.int .i64 r))],[]⟩
def zmq:AL base (estimator×Int×Value×Unit):=zf (zg (vAgg 88)) (zf (zg (vInt .i64)) (zf (zg (vAgg 40)) aNil))
def zfI:Ab.Spec ty:=zl zmq fun x=>((zch x.1 x.2.1 x.2.2.1).1,zlk (zch x.1 x.2.1 x.2.2.1).2)
theorem zhy:Sound Tryz.prog base 87 zfI:=
 zt (cx':=zs8) zD zo zB (zu ⟨zcf,trivial⟩) Tryz.call87 Tryz.func87 (c:=body Tryz.f87) (by kernel_rfl) (zh (l:=[]) (by kernel_rfl) trivial) (sg:=⟨[.pure],[]⟩) (A:=zmq) (res:=zlk) (W:=fun x=>zi3 x.1 x.2.1 x.2.2.1) (z:=default)
abbrev ttTstatisticsestimatorlt0:=Unit×Int×List Value×Int×Int×Unit
def ziz (n_:Int) (t16:List Value) (t17:Int) (t18:Int) (v:Value):Wy ttTstatisticsestimatorlt0 (Value×Unit) (Int):=.i (decide (t18<t17)) (.i (decide (0≤t18)&&decide (t18<Int.ofNat t16.length)) (.bn (zbF (t16.getD t18.toNat default) v) fun r0=>.i (decide (r0<0)) (.h ((),(IntKind.i64.wrap (n_+125)),t16,t17,(IntKind.i64.wrap (t18+1)),()) (v,())) (.h ((),n_,t16,t17,(IntKind.i64.wrap (t18+1)),()) (v,()))) .d) (.k n_)
def zit (x:ttTstatisticsestimatorlt0) (y:Value×Unit):Wy ttTstatisticsestimatorlt0 (Value×Unit) (Int):=ziz x.2.1 x.2.2.1 x.2.2.2.1 x.2.2.2.2.1 y.1
def zgD (n:Nat) (n_:Int) (t16:List Value) (t17:Int) (t18:Int) (v:Value):Bool×Int:=zY (zit) default n ((),n_,t16,t17,t18,()) (v,())
def zln (r:Int):LTree ty:=.done (.exit 0) [.lit (.int .i64 r)] []
def zlU:LL ty ttTstatisticsestimatorlt0:=za (zc8 120 0) (za (lInt .i64) (za (lSl 40) (za (lInt .i64) (za (lInt .i64) zG))))
def zl5:BL ty (Value×Unit):=bBox (zgF (fun x=>(⟨x.1,x.2.1,x.2.2.1⟩:Value)) (fun x=>(x.Kind,x.Int,x.Text,())) (fun _=>rfl) (za (lInt .i64) (za (lInt .i64) (za lStr zG)))) false (bNil)
def zld (x:ttTstatisticsestimatorlt0) (y:Value×Unit):Nat:=(Int.toNat x.2.1+x.2.2.1.length+Int.toNat x.2.2.2.1+Int.toNat x.2.2.2.2.1+1000)
def zl2:Cx ty:=mkCx base 30 [(79,zb5)] [] [(3,[(5,.keep),(7,.keep),(16,.keep),(17,.keep),(18,.keep)])] [(3,1,[(7,.keep)])] [(3,spW zlU zl5 (zit) default zln zld)] []
theorem zsy:zX zl2 (lp (body Tryz.f60) 0):=zN (id:=3) (V:=zlU) (B:=zl5) (W:=zit) (z:=default) (tr:=zln) (m:=zld)
def zi2 (x_:estimator) (i:Int) (v:Value):Wy0 (Int):=.i (decide (0≤i)&&decide (i<Int.ofNat x_.s.Columns.length)) (.bn (zgD (Int.toNat 0+(x_.s.Columns.getD i.toNat default).Bounds.length+(Int.ofNat (x_.s.Columns.getD i.toNat default).Bounds.length).toNat +Int.toNat 0+1000) 0 (x_.s.Columns.getD i.toNat default).Bounds (Int.ofNat (x_.s.Columns.getD i.toNat default).Bounds.length) 0 v) fun r2=>.k r2) .d
def zcj (x_:estimator) (i:Int) (v:Value):Bool×Int:=(zi2 x_ i v).fin default
def zlj (r:Int):ARes ty:=⟨[.pure (.lit (.int .i64 r))],[]⟩
def zmY:AL base (estimator×Int×Value×Unit):=zf (zg (vAgg 88)) (zf (zg (vInt .i64)) (zf (zg (vAgg 40)) aNil))
def zfM:Ab.Spec ty:=zl zmY fun x=>((zcj x.1 x.2.1 x.2.2.1).1,zlj (zcj x.1 x.2.1 x.2.2.1).2)
theorem zhB:Sound Tryz.prog base 60 zfM:=
 zt (cx':=zl2) zD zo zB (zu ⟨zcf,trivial⟩) Tryz.call60 Tryz.func60 (c:=body Tryz.f60) (by kernel_rfl) (zh (l:=[lp (body Tryz.f60) 0]) (by kernel_rfl) ⟨zsy,trivial⟩) (sg:=⟨[.pure],[]⟩) (A:=zmY) (res:=zlj) (W:=fun x=>zi2 x.1 x.2.1 x.2.2.1) (z:=default)
def ztw:Cx ty:=mkCx base 17 [(60,zfM),(87,zfI)] [] [] [] [] []
def ziX (x_:estimator) (i:Int) (v:Value):Wy0 (Int):=.bn (zcj x_ i v) fun r1=>.bn (zch x_ i v) fun r0=>.k (if IntKind.i64.wrap (r1+r0)<1000 then IntKind.i64.wrap (r1+r0) else 1000)
def zck (x_:estimator) (i:Int) (v:Value):Bool×Int:=(ziX x_ i v).fin default
def zk8 (r:Int):ARes ty:=⟨[.pure (.lit (.int .i64 r))],[]⟩
def zmP:AL base (estimator×Int×Value×Unit):=zf (zg (vAgg 88)) (zf (zg (vInt .i64)) (zf (zg (vAgg 40)) aNil))
def zhN:Ab.Spec ty:=zl zmP fun x=>((zck x.1 x.2.1 x.2.2.1).1,zk8 (zck x.1 x.2.1 x.2.2.1).2)
theorem zkq:Sound Tryz.prog base 61 zhN:=
 zt (cx':=ztw) zD zo zB (zu ⟨zhB,zhy,trivial⟩) Tryz.call61 Tryz.func61 (c:=body Tryz.f61) (by kernel_rfl) (zh (l:=[]) (by kernel_rfl) trivial) (sg:=⟨[.pure],[]⟩) (A:=zmP) (res:=zk8) (W:=fun x=>ziX x.1 x.2.1 x.2.2.1) (z:=default)
def zqu:Cx ty:=mkCx base 47 [(60,zfM),(61,zhN),(87,zfI)] [] [] [] [] []
def zjZ (x_:estimator) (op:Int) (i:Int) (v:Value):Wy0 (Int):=.i (op==5) (.bn (zch x_ i v) fun r0=>.k r0) (.i (op==6) (.bn (zch x_ i v) fun r1=>.k (IntKind.i64.wrap (1000 - r1))) (.i (op==7) (.bn (zcj x_ i v) fun r2=>.k r2) (.i (op==8) (.bn (zck x_ i v) fun r3=>.k r3) (.i (op==9) (.bn (zck x_ i v) fun r4=>.k (IntKind.i64.wrap (1000 - r4))) (.bn (zcj x_ i v) fun r5=>.k (IntKind.i64.wrap (1000 - r5)))))))
def zcz (x_:estimator) (op:Int) (i:Int) (v:Value):Bool×Int:=(zjZ x_ op i v).fin default
def zjq (r:Int):ARes ty:=⟨[.pure (.lit (.int .i64 r))],[]⟩
def zj5:AL base (estimator×Int×Int×Value×Unit):=zf (zg (vAgg 88)) (zf (zg (vInt .i64)) (zf (zg (vInt .i64)) (zf (zg (vAgg 40)) aNil)))
def zi9:Ab.Spec ty:=zl zj5 fun x=>((zcz x.1 x.2.1 x.2.2.1 x.2.2.2.1).1,zjq (zcz x.1 x.2.1 x.2.2.1 x.2.2.2.1).2)
theorem zon:Sound Tryz.prog base 128 zi9:=
 zt (cx':=zqu) zD zo zB (zu ⟨zhB,zkq,zhy,trivial⟩) Tryz.call128 Tryz.func128 (c:=body Tryz.f128) (by kernel_rfl) (zh (l:=[]) (by kernel_rfl) trivial) (sg:=⟨[.pure],[]⟩) (A:=zj5) (res:=zjq) (W:=fun x=>zjZ x.1 x.2.1 x.2.2.1 x.2.2.2.1) (z:=default)
def zso:Cx ty:=mkCx base 15 [] [] [] [] [] []
def ziD (x_:estimator) (i:Int):Wy0 (Bool):=.i (decide (i≥0)) (.k (decide (i<Int.ofNat x_.s.Columns.length))) (.k false)
def zbe (x_:estimator) (i:Int):Bool×Bool:=(ziD x_ i).fin default
def zkX (r:Bool):ARes ty:=⟨[.pure (.lit (.bool r))],[]⟩
def zmb:AL base (estimator×Int×Unit):=zf (zg (vAgg 88)) (zf (zg (vInt .i64)) aNil)
def zc9:Ab.Spec ty:=zl zmb fun x=>((zbe x.1 x.2.1).1,zkX (zbe x.1 x.2.1).2)
theorem zeH:Sound Tryz.prog base 59 zc9:=
 zt (cx':=zso) zD zo zB (zu trivial) Tryz.call59 Tryz.func59 (c:=body Tryz.f59) (by kernel_rfl) (zh (l:=[]) (by kernel_rfl) trivial) (sg:=⟨[.pure],[]⟩) (A:=zmb) (res:=zkX) (W:=fun x=>ziD x.1 x.2.1) (z:=default)
def zwg:Cx ty:=mkCx base 17 [] [] [] [] [] []
def zpV (op:Int):Wy0 (Int):=.i (zJa (Value.int IntKind.i64 op) (zvV (Value.int IntKind.i64 10) 8 (zvV (Value.int IntKind.i64 8) 10 (zvV (Value.int IntKind.i64 9) 7 (zvV (Value.int IntKind.i64 7) 9 []))))) (.k ((zJf (Value.int IntKind.i64 op) (zvV (Value.int IntKind.i64 10) 8 (zvV (Value.int IntKind.i64 8) 10 (zvV (Value.int IntKind.i64 9) 7 (zvV (Value.int IntKind.i64 7) 9 []))))).getD 0)) (.k op)
def zmm (op:Int):Bool×Int:=(zpV op).fin default
def zoc (r:Int):ARes ty:=⟨[.pure (.lit (.int .i64 r))],[]⟩
def zp6:AL base (Int×Unit):=zf (zg (vInt .i64)) aNil
def znm:Ab.Spec ty:=zl zp6 fun x=>((zmm x.1).1,zoc (zmm x.1).2)
theorem zua:Sound Tryz.prog base 126 znm:=
 zt (cx':=zwg) zD zo zB (zu trivial) Tryz.call126 Tryz.func126 (c:=body Tryz.f126) (by kernel_rfl) (zh (l:=[]) (by kernel_rfl) trivial) (sg:=⟨[.pure],[]⟩) (A:=zp6) (res:=zoc) (W:=fun x=>zpV x.1) (z:=default)
def zom:Cx ty:=mkCx base 63 [(59,zc9),(126,znm),(127,zi8),(128,zi9)] [] [] [] [] []
def zi6 (x_:estimator) (op:Int) (a:Scalar) (b:Scalar):Wy0 (Int):=.i (a.Kind==0) (.bn (zmm op) fun r6=>.i (b.Kind != 1) (.k 333) (.i (a.Kind==2) (.k 333) (.bn (zbe x_ b.Column) fun r5=>.i (!r5) (.k 333) (.i (a.Kind==1) (.bn (zbe x_ a.Column) fun r2=>.i (!r2) (.k 333) (.i (a.Kind==1) (.bn (zcC x_ r6 b.Column a.Column) fun r0=>.k r0) (.i (a.Kind==0) (.bn (zcz x_ r6 b.Column a.Value) fun r1=>.k r1) (.k 333)))) (.i (a.Kind==1) (.bn (zcC x_ r6 b.Column a.Column) fun r3=>.k r3) (.i (a.Kind==0) (.bn (zcz x_ r6 b.Column a.Value) fun r4=>.k r4) (.k 333))))))) (.i (a.Kind != 1) (.k 333) (.i (b.Kind==2) (.k 333) (.bn (zbe x_ a.Column) fun r12=>.i (!r12) (.k 333) (.i (b.Kind==1) (.bn (zbe x_ b.Column) fun r9=>.i (!r9) (.k 333) (.i (b.Kind==1) (.bn (zcC x_ op a.Column b.Column) fun r7=>.k r7) (.i (b.Kind==0) (.bn (zcz x_ op a.Column b.Value) fun r8=>.k r8) (.k 333)))) (.i (b.Kind==1) (.bn (zcC x_ op a.Column b.Column) fun r10=>.k r10) (.i (b.Kind==0) (.bn (zcz x_ op a.Column b.Value) fun r11=>.k r11) (.k 333)))))))
def zb3 (x_:estimator) (op:Int) (a:Scalar) (b:Scalar):Bool×Int:=(zi6 x_ op a b).fin default
def zio (r:Int):ARes ty:=⟨[.pure (.lit (.int .i64 r))],[]⟩
def zjb:AL base (estimator×Int×Scalar×Scalar×Unit):=zf (zg (vAgg 88)) (zf (zg (vInt .i64)) (zf (zg (vAgg 47)) (zf (zg (vAgg 47)) aNil)))
def zh3:Ab.Spec ty:=zl zjb fun x=>((zb3 x.1 x.2.1 x.2.2.1 x.2.2.2.1).1,zio (zb3 x.1 x.2.1 x.2.2.1 x.2.2.2.1).2)
theorem zm6:Sound Tryz.prog base 88 zh3:=
 zt (cx':=zom) zD zo zB (zu ⟨zeH,zua,zoo,zon,trivial⟩) Tryz.call88 Tryz.func88 (c:=body Tryz.f88) (by kernel_rfl) (zh (l:=[]) (by kernel_rfl) trivial) (sg:=⟨[.pure],[]⟩) (A:=zjb) (res:=zio) (W:=fun x=>zi6 x.1 x.2.1 x.2.2.1 x.2.2.2.1) (z:=default)
def zrj (zw:estimator→Scalar→Bool×Int):Cx ty:=mkCx base 121 [(46,(zdU zw)),(59,zc9),(87,zfI),(88,zh3)] [] [] [] [] []
def zkl (zw:estimator→Scalar→Bool×Int) (x_:estimator) (e:Scalar):Wy0 (Int):=.i (e.Kind==0) (.i (e.Value.Kind==2&&(e.Value.Int==1&&(e.Value.Text.toList==(ByteArray.mk #[]).toList&&true))) (.k 1000) (.k 0)) (.i (e.Kind==1) (.bn (zbe x_ e.Column) fun r12=>.i (r12) (.bn (zch x_ e.Column (Value.mk 2 1 (ByteArray.mk #[]))) fun r0=>.k r0) (.i (e.Kind != 2) (.k 333) (.i (e.Op==13) (.i (Int.ofNat e.Args.length==1) (.i (decide ((0:Int)≤(0:Int))&&decide (0<Int.ofNat e.Args.length)) (.bn (zw x_ (Scalar.mk (e.Args.getD (Int.toNat 0) default).Kind (e.Args.getD (Int.toNat 0) default).Column (e.Args.getD (Int.toNat 0) default).Value (e.Args.getD (Int.toNat 0) default).Op (e.Args.getD (Int.toNat 0) default).Args)) fun r1=>.k (IntKind.i64.wrap (1000 - r1))) .d) (.i (Int.ofNat e.Args.length != 2) (.k 333) (.i (e.Op==11) (.i (decide ((0:Int)≤(0:Int))&&decide (0<Int.ofNat e.Args.length)) (.bn (zw x_ (Scalar.mk (e.Args.getD (Int.toNat 0) default).Kind (e.Args.getD (Int.toNat 0) default).Column (e.Args.getD (Int.toNat 0) default).Value (e.Args.getD (Int.toNat 0) default).Op (e.Args.getD (Int.toNat 0) default).Args)) fun r3=>.i (decide ((0:Int)≤(1:Int))&&decide (1<Int.ofNat e.Args.length)) (.bn (zw x_ (Scalar.mk (e.Args.getD (Int.toNat 1) default).Kind (e.Args.getD (Int.toNat 1) default).Column (e.Args.getD (Int.toNat 1) default).Value (e.Args.getD (Int.toNat 1) default).Op (e.Args.getD (Int.toNat 1) default).Args)) fun r2=>.k (IntKind.i64.wrap ((IntKind.i64.wrap (r3*r2)).tdiv 1000))) .d) .d) (.i (e.Op==12) (.i (decide ((0:Int)≤(0:Int))&&decide (0<Int.ofNat e.Args.length)) (.bn (zw x_ (Scalar.mk (e.Args.getD (Int.toNat 0) default).Kind (e.Args.getD (Int.toNat 0) default).Column (e.Args.getD (Int.toNat 0) default).Value (e.Args.getD (Int.toNat 0) default).Op (e.Args.getD (Int.toNat 0) default).Args)) fun r5=>.i (decide ((0:Int)≤(1:Int))&&decide (1<Int.ofNat e.Args.length)) (.bn (zw x_ (Scalar.mk (e.Args.getD (Int.toNat 1) default).Kind (e.Args.getD (Int.toNat 1) default).Column (e.Args.getD (Int.toNat 1) default).Value (e.Args.getD (Int.toNat 1) default).Op (e.Args.getD (Int.toNat 1) default).Args)) fun r4=>.k (IntKind.i64.wrap (IntKind.i64.wrap (r5+r4) - IntKind.i64.wrap ((IntKind.i64.wrap (r5*r4)).tdiv 1000)))) .d) .d) (.i (decide (e.Op≥5)) (.i (decide (e.Op≤10)) (.i (decide ((0:Int)≤(0:Int))&&decide (0<Int.ofNat e.Args.length)) (.i (decide ((0:Int)≤(1:Int))&&decide (1<Int.ofNat e.Args.length)) (.bn (zb3 x_ e.Op (Scalar.mk (e.Args.getD (Int.toNat 0) default).Kind (e.Args.getD (Int.toNat 0) default).Column (e.Args.getD (Int.toNat 0) default).Value (e.Args.getD (Int.toNat 0) default).Op (e.Args.getD (Int.toNat 0) default).Args) (Scalar.mk (e.Args.getD (Int.toNat 1) default).Kind (e.Args.getD (Int.toNat 1) default).Column (e.Args.getD (Int.toNat 1) default).Value (e.Args.getD (Int.toNat 1) default).Op (e.Args.getD (Int.toNat 1) default).Args)) fun r6=>.k r6) .d) .d) (.k 333)) (.k 333)))))) (.i (Int.ofNat e.Args.length != 2) (.k 333) (.i (e.Op==11) (.i (decide ((0:Int)≤(0:Int))&&decide (0<Int.ofNat e.Args.length)) (.bn (zw x_ (Scalar.mk (e.Args.getD (Int.toNat 0) default).Kind (e.Args.getD (Int.toNat 0) default).Column (e.Args.getD (Int.toNat 0) default).Value (e.Args.getD (Int.toNat 0) default).Op (e.Args.getD (Int.toNat 0) default).Args)) fun r8=>.i (decide ((0:Int)≤(1:Int))&&decide (1<Int.ofNat e.Args.length)) (.bn (zw x_ (Scalar.mk (e.Args.getD (Int.toNat 1) default).Kind (e.Args.getD (Int.toNat 1) default).Column (e.Args.getD (Int.toNat 1) default).Value (e.Args.getD (Int.toNat 1) default).Op (e.Args.getD (Int.toNat 1) default).Args)) fun r7=>.k (IntKind.i64.wrap ((IntKind.i64.wrap (r8*r7)).tdiv 1000))) .d) .d) (.i (e.Op==12) (.i (decide ((0:Int)≤(0:Int))&&decide (0<Int.ofNat e.Args.length)) (.bn (zw x_ (Scalar.mk (e.Args.getD (Int.toNat 0) default).Kind (e.Args.getD (Int.toNat 0) default).Column (e.Args.getD (Int.toNat 0) default).Value (e.Args.getD (Int.toNat 0) default).Op (e.Args.getD (Int.toNat 0) default).Args)) fun r10=>.i (decide ((0:Int)≤(1:Int))&&decide (1<Int.ofNat e.Args.length)) (.bn (zw x_ (Scalar.mk (e.Args.getD (Int.toNat 1) default).Kind (e.Args.getD (Int.toNat 1) default).Column (e.Args.getD (Int.toNat 1) default).Value (e.Args.getD (Int.toNat 1) default).Op (e.Args.getD (Int.toNat 1) default).Args)) fun r9=>.k (IntKind.i64.wrap (IntKind.i64.wrap (r10+r9) - IntKind.i64.wrap ((IntKind.i64.wrap (r10*r9)).tdiv 1000)))) .d) .d) (.i (decide (e.Op≥5)) (.i (decide (e.Op≤10)) (.i (decide ((0:Int)≤(0:Int))&&decide (0<Int.ofNat e.Args.length)) (.i (decide ((0:Int)≤(1:Int))&&decide (1<Int.ofNat e.Args.length)) (.bn (zb3 x_ e.Op (Scalar.mk (e.Args.getD (Int.toNat 0) default).Kind (e.Args.getD (Int.toNat 0) default).Column (e.Args.getD (Int.toNat 0) default).Value (e.Args.getD (Int.toNat 0) default).Op (e.Args.getD (Int.toNat 0) default).Args) (Scalar.mk (e.Args.getD (Int.toNat 1) default).Kind (e.Args.getD (Int.toNat 1) default).Column (e.Args.getD (Int.toNat 1) default).Value (e.Args.getD (Int.toNat 1) default).Op (e.Args.getD (Int.toNat 1) default).Args)) fun r11=>.k r11) .d) .d) (.k 333)) (.k 333)))))))) (.i (e.Kind != 2) (.k 333) (.i (e.Op==13) (.i (Int.ofNat e.Args.length==1) (.i (decide ((0:Int)≤(0:Int))&&decide (0<Int.ofNat e.Args.length)) (.bn (zw x_ (Scalar.mk (e.Args.getD (Int.toNat 0) default).Kind (e.Args.getD (Int.toNat 0) default).Column (e.Args.getD (Int.toNat 0) default).Value (e.Args.getD (Int.toNat 0) default).Op (e.Args.getD (Int.toNat 0) default).Args)) fun r13=>.k (IntKind.i64.wrap (1000 - r13))) .d) (.i (Int.ofNat e.Args.length != 2) (.k 333) (.i (e.Op==11) (.i (decide ((0:Int)≤(0:Int))&&decide (0<Int.ofNat e.Args.length)) (.bn (zw x_ (Scalar.mk (e.Args.getD (Int.toNat 0) default).Kind (e.Args.getD (Int.toNat 0) default).Column (e.Args.getD (Int.toNat 0) default).Value (e.Args.getD (Int.toNat 0) default).Op (e.Args.getD (Int.toNat 0) default).Args)) fun r15=>.i (decide ((0:Int)≤(1:Int))&&decide (1<Int.ofNat e.Args.length)) (.bn (zw x_ (Scalar.mk (e.Args.getD (Int.toNat 1) default).Kind (e.Args.getD (Int.toNat 1) default).Column (e.Args.getD (Int.toNat 1) default).Value (e.Args.getD (Int.toNat 1) default).Op (e.Args.getD (Int.toNat 1) default).Args)) fun r14=>.k (IntKind.i64.wrap ((IntKind.i64.wrap (r15*r14)).tdiv 1000))) .d) .d) (.i (e.Op==12) (.i (decide ((0:Int)≤(0:Int))&&decide (0<Int.ofNat e.Args.length)) (.bn (zw x_ (Scalar.mk (e.Args.getD (Int.toNat 0) default).Kind (e.Args.getD (Int.toNat 0) default).Column (e.Args.getD (Int.toNat 0) default).Value (e.Args.getD (Int.toNat 0) default).Op (e.Args.getD (Int.toNat 0) default).Args)) fun r17=>.i (decide ((0:Int)≤(1:Int))&&decide (1<Int.ofNat e.Args.length)) (.bn (zw x_ (Scalar.mk (e.Args.getD (Int.toNat 1) default).Kind (e.Args.getD (Int.toNat 1) default).Column (e.Args.getD (Int.toNat 1) default).Value (e.Args.getD (Int.toNat 1) default).Op (e.Args.getD (Int.toNat 1) default).Args)) fun r16=>.k (IntKind.i64.wrap (IntKind.i64.wrap (r17+r16) - IntKind.i64.wrap ((IntKind.i64.wrap (r17*r16)).tdiv 1000)))) .d) .d) (.i (decide (e.Op≥5)) (.i (decide (e.Op≤10)) (.i (decide ((0:Int)≤(0:Int))&&decide (0<Int.ofNat e.Args.length)) (.i (decide ((0:Int)≤(1:Int))&&decide (1<Int.ofNat e.Args.length)) (.bn (zb3 x_ e.Op (Scalar.mk (e.Args.getD (Int.toNat 0) default).Kind (e.Args.getD (Int.toNat 0) default).Column (e.Args.getD (Int.toNat 0) default).Value (e.Args.getD (Int.toNat 0) default).Op (e.Args.getD (Int.toNat 0) default).Args) (Scalar.mk (e.Args.getD (Int.toNat 1) default).Kind (e.Args.getD (Int.toNat 1) default).Column (e.Args.getD (Int.toNat 1) default).Value (e.Args.getD (Int.toNat 1) default).Op (e.Args.getD (Int.toNat 1) default).Args)) fun r18=>.k r18) .d) .d) (.k 333)) (.k 333)))))) (.i (Int.ofNat e.Args.length != 2) (.k 333) (.i (e.Op==11) (.i (decide ((0:Int)≤(0:Int))&&decide (0<Int.ofNat e.Args.length)) (.bn (zw x_ (Scalar.mk (e.Args.getD (Int.toNat 0) default).Kind (e.Args.getD (Int.toNat 0) default).Column (e.Args.getD (Int.toNat 0) default).Value (e.Args.getD (Int.toNat 0) default).Op (e.Args.getD (Int.toNat 0) default).Args)) fun r20=>.i (decide ((0:Int)≤(1:Int))&&decide (1<Int.ofNat e.Args.length)) (.bn (zw x_ (Scalar.mk (e.Args.getD (Int.toNat 1) default).Kind (e.Args.getD (Int.toNat 1) default).Column (e.Args.getD (Int.toNat 1) default).Value (e.Args.getD (Int.toNat 1) default).Op (e.Args.getD (Int.toNat 1) default).Args)) fun r19=>.k (IntKind.i64.wrap ((IntKind.i64.wrap (r20*r19)).tdiv 1000))) .d) .d) (.i (e.Op==12) (.i (decide ((0:Int)≤(0:Int))&&decide (0<Int.ofNat e.Args.length)) (.bn (zw x_ (Scalar.mk (e.Args.getD (Int.toNat 0) default).Kind (e.Args.getD (Int.toNat 0) default).Column (e.Args.getD (Int.toNat 0) default).Value (e.Args.getD (Int.toNat 0) default).Op (e.Args.getD (Int.toNat 0) default).Args)) fun r22=>.i (decide ((0:Int)≤(1:Int))&&decide (1<Int.ofNat e.Args.length)) (.bn (zw x_ (Scalar.mk (e.Args.getD (Int.toNat 1) default).Kind (e.Args.getD (Int.toNat 1) default).Column (e.Args.getD (Int.toNat 1) default).Value (e.Args.getD (Int.toNat 1) default).Op (e.Args.getD (Int.toNat 1) default).Args)) fun r21=>.k (IntKind.i64.wrap (IntKind.i64.wrap (r22+r21) - IntKind.i64.wrap ((IntKind.i64.wrap (r22*r21)).tdiv 1000)))) .d) .d) (.i (decide (e.Op≥5)) (.i (decide (e.Op≤10)) (.i (decide ((0:Int)≤(0:Int))&&decide (0<Int.ofNat e.Args.length)) (.i (decide ((0:Int)≤(1:Int))&&decide (1<Int.ofNat e.Args.length)) (.bn (zb3 x_ e.Op (Scalar.mk (e.Args.getD (Int.toNat 0) default).Kind (e.Args.getD (Int.toNat 0) default).Column (e.Args.getD (Int.toNat 0) default).Value (e.Args.getD (Int.toNat 0) default).Op (e.Args.getD (Int.toNat 0) default).Args) (Scalar.mk (e.Args.getD (Int.toNat 1) default).Kind (e.Args.getD (Int.toNat 1) default).Column (e.Args.getD (Int.toNat 1) default).Value (e.Args.getD (Int.toNat 1) default).Op (e.Args.getD (Int.toNat 1) default).Args)) fun r23=>.k r23) .d) .d) (.k 333)) (.k 333))))))))
def zlp (zw:estimator→Scalar→Bool×Int) (x_:estimator) (e:Scalar):Bool×Int:=(zkl zw x_ e).fin default
theorem zpa (zw:estimator→Scalar→Bool×Int) (zrm:Sound Tryz.prog base 46 (zdU zw)):Sound Tryz.prog base 46 (zdU (zlp zw)):=
 zt (cx':=(zrj zw)) zD zo zB (zu ⟨zrm,zeH,zhy,zm6,trivial⟩) Tryz.call46 Tryz.func46 (c:=body Tryz.f46) (by kernel_rfl) (zh (l:=[]) (by kernel_rfl) trivial) (sg:=⟨[.pure],[]⟩) (A:=zla) (res:=zkp) (W:=fun x=>zkl zw x.1 x.2.1) (z:=default)
def zEu:Nat→(estimator→Scalar→Bool×Int)
 | 0=>fun _ _=>(false,default)
 | n+1=>zlp (zEu n)
def zli (n:Nat):estimator→Scalar→Bool×Int:=zEu n
theorem zBF:∀ n,Sound Tryz.prog base 46 (zdU (zli n))
 | 0=>zbp Tryz.call46 (fun _=>rfl)
 | n+1=>by
  have ih:=zBF n
  exact zpa _ (ih)
def zmE:estimator→Scalar→Bool×Int:=zli 1000
def statistics_estimator_cond_spec:Ab.Spec ty:=zdU zmE
theorem zqp:Sound Tryz.prog base 46 statistics_estimator_cond_spec:=(zBF 1000)
def zt1:Cx ty:=mkCx base 12 [(15,zdC),(46,statistics_estimator_cond_spec)] [] [] [] [] []
def znt (s:Stats) (cond:Scalar):Wy0 (Int):=.bn (zd0 s) fun r1=>.i (!r1) (.k 0) (.bn (zmE (estimator.mk s) (Scalar.mk cond.Kind cond.Column cond.Value cond.Op cond.Args)) fun r0=>.k r0)
def zoH (s:Stats) (cond:Scalar):Bool×Int:=(znt s cond).fin default
def zlS (r:Int):ARes ty:=⟨[.pure (.lit (.int .i64 r))],[]⟩
def znl:AL base (Stats×Scalar×Unit):=zf (zg (vAgg 30)) (zf (zg (vAgg 47)) aNil)
def zlr:Ab.Spec ty:=zl znl fun x=>((zoH x.1 x.2.1).1,zlS (zoH x.1 x.2.1).2)
theorem zrZ:Sound Tryz.prog base 19 zlr:=
 zt (cx':=zt1) zD zo zB (zu ⟨zei,zqp,trivial⟩) Tryz.call19 Tryz.func19 (c:=body Tryz.f19) (by kernel_rfl) (zh (l:=[]) (by kernel_rfl) trivial) (sg:=⟨[.pure],[]⟩) (A:=znl) (res:=zlS) (W:=fun x=>znt x.1 x.2.1) (z:=default)
abbrev ttTlaw37awake0:=Unit×Unit×Int×Int×Unit
abbrev ttTlaw37awake1:=(Int×ByteArray×Unit×Unit×Unit)×List Int×List Column×List Row×Unit
abbrev ttTlaw37awake2:=Int×ByteArray×List Column×List Row
def zCy (t10:Int) (t11:Int) (t_0:Int) (t_1:ByteArray) (t9:List Int) (b2:List Column) (b3:List Row):Wy ttTlaw37awake0 ttTlaw37awake1 ttTlaw37awake2:=.i (decide (t11<t10)) (.i (decide (0≤t11)&&decide (t11<Int.ofNat t9.length)) (.i (decide ((b3.length+[Row.mk [(zpj (t9.getD t11.toNat default)).2] []].length)*48≤zdn)) (.h ((),(),t10,(IntKind.i64.wrap (t11+1)),()) ((t_0,t_1,(),(),()),t9,b2,(b3++[Row.mk [(zpj (t9.getD t11.toNat default)).2] []]),())) .d) .d) (.k (t_0,t_1,b2,b3))
def zwW (x:ttTlaw37awake0) (y:ttTlaw37awake1):Wy ttTlaw37awake0 ttTlaw37awake1 ttTlaw37awake2:=zCy x.2.2.1 x.2.2.2.1 y.1.1 y.1.2.1 y.2.1 y.2.2.1 y.2.2.2.1
def zvZ (r:ttTlaw37awake2):LTree ty:=.done (.exit 0) [.ptr 368 0] [.box ([.lit (.int .i64 r.1),.lit (.string r.2.1),.own 369,.own 370]) false,.arr 67 r.2.2.1 false,.arr 38 r.2.2.2 false]
def zxq:LL ty ttTlaw37awake0:=za (zc8 368 0) (za (lOwn 369) (za (lInt .i64) (za (lInt .i64) zG)))
def zxe:BL ty ttTlaw37awake1:=bBox (za (lInt .i64) (za lStr (za (lOwn 370) (za (lOwn 371) zG)))) false (bArr 2 false (bArr 67 false (bArr 38 false (bNil))))
def zvF (x:ttTlaw37awake0) (y:ttTlaw37awake1):Nat:=(Int.toNat x.2.2.1+Int.toNat x.2.2.2.1+Int.toNat y.1.1+y.1.2.1.size+y.2.1.length+y.2.2.1.length+y.2.2.2.1.length+1000)
def zw2:Cx ty:=mkCx base0 92 [(12,zoA),(15,zdC),(19,zlr),(21,zsK),(24,zoU),(32,zsE),(33,zvy)] [] [(3,[(1,.boxOwn [(3,38)]),(9,.keep),(10,.keep),(11,.keep)])] [(3,1,[(1,.keep)])] [(3,spW zxq zxe (zwW) default zvZ zvF)] []
theorem zBQ:zX zw2 (lp (body Tryz.f10) 0):=zN (id:=3) (V:=zxq) (B:=zxe) (W:=zwW) (z:=default) (tr:=zvZ) (m:=zvF)
def zy5:Wy0 (Bool):=.k true
def zAH:Bool×Bool:=(zy5).fin default
def zv2 (r:Bool):ARes ty:=⟨[.pure (.lit (.bool r))],[]⟩
def zyL:AL base0 (Unit):=aNil
def zuT:Ab.Spec ty:=zl zyL fun x=>((zAH ).1,zv2 (zAH ).2)
theorem zAB:Sound Tryz.prog base0 10 zuT:=
 zt (cx':=zw2) zD zr2 zB (zu ⟨zvv.nodr,zei.nodr,zrZ.nodr,zza.nodr,zvq,zzb.nodr,zBw.nodr,trivial⟩) Tryz.call10 Tryz.func10 (c:=body Tryz.f10) (by kernel_rfl) (zh (l:=[lp (body Tryz.f10) 0]) (by kernel_rfl) ⟨zBQ,trivial⟩) (sg:=⟨[.pure],[]⟩) (A:=zyL) (res:=zv2) (W:=fun x=>zy5 ) (z:=default)
abbrev ttTref01Short0:=List Value×Int×Int×Unit
abbrev ttTref01Short1:=Bool⊕(List Value×Int)
def zr3 (l:List Value) (n_:Int) (i:Int):Wy ttTref01Short0 (Unit) ttTref01Short1:=.i (decide (i<Int.ofNat l.length)) (.i (decide (0≤i)&&decide (i<Int.ofNat l.length)) (.i (decide (Int.ofNat (l.getD i.toNat default).Text.size>300)) (.k (.inl false)) (.h (l,n_,(IntKind.i64.wrap (i+1)),()) ())) .d) (.k (.inr (l,n_)))
def zrS (x:ttTref01Short0) (y:Unit):Wy ttTref01Short0 (Unit) ttTref01Short1:=zr3 x.1 x.2.1 x.2.2.1
def zsc (n:Nat) (l:List Value) (n_:Int) (i:Int):Bool×ttTref01Short1:=zY (zrS) (.inl default) n (l,n_,i,()) ()
def zvR (r:ttTref01Short1):LTree ty:=.ite (isL r) (.done .ret [.lit (.bool (getL r))] []) (.done (.exit 0) [.sl 40 (getR r).1,.lit (.int .i64 (getR r).2)] [])
def zw9:LL ty ttTref01Short0:=za (lSl 40) (za (lInt .i64) (za (lInt .i64) zG))
def zwK:BL ty (Unit):=bNil
def zvA (x:ttTref01Short0) (y:Unit):Nat:=(x.1.length+Int.toNat x.2.1+Int.toNat x.2.2.1+1)
def zxP:Cx ty:=mkCx base 23 [] [] [(2,[(0,.keep),(1,.keep),(5,.keep)])] [(2,1,[(0,.keep),(1,.keep)]),(2,0,[(4,.keep)])] [(2,spW zw9 zwK (zrS) (.inl default) zvR zvA)] []
theorem zBJ:zX zxP (lp (body Tryz.f27) 0):=zN (id:=2) (V:=zw9) (B:=zwK) (W:=zrS) (z:=.inl default) (tr:=zvR) (m:=zvA)
def zto (l:List Value) (n_:Int):Wy0 (Bool):=.bn (zsc (l.length+n_.toNat +Int.toNat 0+1) l n_ 0) fun r0=>.i (isL r0) (.k (getL r0)) (.k (decide (Int.ofNat (getR r0).1.length≤(getR r0).2)))
def zg9 (l:List Value) (n_:Int):Bool×Bool:=(zto l n_).fin default
def zwd (r:Bool):ARes ty:=⟨[.pure (.lit (.bool r))],[]⟩
def zyY:AL base (List Value×Int×Unit):=zf (zg (vSl 40)) (zf (zg (vInt .i64)) aNil)
def zpl:Ab.Spec ty:=zl zyY fun x=>((zg9 x.1 x.2.1).1,zwd (zg9 x.1 x.2.1).2)
theorem ztA:Sound Tryz.prog base 27 zpl:=
 zt (cx':=zxP) zD zo zB (zu trivial) Tryz.call27 Tryz.func27 (c:=body Tryz.f27) (by kernel_rfl) (zh (l:=[lp (body Tryz.f27) 0]) (by kernel_rfl) ⟨zBJ,trivial⟩) (sg:=⟨[.pure],[]⟩) (A:=zyY) (res:=zwd) (W:=fun x=>zto x.1 x.2.1) (z:=default)
def zCz:Cx ty:=mkCx base 36 [] [] [] [] [] []
def ztf (v:Value):Wy0 (Bool):=.i (v.Kind==0) (.k (v.Text.toList==(ByteArray.mk #[]).toList)) (.i (v.Kind==1) (.i (v.Int==0) (.k (decide (Int.ofNat v.Text.size≤255))) (.k false)) (.i (v.Kind==2) (.i (v.Text.toList==(ByteArray.mk #[]).toList) (.i (v.Int==0) (.k true) (.k (v.Int==1))) (.k false)) (.k false)))
def zkc (v:Value):Bool×Bool:=(ztf v).fin default
def zvC (r:Bool):ARes ty:=⟨[.pure (.lit (.bool r))],[]⟩
def zyM:AL base (Value×Unit):=zf (zg (vAgg 40)) aNil
def zuQ:Ab.Spec ty:=zl zyM fun x=>((zkc x.1).1,zvC (zkc x.1).2)
theorem zAy:Sound Tryz.prog base 80 zuQ:=
 zt (cx':=zCz) zD zo zB (zu trivial) Tryz.call80 Tryz.func80 (c:=body Tryz.f80) (by kernel_rfl) (zh (l:=[]) (by kernel_rfl) trivial) (sg:=⟨[.pure],[]⟩) (A:=zyM) (res:=zvC) (W:=fun x=>ztf x.1) (z:=default)
abbrev ttTref37validColumn0:=Unit×Unit×Int×Unit
abbrev ttTref37validColumn1:=ColumnStats×Value×Unit
def zi5 (i:Int) (c:ColumnStats) (last:Value):Wy ttTref37validColumn0 ttTref37validColumn1 (Bool⊕Unit):=.i (decide (i<8)) (.i (decide (0≤i)&&decide (i<Int.ofNat c.Bounds.length)) (.bn (zkc (c.Bounds.getD i.toNat default)) fun r1=>.i (!r1) (.k (.inl false)) (.i ((c.Bounds.getD i.toNat default).Kind != c.Min.Kind) (.k (.inl false)) (.bn (zef last (c.Bounds.getD i.toNat default)) fun r0=>.i (decide (r0>0)) (.k (.inl false)) (.h ((),(),(IntKind.i64.wrap (i+1)),()) (c,(c.Bounds.getD i.toNat default),()))))) .d) (.k (.inr ()))
def zi1 (x:ttTref37validColumn0) (y:ttTref37validColumn1):Wy ttTref37validColumn0 ttTref37validColumn1 (Bool⊕Unit):=zi5 x.2.2.1 y.1 y.2.1
def zqJ (n:Nat) (i:Int) (c:ColumnStats) (last:Value):Bool×(Bool⊕Unit):=zY (zi1) (.inl default) n ((),(),i,()) (c,last,())
def zqi (r:Bool⊕Unit):LTree ty:=.ite (isL r) (.done .ret [.lit (.bool (getL r))] []) (.done (.exit 0) [] [])
def zri:LL ty ttTref37validColumn0:=za (zc8 452 0) (za (zc8 453 0) (za (lInt .i64) zG))
def zqU:BL ty ttTref37validColumn1:=bBox (zgF (fun x=>(⟨x.1,⟨x.2.1,x.2.2.1,x.2.2.2.1⟩,⟨x.2.2.2.2.1,x.2.2.2.2.2.1,x.2.2.2.2.2.2.1⟩,x.2.2.2.2.2.2.2.1⟩:ColumnStats)) (fun x=>(x.Distinct,x.Min.Kind,x.Min.Int,x.Min.Text,x.Max.Kind,x.Max.Int,x.Max.Text,x.Bounds,())) (fun _=>rfl) (za (lInt .i64) (za (lInt .i64) (za (lInt .i64) (za lStr (za (lInt .i64) (za (lInt .i64) (za lStr (za (lSl 40) zG))))))))) false (bBox (zgF (fun x=>(⟨x.1,x.2.1,x.2.2.1⟩:Value)) (fun x=>(x.Kind,x.Int,x.Text,())) (fun _=>rfl) (za (lInt .i64) (za (lInt .i64) (za lStr zG)))) false (bNil))
def zpI (x:ttTref37validColumn0) (y:ttTref37validColumn1):Nat:=(Int.toNat x.2.2.1+y.1.Bounds.length+1)
def zqP:Cx ty:=mkCx base 113 [(16,zif),(80,zuQ)] [] [(7,[(2,.keep),(5,.keep),(6,.keep)])] [(7,1,[]),(7,0,[(4,.keep)])] [(7,spW zri zqU (zi1) (.inl default) zqi zpI)] []
theorem zxo:zX zqP (lp (body Tryz.f58) 0):=zN (id:=7) (V:=zri) (B:=zqU) (W:=zi1) (z:=.inl default) (tr:=zqi) (m:=zpI)
def zmj (c:ColumnStats) (rows:Int):Wy0 (Bool):=.i (rows==0) (.i (c.Distinct==0) (.i (c.Min.Kind==0&&(c.Min.Int==0&&(c.Min.Text.toList==(ByteArray.mk #[]).toList&&true))) (.i (c.Max.Kind==0&&(c.Max.Int==0&&(c.Max.Text.toList==(ByteArray.mk #[]).toList&&true))) (.k (Int.ofNat c.Bounds.length==0)) (.k false)) (.k false)) (.k false)) (.i (decide (c.Distinct<1)) (.k false) (.i (decide (c.Distinct>rows)) (.k false) (.bn (zkc c.Min) fun r7=>.i (!r7) (.k false) (.bn (zkc c.Max) fun r6=>.i (!r6) (.k false) (.i (c.Min.Kind != c.Max.Kind) (.k false) (.bn (zef c.Min c.Max) fun r5=>.i (decide (r5>0)) (.k false) (.i (Int.ofNat c.Bounds.length != 8) (.k false) (.i (decide ((0:Int)≤(7:Int))&&decide (7<Int.ofNat c.Bounds.length)) (.i (!((c.Bounds.getD (Int.toNat 7) default).Kind==c.Max.Kind&&((c.Bounds.getD (Int.toNat 7) default).Int==c.Max.Int&&((c.Bounds.getD (Int.toNat 7) default).Text.toList==c.Max.Text.toList&&true)))) (.k false) (.bn (zqJ (Int.toNat 0+c.Bounds.length+1) 0 c c.Min) fun r4=>.i (isL r4) (.k (getL r4)) (.k true))) .d))))))))
def ziN (c:ColumnStats) (rows:Int):Bool×Bool:=(zmj c rows).fin default
def zpJ (r:Bool):ARes ty:=⟨[.pure (.lit (.bool r))],[]⟩
def zrK:AL base (ColumnStats×Int×Unit):=zf (zg (vAgg 43)) (zf (zg (vInt .i64)) aNil)
def zoE:Ab.Spec ty:=zl zrK fun x=>((ziN x.1 x.2.1).1,zpJ (ziN x.1 x.2.1).2)
theorem zve:Sound Tryz.prog base 58 zoE:=
 zt (cx':=zqP) zD zo zB (zu ⟨zjz,zAy,trivial⟩) Tryz.call58 Tryz.func58 (c:=body Tryz.f58) (by kernel_rfl) (zh (l:=[lp (body Tryz.f58) 0]) (by kernel_rfl) ⟨zxo,trivial⟩) (sg:=⟨[.pure],[]⟩) (A:=zrK) (res:=zpJ) (W:=fun x=>zmj x.1 x.2.1) (z:=default)
abbrev ttTref37Valid0:=Unit×Int×Unit
def zkL (i:Int) (s:Stats):Wy ttTref37Valid0 (Stats×Unit) (Bool⊕Unit):=.i (decide (i<Int.ofNat s.Columns.length)) (.i (decide (0≤i)&&decide (i<Int.ofNat s.Columns.length)) (.bn (ziN (s.Columns.getD i.toNat default) s.Rows) fun r0=>.i (!r0) (.k (.inl false)) (.h ((),(IntKind.i64.wrap (i+1)),()) (s,()))) .d) (.k (.inr ()))
def znC (x:ttTref37Valid0) (y:Stats×Unit):Wy ttTref37Valid0 (Stats×Unit) (Bool⊕Unit):=zkL x.2.1 y.1
def zwL (n:Nat) (i:Int) (s:Stats):Bool×(Bool⊕Unit):=zY (znC) (.inl default) n ((),i,()) (s,())
def zv0 (r:Bool⊕Unit):LTree ty:=.ite (isL r) (.done .ret [.lit (.bool (getL r))] []) (.done (.exit 0) [] [])
def zw3:LL ty ttTref37Valid0:=za (zc8 136 0) (za (lInt .i64) zG)
def zxH:BL ty (Stats×Unit):=bBox (zgF (fun x=>(⟨x.1,x.2.1,x.2.2.1⟩:Stats)) (fun x=>(x.Table,x.Rows,x.Columns,())) (fun _=>rfl) (za (lInt .i64) (za (lInt .i64) (za (lSl 43) zG)))) false (bNil)
def zvN (x:ttTref37Valid0) (y:Stats×Unit):Nat:=(Int.toNat x.2.1+y.1.Columns.length+1)
def zw1:Cx ty:=mkCx base 34 [(58,zoE)] [] [(4,[(1,.keep),(3,.keep)])] [(4,1,[]),(4,0,[(2,.keep)])] [(4,spW zw3 zxH (znC) (.inl default) zv0 zvN)] []
theorem zBU:zX zw1 (lp (body Tryz.f26) 0):=zN (id:=4) (V:=zw3) (B:=zxH) (W:=znC) (z:=.inl default) (tr:=zv0) (m:=zvN)
def zs5 (s:Stats):Wy0 (Bool):=.i (decide (s.Rows<0)) (.k false) (.i (decide (s.Rows>1000000)) (.k false) (.i (decide (Int.ofNat s.Columns.length>16)) (.k false) (.bn (zwL (Int.toNat 0+s.Columns.length+1) 0 s) fun r2=>.i (isL r2) (.k (getL r2)) (.k true))))
def zme (s:Stats):Bool×Bool:=(zs5 s).fin default
def zvB (r:Bool):ARes ty:=⟨[.pure (.lit (.bool r))],[]⟩
def zy1:AL base (Stats×Unit):=zf (zg (vAgg 30)) aNil
def zpp:Ab.Spec ty:=zl zy1 fun x=>((zme x.1).1,zvB (zme x.1).2)
theorem ztK:Sound Tryz.prog base 26 zpp:=
 zt (cx':=zw1) zD zo zB (zu ⟨zve,trivial⟩) Tryz.call26 Tryz.func26 (c:=body Tryz.f26) (by kernel_rfl) (zh (l:=[lp (body Tryz.f26) 0]) (by kernel_rfl) ⟨zBU,trivial⟩) (sg:=⟨[.pure],[]⟩) (A:=zy1) (res:=zvB) (W:=fun x=>zs5 x.1) (z:=default)
def zDV:Cx ty:=mkCx base 14 [] [] [] [] [] []
def zww (s:Stats) (k:Int):Wy0 (Bool):=.i (decide (k≥0)) (.k (decide (k<Int.ofNat s.Columns.length))) (.k false)
def zp3 (s:Stats) (k:Int):Bool×Bool:=(zww s k).fin default
def zy3 (r:Bool):ARes ty:=⟨[.pure (.lit (.bool r))],[]⟩
def zA1:AL base (Stats×Int×Unit):=zf (zg (vAgg 30)) (zf (zg (vInt .i64)) aNil)
def zrU:Ab.Spec ty:=zl zA1 fun x=>((zp3 x.1 x.2.1).1,zy3 (zp3 x.1 x.2.1).2)
theorem zv6:Sound Tryz.prog base 62 zrU:=
 zt (cx':=zDV) zD zo zB (zu trivial) Tryz.call62 Tryz.func62 (c:=body Tryz.f62) (by kernel_rfl) (zh (l:=[]) (by kernel_rfl) trivial) (sg:=⟨[.pure],[]⟩) (A:=zA1) (res:=zy3) (W:=fun x=>zww x.1 x.2.1) (z:=default)
abbrev ttTref37Distinct0:=List Int×Unit×Int×Int×Unit
def zoh (l:List Int) (n_:Int) (i:Int) (s:Stats):Wy ttTref37Distinct0 (Stats×Unit) (Int×Stats):=.i (decide (i<Int.ofNat l.length)) (.i (decide (0≤i)&&decide (i<Int.ofNat l.length)) (.bn (zp3 s (l.getD i.toNat default)) fun r0=>.i (r0) (.i (decide (0≤i)&&decide (i<Int.ofNat l.length)) (.i (decide (0≤l.getD i.toNat default)&&decide (l.getD i.toNat default<Int.ofNat s.Columns.length)) (.h (l,(),(if s.Rows<IntKind.i64.wrap (n_*(s.Columns.getD (Int.toNat (l.getD i.toNat default)) default).Distinct) then s.Rows else IntKind.i64.wrap (n_*(s.Columns.getD (Int.toNat (l.getD i.toNat default)) default).Distinct)),(IntKind.i64.wrap (i+1)),()) (s,())) .d) .d) (.h (l,(),n_,(IntKind.i64.wrap (i+1)),()) (s,()))) .d) (.k (n_,s))
def zol (x:ttTref37Distinct0) (y:Stats×Unit):Wy ttTref37Distinct0 (Stats×Unit) (Int×Stats):=zoh x.1 x.2.2.1 x.2.2.2.1 y.1
def zkw (n:Nat) (l:List Int) (n_:Int) (i:Int) (s:Stats):Bool×(Int×Stats):=zY (zol) default n (l,(),n_,i,()) (s,())
def zsQ (r:Int×Stats):LTree ty:=.done (.exit 0) [.ptr 160 0,.lit (.int .i64 r.1)] [.box (base.enc 30 r.2) false]
def ztJ:LL ty ttTref37Distinct0:=za (lSl 3) (za (zc8 160 0) (za (lInt .i64) (za (lInt .i64) zG)))
def ztN:BL ty (Stats×Unit):=bBox (zgF (fun x=>(⟨x.1,x.2.1,x.2.2.1⟩:Stats)) (fun x=>(x.Table,x.Rows,x.Columns,())) (fun _=>rfl) (za (lInt .i64) (za (lInt .i64) (za (lSl 43) zG)))) false (bNil)
def zsq (x:ttTref37Distinct0) (y:Stats×Unit):Nat:=(x.1.length+Int.toNat x.2.2.1+Int.toNat x.2.2.2.1+y.1.Columns.length+1)
def ztz:Cx ty:=mkCx base 40 [(26,zpp),(62,zrU)] [] [(5,[(1,.keep),(2,.keep),(5,.keep),(6,.keep)])] [(5,1,[(2,.keep),(5,.keep)])] [(5,spW ztJ ztN (zol) default zsQ zsq)] []
theorem zAb:zX ztz (lp (body Tryz.f30) 0):=zN (id:=5) (V:=ztJ) (B:=ztN) (W:=zol) (z:=default) (tr:=zsQ) (m:=zsq)
def zpq (s:Stats) (l:List Int):Wy0 (Int):=.bn (zme s) fun r3=>.i (!r3) (.k 0) (.bn (zkw (l.length+Int.toNat 1+Int.toNat 0+s.Columns.length+1) l 1 0 s) fun r2=>.k (if r2.2.Rows<r2.1 then r2.2.Rows else r2.1))
def zkK (s:Stats) (l:List Int):Bool×Int:=(zpq s l).fin default
def zsX (r:Int):ARes ty:=⟨[.pure (.lit (.int .i64 r))],[]⟩
def zug:AL base (Stats×List Int×Unit):=zf (zg (vAgg 30)) (zf (zg (vSl 3)) aNil)
def zrH:Ab.Spec ty:=zl zug fun x=>((zkK x.1 x.2.1).1,zsX (zkK x.1 x.2.1).2)
theorem zyq:Sound Tryz.prog base 30 zrH:=
 zt (cx':=ztz) zD zo zB (zu ⟨ztK,zv6,trivial⟩) Tryz.call30 Tryz.func30 (c:=body Tryz.f30) (by kernel_rfl) (zh (l:=[lp (body Tryz.f30) 0]) (by kernel_rfl) ⟨zAb,trivial⟩) (sg:=⟨[.pure],[]⟩) (A:=zug) (res:=zsX) (W:=fun x=>zpq x.1 x.2.1) (z:=default)
abbrev ttTref37Few0:=Unit×Int×Unit
def zuZ (i:Int) (s:Stats):Wy ttTref37Few0 (Stats×Unit) (Bool⊕Stats):=.i (decide (i<Int.ofNat s.Columns.length)) (.i (decide (0≤i)&&decide (i<Int.ofNat s.Columns.length)) (.bn (zg9 (s.Columns.getD i.toNat default).Bounds 20) fun r0=>.i (!r0) (.k (.inl false)) (.i (decide (0≤i)&&decide (i<Int.ofNat s.Columns.length)) (.i (decide (0≤i)&&decide (i<Int.ofNat s.Columns.length)) (.i (decide (IntKind.i64.wrap (Int.ofNat (s.Columns.getD i.toNat default).Min.Text.size+Int.ofNat (s.Columns.getD i.toNat default).Max.Text.size)>600)) (.k (.inl false)) (.h ((),(IntKind.i64.wrap (i+1)),()) (s,()))) .d) .d)) .d) (.k (.inr s))
def zuJ (x:ttTref37Few0) (y:Stats×Unit):Wy ttTref37Few0 (Stats×Unit) (Bool⊕Stats):=zuZ x.2.1 y.1
def zuO (n:Nat) (i:Int) (s:Stats):Bool×(Bool⊕Stats):=zY (zuJ) (.inl default) n ((),i,()) (s,())
def zyV (r:Bool⊕Stats):LTree ty:=.ite (isL r) (.done .ret [.lit (.bool (getL r))] []) (.done (.exit 0) [.ptr 172 0] [.box (base.enc 30 (getR r)) false])
def zzM:LL ty ttTref37Few0:=za (zc8 172 0) (za (lInt .i64) zG)
def zAl:BL ty (Stats×Unit):=bBox (zgF (fun x=>(⟨x.1,x.2.1,x.2.2.1⟩:Stats)) (fun x=>(x.Table,x.Rows,x.Columns,())) (fun _=>rfl) (za (lInt .i64) (za (lInt .i64) (za (lSl 43) zG)))) false (bNil)
def zyW (x:ttTref37Few0) (y:Stats×Unit):Nat:=(Int.toNat x.2.1+y.1.Columns.length+1)
def zzx:Cx ty:=mkCx base 43 [(27,zpl)] [] [(2,[(1,.keep),(3,.keep)])] [(2,1,[(1,.keep)]),(2,0,[(2,.keep)])] [(2,spW zzM zAl (zuJ) (.inl default) zyV zyW)] []
theorem zDw:zX zzx (lp (body Tryz.f17) 0):=zN (id:=2) (V:=zzM) (B:=zAl) (W:=zuJ) (z:=.inl default) (tr:=zyV) (m:=zyW)
def zwi (s:Stats):Wy0 (Bool):=.bn (zuO (Int.toNat 0+s.Columns.length+1) 0 s) fun r2=>.i (isL r2) (.k (getL r2)) (.k (decide (Int.ofNat (getR r2).Columns.length≤20)))
def zss (s:Stats):Bool×Bool:=(zwi s).fin default
def zyZ (r:Bool):ARes ty:=⟨[.pure (.lit (.bool r))],[]⟩
def zAP:AL base (Stats×Unit):=zf (zg (vAgg 30)) aNil
def zxc:Ab.Spec ty:=zl zAP fun x=>((zss x.1).1,zyZ (zss x.1).2)
theorem zB3:Sound Tryz.prog base 17 zxc:=
 zt (cx':=zzx) zD zo zB (zu ⟨ztA,trivial⟩) Tryz.call17 Tryz.func17 (c:=body Tryz.f17) (by kernel_rfl) (zh (l:=[lp (body Tryz.f17) 0]) (by kernel_rfl) ⟨zDw,trivial⟩) (sg:=⟨[.pure],[]⟩) (A:=zAP) (res:=zyZ) (W:=fun x=>zwi x.1) (z:=default)
def zE5:Cx ty:=mkCx base 34 [(16,zif)] [] [] [] [] []
def zt9 (s:Stats) (k:Int) (v:Value):Wy0 (Int):=.i (decide (0≤k)&&decide (k<Int.ofNat s.Columns.length)) (.i (s.Rows==0) (.k 0) (.bn (zef v (s.Columns.getD k.toNat default).Min) fun r1=>.i (decide (r1<0)) (.k 0) (.bn (zef v (s.Columns.getD k.toNat default).Max) fun r0=>.i (decide (r0>0)) (.k 0) (.i (!decide ((s.Columns.getD k.toNat default).Distinct=0)) (.k (if IntKind.i64.wrap (Int.tdiv 1000 (s.Columns.getD k.toNat default).Distinct)>1 then IntKind.i64.wrap (Int.tdiv 1000 (s.Columns.getD k.toNat default).Distinct) else 1)) .d)))) .d
def zpk (s:Stats) (k:Int) (v:Value):Bool×Int:=(zt9 s k v).fin default
def zz5 (r:Int):ARes ty:=⟨[.pure (.lit (.int .i64 r))],[]⟩
def zBE:AL base (Stats×Int×Value×Unit):=zf (zg (vAgg 30)) (zf (zg (vInt .i64)) (zf (zg (vAgg 40)) aNil))
def zyT:Ab.Spec ty:=zl zBE fun x=>((zpk x.1 x.2.1 x.2.2.1).1,zz5 (zpk x.1 x.2.1 x.2.2.1).2)
theorem zCA:Sound Tryz.prog base 89 zyT:=
 zt (cx':=zE5) zD zo zB (zu ⟨zjz,trivial⟩) Tryz.call89 Tryz.func89 (c:=body Tryz.f89) (by kernel_rfl) (zh (l:=[]) (by kernel_rfl) trivial) (sg:=⟨[.pure],[]⟩) (A:=zBE) (res:=zz5) (W:=fun x=>zt9 x.1 x.2.1 x.2.2.1) (z:=default)
abbrev ttTref37lt0:=Int×Unit×Unit×Int×Int×Unit
abbrev ttTref37lt1:=Stats×Value×Unit
def zwn (k:Int) (n_:Int) (i:Int) (s:Stats) (v:Value):Wy ttTref37lt0 ttTref37lt1 (Int):=.i (decide (0≤k)&&decide (k<Int.ofNat s.Columns.length)) (.i (decide (i<Int.ofNat (s.Columns.getD k.toNat default).Bounds.length)) (.i (decide (0≤k)&&decide (k<Int.ofNat s.Columns.length)) (.i (decide (0≤i)&&decide (i<Int.ofNat (s.Columns.getD k.toNat default).Bounds.length)) (.bn (zef ((s.Columns.getD k.toNat default).Bounds.getD i.toNat default) v) fun r0=>.i (decide (r0<0)) (.h (k,(),(),(IntKind.i64.wrap (n_+125)),(IntKind.i64.wrap (i+1)),()) (s,v,())) (.h (k,(),(),n_,(IntKind.i64.wrap (i+1)),()) (s,v,()))) .d) .d) (.k n_)) .d
def zwy (x:ttTref37lt0) (y:ttTref37lt1):Wy ttTref37lt0 ttTref37lt1 (Int):=zwn x.1 x.2.2.2.1 x.2.2.2.2.1 y.1 y.2.1
def zsi (n:Nat) (k:Int) (n_:Int) (i:Int) (s:Stats) (v:Value):Bool×Int:=zY (zwy) default n (k,(),(),n_,i,()) (s,v,())
def zzk (r:Int):LTree ty:=.done (.exit 0) [.lit (.int .i64 r)] []
def zA3:LL ty ttTref37lt0:=za (lInt .i64) (za (zc8 140 0) (za (zc8 141 0) (za (lInt .i64) (za (lInt .i64) zG))))
def zA0:BL ty ttTref37lt1:=bBox (zgF (fun x=>(⟨x.1,x.2.1,x.2.2.1⟩:Stats)) (fun x=>(x.Table,x.Rows,x.Columns,())) (fun _=>rfl) (za (lInt .i64) (za (lInt .i64) (za (lSl 43) zG)))) false (bBox (zgF (fun x=>(⟨x.1,x.2.1,x.2.2.1⟩:Value)) (fun x=>(x.Kind,x.Int,x.Text,())) (fun _=>rfl) (za (lInt .i64) (za (lInt .i64) (za lStr zG)))) false (bNil))
def zzv (x:ttTref37lt0) (y:ttTref37lt1):Nat:=(Int.toNat x.1+Int.toNat x.2.2.2.1+Int.toNat x.2.2.2.2.1+y.1.Columns.length+1000)
def zA5:Cx ty:=mkCx base 35 [(16,zif)] [] [(3,[(1,.keep),(3,.keep),(5,.keep),(7,.keep),(8,.keep)])] [(3,1,[(7,.keep)])] [(3,spW zA3 zA0 (zwy) default zzk zzv)] []
theorem zDU:zX zA5 (lp (body Tryz.f63) 0):=zN (id:=3) (V:=zA3) (B:=zA0) (W:=zwy) (z:=default) (tr:=zzk) (m:=zzv)
def zyC (s:Stats) (k:Int) (v:Value):Wy0 (Int):=.bn (zsi (k.toNat +Int.toNat 0+Int.toNat 0+s.Columns.length+1000) k 0 0 s v) fun r2=>.k r2
def zr6 (s:Stats) (k:Int) (v:Value):Bool×Int:=(zyC s k v).fin default
def zzN (r:Int):ARes ty:=⟨[.pure (.lit (.int .i64 r))],[]⟩
def zCh:AL base (Stats×Int×Value×Unit):=zf (zg (vAgg 30)) (zf (zg (vInt .i64)) (zf (zg (vAgg 40)) aNil))
def zs9:Ab.Spec ty:=zl zCh fun x=>((zr6 x.1 x.2.1 x.2.2.1).1,zzN (zr6 x.1 x.2.1 x.2.2.1).2)
theorem zwO:Sound Tryz.prog base 63 zs9:=
 zt (cx':=zA5) zD zo zB (zu ⟨zjz,trivial⟩) Tryz.call63 Tryz.func63 (c:=body Tryz.f63) (by kernel_rfl) (zh (l:=[lp (body Tryz.f63) 0]) (by kernel_rfl) ⟨zDU,trivial⟩) (sg:=⟨[.pure],[]⟩) (A:=zCh) (res:=zzN) (W:=fun x=>zyC x.1 x.2.1 x.2.2.1) (z:=default)
def zE6:Cx ty:=mkCx base 17 [(63,zs9),(89,zyT)] [] [] [] [] []
def zyv (s:Stats) (k:Int) (v:Value):Wy0 (Int):=.bn (zr6 s k v) fun r1=>.bn (zpk s k v) fun r0=>.k (if IntKind.i64.wrap (r1+r0)<1000 then IntKind.i64.wrap (r1+r0) else 1000)
def zr9 (s:Stats) (k:Int) (v:Value):Bool×Int:=(zyv s k v).fin default
def zz6 (r:Int):ARes ty:=⟨[.pure (.lit (.int .i64 r))],[]⟩
def zCd:AL base (Stats×Int×Value×Unit):=zf (zg (vAgg 30)) (zf (zg (vInt .i64)) (zf (zg (vAgg 40)) aNil))
def zyU:Ab.Spec ty:=zl zCd fun x=>((zr9 x.1 x.2.1 x.2.2.1).1,zz6 (zr9 x.1 x.2.1 x.2.2.1).2)
theorem zCL:Sound Tryz.prog base 64 zyU:=
 zt (cx':=zE6) zD zo zB (zu ⟨zwO,zCA,trivial⟩) Tryz.call64 Tryz.func64 (c:=body Tryz.f64) (by kernel_rfl) (zh (l:=[]) (by kernel_rfl) trivial) (sg:=⟨[.pure],[]⟩) (A:=zCd) (res:=zz6) (W:=fun x=>zyv x.1 x.2.1 x.2.2.1) (z:=default)
def zCE:Cx ty:=mkCx base 40 [(26,zpp),(62,zrU),(63,zs9),(64,zyU)] [] [] [] [] []
def ztq (s:Stats) (k:Int) (low:List Value) (high:List Value):Wy0 (Int):=.bn (zme s) fun r4=>.i (!r4) (.k 0) (.bn (zp3 s k) fun r3=>.i (!r3) (.k 333) (.i (decide (Int.ofNat low.length>0)) (.i (decide ((0:Int)≤(0:Int))&&decide (0<Int.ofNat low.length)) (.bn (zr6 s k (low.getD (Int.toNat 0) default)) fun r1=>.i (decide (Int.ofNat high.length>0)) (.i (decide ((0:Int)≤(0:Int))&&decide (0<Int.ofNat high.length)) (.bn (zr9 s k (high.getD (Int.toNat 0) default)) fun r0=>.k (if IntKind.i64.wrap (r0 - r1)>0 then IntKind.i64.wrap (r0 - r1) else 0)) .d) (.k (if IntKind.i64.wrap (1000 - r1)>0 then IntKind.i64.wrap (1000 - r1) else 0))) .d) (.i (decide (Int.ofNat high.length>0)) (.i (decide ((0:Int)≤(0:Int))&&decide (0<Int.ofNat high.length)) (.bn (zr9 s k (high.getD (Int.toNat 0) default)) fun r2=>.k (if IntKind.i64.wrap (r2 - 0)>0 then IntKind.i64.wrap (r2 - 0) else 0)) .d) (.k (if IntKind.i64.wrap (1000 - 0)>0 then IntKind.i64.wrap (1000 - 0) else 0)))))
def zoS (s:Stats) (k:Int) (low:List Value) (high:List Value):Bool×Int:=(ztq s k low high).fin default
def zv3 (r:Int):ARes ty:=⟨[.pure (.lit (.int .i64 r))],[]⟩
def zy7:AL base (Stats×Int×List Value×List Value×Unit):=zf (zg (vAgg 30)) (zf (zg (vInt .i64)) (zf (zg (vSl 40)) (zf (zg (vSl 40)) aNil)))
def zuC:Ab.Spec ty:=zl zy7 fun x=>((zoS x.1 x.2.1 x.2.2.1 x.2.2.2.1).1,zv3 (zoS x.1 x.2.1 x.2.2.1 x.2.2.2.1).2)
theorem zAC:Sound Tryz.prog base 31 zuC:=
 zt (cx':=zCE) zD zo zB (zu ⟨ztK,zv6,zwO,zCL,trivial⟩) Tryz.call31 Tryz.func31 (c:=body Tryz.f31) (by kernel_rfl) (zh (l:=[]) (by kernel_rfl) trivial) (sg:=⟨[.pure],[]⟩) (A:=zy7) (res:=zv3) (W:=fun x=>ztq x.1 x.2.1 x.2.2.1 x.2.2.2.1) (z:=default)
abbrev ttTstatisticsDistinct0:=Unit×Int×List Int×Int×Int×Unit
def zki (n_:Int) (t14:List Int) (t15:Int) (t16:Int) (s:Stats):Wy ttTstatisticsDistinct0 (Stats×Unit) (Int):=.i (decide (t16<t15)) (.i (decide (0≤t16)&&decide (t16<Int.ofNat t14.length)) (.bn (zbe (estimator.mk s) (t14.getD t16.toNat default)) fun r0=>.i (r0) (.i (decide (0≤t14.getD t16.toNat default)&&decide (t14.getD t16.toNat default<Int.ofNat s.Columns.length)) (.h ((),(if s.Rows<IntKind.i64.wrap (n_*(s.Columns.getD (Int.toNat (t14.getD t16.toNat default)) default).Distinct) then s.Rows else IntKind.i64.wrap (n_*(s.Columns.getD (Int.toNat (t14.getD t16.toNat default)) default).Distinct)),t14,t15,(IntKind.i64.wrap (t16+1)),()) (s,())) .d) (.h ((),n_,t14,t15,(IntKind.i64.wrap (t16+1)),()) (s,()))) .d) (.k n_)
def zkb (x:ttTstatisticsDistinct0) (y:Stats×Unit):Wy ttTstatisticsDistinct0 (Stats×Unit) (Int):=zki x.2.1 x.2.2.1 x.2.2.2.1 x.2.2.2.2.1 y.1
def zhW (n:Nat) (n_:Int) (t14:List Int) (t15:Int) (t16:Int) (s:Stats):Bool×Int:=zY (zkb) default n ((),n_,t14,t15,t16,()) (s,())
def zn5 (r:Int):LTree ty:=.done (.exit 0) [.lit (.int .i64 r)] []
def zpf:LL ty ttTstatisticsDistinct0:=za (zc8 148 0) (za (lInt .i64) (za (lSl 3) (za (lInt .i64) (za (lInt .i64) zG))))
def zo8:BL ty (Stats×Unit):=bBox (zgF (fun x=>(⟨x.1,x.2.1,x.2.2.1⟩:Stats)) (fun x=>(x.Table,x.Rows,x.Columns,())) (fun _=>rfl) (za (lInt .i64) (za (lInt .i64) (za (lSl 43) zG)))) false (bNil)
def zn9 (x:ttTstatisticsDistinct0) (y:Stats×Unit):Nat:=(Int.toNat x.2.1+x.2.2.1.length+Int.toNat x.2.2.2.1+Int.toNat x.2.2.2.2.1+y.1.Columns.length+1000)
def zoZ:Cx ty:=mkCx base 37 [(15,zdC),(59,zc9)] [] [(5,[(2,.keep),(5,.keep),(14,.keep),(15,.keep),(16,.keep)])] [(5,1,[(5,.keep)])] [(5,spW zpf zo8 (zkb) default zn5 zn9)] []
theorem zvt:zX zoZ (lp (body Tryz.f28) 0):=zN (id:=5) (V:=zpf) (B:=zo8) (W:=zkb) (z:=default) (tr:=zn5) (m:=zn9)
def zkS (s:Stats) (columns:List Int):Wy0 (Int):=.bn (zd0 s) fun r3=>.i (!r3) (.k 0) (.bn (zhW ((if s.Rows<1 then s.Rows else 1).toNat +columns.length+(Int.ofNat columns.length).toNat +Int.toNat 0+s.Columns.length+1000) (if s.Rows<1 then s.Rows else 1) columns (Int.ofNat columns.length) 0 s) fun r2=>.k r2)
def zhL (s:Stats) (columns:List Int):Bool×Int:=(zkS s columns).fin default
def zn0 (r:Int):ARes ty:=⟨[.pure (.lit (.int .i64 r))],[]⟩
def zp4:AL base (Stats×List Int×Unit):=zf (zg (vAgg 30)) (zf (zg (vSl 3)) aNil)
def zm8:Ab.Spec ty:=zl zp4 fun x=>((zhL x.1 x.2.1).1,zn0 (zhL x.1 x.2.1).2)
theorem ztV:Sound Tryz.prog base 28 zm8:=
 zt (cx':=zoZ) zD zo zB (zu ⟨zei,zeH,trivial⟩) Tryz.call28 Tryz.func28 (c:=body Tryz.f28) (by kernel_rfl) (zh (l:=[lp (body Tryz.f28) 0]) (by kernel_rfl) ⟨zvt,trivial⟩) (sg:=⟨[.pure],[]⟩) (A:=zp4) (res:=zn0) (W:=fun x=>zkS x.1 x.2.1) (z:=default)
def zzi:Cx ty:=mkCx base 43 [(15,zdC),(59,zc9),(60,zfM),(61,zhN)] [] [] [] [] []
def zj4 (s:Stats) (column:Int) (low:List Value) (high:List Value):Wy0 (Int):=.bn (zd0 s) fun r4=>.i (!r4) (.k 0) (.bn (zbe (estimator.mk s) column) fun r3=>.i (!r3) (.k 333) (.i (decide (Int.ofNat low.length>0)) (.i (decide ((0:Int)≤(0:Int))&&decide (0<Int.ofNat low.length)) (.bn (zcj (estimator.mk s) column (low.getD (Int.toNat 0) default)) fun r1=>.i (decide (Int.ofNat high.length>0)) (.i (decide ((0:Int)≤(0:Int))&&decide (0<Int.ofNat high.length)) (.bn (zck (estimator.mk s) column (high.getD (Int.toNat 0) default)) fun r0=>.k (if IntKind.i64.wrap (r0 - r1)>0 then IntKind.i64.wrap (r0 - r1) else 0)) .d) (.k (if IntKind.i64.wrap (1000 - r1)>0 then IntKind.i64.wrap (1000 - r1) else 0))) .d) (.i (decide (Int.ofNat high.length>0)) (.i (decide ((0:Int)≤(0:Int))&&decide (0<Int.ofNat high.length)) (.bn (zck (estimator.mk s) column (high.getD (Int.toNat 0) default)) fun r2=>.k (if IntKind.i64.wrap (r2 - 0)>0 then IntKind.i64.wrap (r2 - 0) else 0)) .d) (.k (if IntKind.i64.wrap (1000 - 0)>0 then IntKind.i64.wrap (1000 - 0) else 0)))))
def zgP (s:Stats) (column:Int) (low:List Value) (high:List Value):Bool×Int:=(zj4 s column low high).fin default
def zqZ (r:Int):ARes ty:=⟨[.pure (.lit (.int .i64 r))],[]⟩
def zsU:AL base (Stats×Int×List Value×List Value×Unit):=zf (zg (vAgg 30)) (zf (zg (vInt .i64)) (zf (zg (vSl 40)) (zf (zg (vSl 40)) aNil)))
def zpL:Ab.Spec ty:=zl zsU fun x=>((zgP x.1 x.2.1 x.2.2.1 x.2.2.2.1).1,zqZ (zgP x.1 x.2.1 x.2.2.1 x.2.2.2.1).2)
theorem zwf:Sound Tryz.prog base 29 zpL:=
 zt (cx':=zzi) zD zo zB (zu ⟨zei,zeH,zhB,zkq,trivial⟩) Tryz.call29 Tryz.func29 (c:=body Tryz.f29) (by kernel_rfl) (zh (l:=[]) (by kernel_rfl) trivial) (sg:=⟨[.pure],[]⟩) (A:=zsU) (res:=zqZ) (W:=fun x=>zj4 x.1 x.2.1 x.2.2.1 x.2.2.2.1) (z:=default)
end Go.Proofs.YtddkaehkimnklaaGreatDoor
end
