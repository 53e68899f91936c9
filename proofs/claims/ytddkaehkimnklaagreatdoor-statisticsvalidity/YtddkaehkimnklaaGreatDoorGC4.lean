/- Texts of this claim, joined (the program, its functions in plain words, and what they compute). -/
import Derived.WalkKit
import Derived.WalkSpells
import Derived.Test.YtddkaehkimnklaaGreatDoorGC1
import Derived.Test.YtddkaehkimnklaaGreatDoorGA3
import Derived.Test.YtddkaehkimnklaaGreatDoorGC3
import Derived.Test.YtddkaehkimnklaaGreatDoorGB1
import Derived.Test.YtddkaehkimnklaaGreatDoorGC2
set_option autoImplicit false
set_option linter.unusedVariables false
set_option linter.unusedSectionVars false
set_option linter.unusedSimpArgs false
set_option maxRecDepth 1000000
set_option maxHeartbeats 0
noncomputable section
namespace Go.Proofs.YtddkaehkimnklaaGreatDoor
open Go Go.Ab
abbrev ttTslicesIndexFuncLapiRowapiRowno0:=List Row×Unit×Int×Int×Unit
def zm0 (s:List Row) (t7:Int) (t8:Int):Wy ttTslicesIndexFuncLapiRowapiRowno0 (Unit) (Int⊕Unit):=.i (decide (t8<t7)) (.i (decide (0≤t8)&&decide (t8<Int.ofNat s.length)) (.i ((ziF (s.getD t8.toNat default)).2) (.k (.inl t8)) (.h (s,(),t7,(IntKind.i64.wrap (t8+1)),()) ())) .d) (.k (.inr ()))
def zef (x:ttTslicesIndexFuncLapiRowapiRowno0) (y:Unit):Wy ttTslicesIndexFuncLapiRowapiRowno0 (Unit) (Int⊕Unit):=zm0 x.1 x.2.2.1 x.2.2.2.1
def zmY (n:Nat) (s:List Row) (t7:Int) (t8:Int):Bool×(Int⊕Unit):=zP (zef) (.inl default) n (s,(),t7,t8,()) ()
def zhp (r:Int⊕Unit):LTree ty:=.ite (isL r) (.done .ret [.lit (.int .i64 (getL r))] []) (.done (.exit 0) [] [])
def zhz:LL ty ttTslicesIndexFuncLapiRowapiRowno0:=za (lSl 38) (za (lFn 72 (zD)) (za (lInt .i64) (za (lInt .i64) zD)))
def zhB:BL ty (Unit):=bNil
def zhs (x:ttTslicesIndexFuncLapiRowapiRowno0) (y:Unit):Nat:=(x.1.length+Int.toNat x.2.2.1+Int.toNat x.2.2.2.1+1000)
def zhC:Cx ty:=mkCx base 19 [(72,zgM)] [] [(2,[(0,.keep),(1,.keep),(7,.keep),(8,.keep)])] [(2,1,[]),(2,0,[(4,.keep)])] [(2,spW zhz zhB (zef) (.inl default) zhp zhs)] []
theorem zmm:zW zhC (lp (body Tryz.f112) 0):=zK (id:=2) (V:=zhz) (B:=zhB) (W:=zef) (z:=.inl default) (tr:=zhp) (m:=zhs)
def zhP (s:List Row):Wy0 (Int):=.bn (zmY (s.length+(Int.ofNat s.length).toNat +Int.toNat 0+1000) s (Int.ofNat s.length) 0) fun r0=>.i (isL r0) (.k (getL r0)) (.k (-1:Int))
def zfs (s:List Row):Bool×Int:=(zhP s).fin default
def zhn (r:Int):ARes ty:=⟨[.pure (.lit (.int .i64 r))],[]⟩
def zhQ:AL base (List Row×Unit×Unit):=zf (zg (vSl 38)) (zf (zg (vFn 72 vNil)) aNil)
def zhg:Ab.Spec ty:=zk zhQ fun x=>((zfs x.1).1,zhn (zfs x.1).2)
theorem zlp:Sound Tryz.prog base 112 zhg:=
 zr (cx':=zhC) zF zm zB (zu ⟨zik,trivial⟩) Tryz.call112 Tryz.func112 (c:=body Tryz.f112) (by kernel_rfl) (zh (l:=[lp (body Tryz.f112) 0]) (by kernel_rfl) ⟨zmm,trivial⟩) (sg:=⟨[.pure],[]⟩) (A:=zhQ) (res:=zhn) (W:=fun x=>zhP x.1) (z:=default)
abbrev ttTslicesDeleteFuncLapiRowapiRow0:=Unit×Unit×Int×Int×Unit
abbrev ttTslicesDeleteFuncLapiRowapiRow1:=List Row×Unit
abbrev ttTslicesDeleteFuncLapiRowapiRow2:=Int×List Row
def znS (i:Int) (j:Int) (s:List Row):Wy ttTslicesDeleteFuncLapiRowapiRow0 ttTslicesDeleteFuncLapiRowapiRow1 ttTslicesDeleteFuncLapiRowapiRow2:=.i (decide (j<Int.ofNat s.length)) (.i (decide (0≤j)&&decide (j<Int.ofNat s.length)) (.i (!(ziF (s.getD j.toNat default)).2) (.i (decide (0≤i)&&decide (i<Int.ofNat s.length)) (.i (decide (i.toNat<s.length)) (.h ((),(),(IntKind.i64.wrap (i+1)),(IntKind.i64.wrap (j+1)),()) ((s.set i.toNat (s.getD j.toNat default)),())) .d) .d) (.h ((),(),i,(IntKind.i64.wrap (j+1)),()) (s,()))) .d) (.k (i,s))
def zeX (x:ttTslicesDeleteFuncLapiRowapiRow0) (y:ttTslicesDeleteFuncLapiRowapiRow1):Wy ttTslicesDeleteFuncLapiRowapiRow0 ttTslicesDeleteFuncLapiRowapiRow1 ttTslicesDeleteFuncLapiRowapiRow2:=znS x.2.2.1 x.2.2.2.1 y.1
def znV (n:Nat) (i:Int) (j:Int) (s:List Row):Bool×ttTslicesDeleteFuncLapiRowapiRow2:=zP (zeX) default n ((),(),i,j,()) (s,())
def zhU (r:ttTslicesDeleteFuncLapiRowapiRow2):LTree ty:=.done (.exit 0) [.own 168,.lit (.int .i64 r.1)] [.arr 38 r.2 false]
def zh5:LL ty ttTslicesDeleteFuncLapiRowapiRow0:=za (lOwn 168) (za (lFn 72 (zD)) (za (lInt .i64) (za (lInt .i64) zD)))
def zh7:BL ty ttTslicesDeleteFuncLapiRowapiRow1:=bArr 38 false (bNil)
def zhR (x:ttTslicesDeleteFuncLapiRowapiRow0) (y:ttTslicesDeleteFuncLapiRowapiRow1):Nat:=(Int.toNat x.2.2.1+Int.toNat x.2.2.2.1+y.1.length+1000)
def zh6:Cx ty:=mkCx base 42 [(72,zgM),(112,zhg)] [] [(5,[(0,.keep),(1,.keep),(5,.keep),(6,.keep)])] [(5,1,[(0,.keep),(5,.keep)])] [(5,spW zh5 zh7 (zeX) default zhU zhR)] []
theorem zne:zW zh6 (lp (body Tryz.f70) 0):=zK (id:=5) (V:=zh5) (B:=zh7) (W:=zeX) (z:=default) (tr:=zhU) (m:=zhR)
def zil (s:List Row):Wy0 (List Row):=.bn (zfs s) fun r1=>.i (r1==(-1:Int)) (.k s) (.bn (znV (r1.toNat +(IntKind.i64.wrap (r1+1)).toNat +s.length+1000) r1 (IntKind.i64.wrap (r1+1)) s) fun r0=>.i (decide (0≤r0.1)&&decide (r0.1≤Int.ofNat r0.2.length)&&decide (Int.ofNat r0.2.length≤Int.ofNat r0.2.length)) (.i (decide (r0.1.toNat +((Int.ofNat r0.2.length).toNat - r0.1.toNat)≤r0.2.length)) (.i (decide ((0:Int)≤(0:Int))&&decide (0≤r0.1)&&decide (r0.1≤Int.ofNat (List.take r0.1.toNat r0.2++List.replicate ((Int.ofNat r0.2.length).toNat - r0.1.toNat) (Row.mk [] [])++List.drop (r0.1.toNat +((Int.ofNat r0.2.length).toNat - r0.1.toNat)) r0.2).length)) (.k (List.take (r0.1.toNat - Int.toNat 0) (List.take r0.1.toNat r0.2++List.replicate ((Int.ofNat r0.2.length).toNat - r0.1.toNat) (Row.mk [] [])++List.drop (r0.1.toNat +((Int.ofNat r0.2.length).toNat - r0.1.toNat)) r0.2))) .d) .d) .d)
def zf9 (s:List Row):Bool×List Row:=(zil s).fin default
def zhV (r:List Row):ARes ty:=⟨[.own 38 r],[none]⟩
def zig:AL base (List Row×Unit×Unit):=zf (aOwn 38) (zf (zg (vFn 72 vNil)) aNil)
def zhA:Ab.Spec ty:=zk zig fun x=>((zf9 x.1).1,zhV (zf9 x.1).2)
theorem zmk:Sound Tryz.prog base 70 zhA:=
 zr (cx':=zh6) zF zm zB (zu ⟨zik,zlp,trivial⟩) Tryz.call70 Tryz.func70 (c:=body Tryz.f70) (by kernel_rfl) (zh (l:=[lp (body Tryz.f70) 0]) (by kernel_rfl) ⟨zne,trivial⟩) (sg:=⟨[.own 38],[false]⟩) (A:=zig) (res:=zhV) (W:=fun x=>zil x.1) (z:=default)
def zfQ (x:List Row) (a b:Int):Bool×List Row:=zD1 zbw x a b
def slices_insertionSortCmpFunc_api_Row_spec:Ab.Spec ty:=zk (cx:=base) (zf (aOwn 38) (zf (zg (vInt .i64)) (zf (zg (vInt .i64)) (zf (zg (vFn 74 vNil)) aNil)))) fun x=>((zfQ x.1 x.2.1 x.2.2.1).1,⟨[],[some ⟨38,(zfQ x.1 x.2.1 x.2.2.1).2⟩]⟩)
theorem zmK (c:Unit) (x y:Row) (h:(zbw x y).1=true):zlt ((AV.agg (base.enc 38 x)::AV.agg (base.enc 38 y)::(vNil:VL base Unit).enc c).map Arg.pure)=some (true,⟨[.pure (.lit (.int .i64 (zbw x y).2))],[]⟩):=by
 rw [← h]; kernel_rfl
theorem zlH:Sound Tryz.prog base 159 slices_insertionSortCmpFunc_api_Row_spec:=by
 letI:DecidableEq (ty 38):=inferInstanceAs (DecidableEq Row)
 exact zHv (T:=38) zm rfl Go.Proofs.Tryz.insR Tryz.isAgg38 (by unfold szOf; exact Tryz.sizeOf38) Tryz.call159 zpU vNil (fun c=>zbw) zmK
open Go.Proofs Go.RowKit
def zb0 (x:List Row) (m:Int):Bool×List Row:=(decide (SortOK zbw x)&&(decide (m=x.length)&&decide (m<20)),zkk zbw x)
def zjp:Ab.Spec ty:=zk (cx:=base) (zf (aOwn 38) (zf (zg (vInt .i64)) (zf (zg (vFn 74 vNil)) aNil))) fun x=>((zb0 x.1 x.2.1).1,⟨[],[some ⟨38,(zb0 x.1 x.2.1).2⟩]⟩)
set_option maxHeartbeats 1000000 in
theorem zph:Sound Tryz.prog base 113 zjp where
 enters:=Tryz.call113
 calls:=fun avs r hsp w F vs hF ha hsep=>by
  unfold zjp zk at hsp
  split at hsp
  ·rename_i x hx
   simp only [Option.some.injEq,Prod.mk.injEq] at hsp
   obtain ⟨hpre,rfl⟩:=hsp
   have hk:=(zf (aOwn 38) (zf (zg (vInt .i64)) (zf (zg (vFn 74 vNil)) aNil)):AL base _).kind vs avs x hx
   have ha':=(zf (aOwn 38) (zf (zg (vInt .i64)) (zf (zg (vFn 74 vNil)) aNil)):AL base _).ok Tryz.prog zm F w vs avs x hx ha
   rw [hk] at hsep ⊢
   clear hk hx ha
   obtain ⟨l0,m,c,u0⟩:=x
   obtain ⟨l,rfl⟩:∃ l:List Row,l=l0:=⟨l0,rfl⟩
   obtain ⟨v,vs',rfl,hv,hv'⟩:=ha'.inv
   obtain ⟨mv,vs1,rfl,hm,hv1⟩:=hv'.inv
   obtain ⟨fv,vs'',rfl,hfv,h0⟩:=hv1.inv
   obtain rfl:=h0.nil_left.1
   have hm:Rep base F w mv (.lit (.int .i64 m)):=hm
   obtain rfl:mv=.int .i64 m:=by cases hm; rfl
   have hsl:∃ p cap,v=.slice p l.length cap:=by
    obtain ⟨⟨xs,hown,_⟩,_⟩:=(show zb4 base F w v 38 l∧∀ b,zL v=some b→¬ F b from hv)
    rcases hown.2 with ⟨h1,h2⟩ | ⟨g0,cap,cur,h1,_⟩
    ·exact ⟨none,0,by rw [h1,show l.length=0 from h2]⟩
    ·exact ⟨_,cap,h1⟩
   have hpre:(decide (SortOK (α:=Row) zbw l)&&(decide (m=l.length)&&decide (m<20)))=true:=hpre
   simp only [Bool.and_eq_true,decide_eq_true_eq] at hpre
   obtain ⟨hok,rfl,h20⟩:=hpre
   have hpp:(zfQ l 0 (l.length:Int)).1=true:=by
    show (decide (SortOK (α:=Row) zbw l)&&(decide ((0:Int)=0)&&decide ((l.length:Int)=l.length)))=true
    simp only [Bool.and_eq_true,decide_eq_true_eq]
    exact ⟨hok,trivial,trivial⟩
   have hp:=(zlH).calls [.own 38 l,.pure (.lit (.int .i64 0)),.pure (.lit (.int .i64 (l.length:Int))),.pure (.fn 74 [])] ⟨[],[some ⟨38,(zb0 l (l.length:Int)).2⟩]⟩
    (by rw [← hpp]; kernel_rfl) w F [v,.int .i64 0,.int .i64 (l.length:Int),fv] hF (.cons hv (.cons (Rep.lit _) (.cons (Rep.lit _) (.cons hfv .nil)))) hsep
   replace hp:Calls Tryz.prog 159 #[v,.int .i64 0,.int .i64 (l.length:Int),fv] w fun e w'=>∃ u,e=.returned u∧Post base F w [v] ⟨[],[some ⟨38,(zb0 l (l.length:Int)).2⟩]⟩ u w':=hp
   show Calls Tryz.prog 113 #[v,.int .i64 (l.length:Int),fv] w fun e w'=>∃ u,e=.returned u∧Post base F w [v] ⟨[],[some ⟨38,(zb0 l (l.length:Int)).2⟩]⟩ u w'
   generalize (zb0 l (l.length:Int)).2=res at hp ⊢
   generalize hn:l.length=m at *
   clear hpp hv hfv hsep hok hF hm
   obtain ⟨p,cap,rfl⟩:=hsl
   clear hn
   go_enter Tryz.func113,Tryz.ntmps113
   go_wp2
   refine wp_loop_rounds 1 ?_
   rw [rounds_succ]
   go_wp2_with (go_at_call 159; refine hp.mono ?_; rintro e w' ⟨u,rfl,hpost⟩; obtain rfl:=hpost.unit)
   refine wp_loop_rounds 1 ?_
   rw [rounds_succ]
   go_wp2
   all_goals first | (exfalso; omega) | (go_end0; exact ⟨_,rfl,hpost⟩)
  ·cases hsp
end Go.Proofs.YtddkaehkimnklaaGreatDoor
namespace Go.Proofs.YtddkaehkimnklaaGreatDoor
open Go Go.Ab
open Go.Proofs Go.RowKit
def zbc (x:List Row):Bool×List Row:=(decide (SortOK zbw x)&&decide (x.length<20),zkk zbw x)
def zdg:Ab.Spec ty:=zk (cx:=base) (zf (aOwn 38) (zf (zg (vFn 74 vNil)) aNil)) fun x=>((zbc x.1).1,⟨[],[some ⟨38,(zbc x.1).2⟩]⟩)
set_option maxHeartbeats 1000000 in
theorem zky:Sound Tryz.prog base 73 zdg where
 enters:=Tryz.call73
 calls:=fun avs r hsp w F vs hF ha hsep=>by
  unfold zdg zk at hsp
  split at hsp
  ·rename_i x hx
   simp only [Option.some.injEq,Prod.mk.injEq] at hsp
   obtain ⟨hpre,rfl⟩:=hsp
   have hk:=(zf (aOwn 38) (zf (zg (vFn 74 vNil)) aNil):AL base _).kind vs avs x hx
   have ha':=(zf (aOwn 38) (zf (zg (vFn 74 vNil)) aNil):AL base _).ok Tryz.prog zm F w vs avs x hx ha
   rw [hk] at hsep ⊢
   clear hk hx ha
   obtain ⟨l0,c,u0⟩:=x
   obtain ⟨l,rfl⟩:∃ l:List Row,l=l0:=⟨l0,rfl⟩
   obtain ⟨v,vs',rfl,hv,hv'⟩:=ha'.inv
   obtain ⟨fv,vs'',rfl,hfv,h0⟩:=hv'.inv
   obtain rfl:=h0.nil_left.1
   have hsl:∃ p cap,v=.slice p l.length cap:=by
    obtain ⟨⟨xs,hown,_⟩,_⟩:=(show zb4 base F w v 38 l∧∀ b,zL v=some b→¬ F b from hv)
    rcases hown.2 with ⟨h1,h2⟩ | ⟨g0,cap,cur,h1,_⟩
    ·exact ⟨none,0,by rw [h1,show l.length=0 from h2]⟩
    ·exact ⟨_,cap,h1⟩
   have hpre:(decide (SortOK (α:=Row) zbw l)&&decide (l.length<20))=true:=hpre
   simp only [Bool.and_eq_true,decide_eq_true_eq] at hpre
   obtain ⟨hok,h20⟩:=hpre
   have hpp:(zb0 l (l.length:Int)).1=true:=by
    show (decide (SortOK (α:=Row) zbw l)&&(decide ((l.length:Int)=l.length)&&decide ((l.length:Int)<20)))=true
    simp only [Bool.and_eq_true,decide_eq_true_eq]
    exact ⟨hok,trivial,by omega⟩
   have hp:=(zph).calls [.own 38 l,.pure (.lit (.int .i64 (l.length:Int))),.pure (.fn 74 [])] ⟨[],[some ⟨38,(zbc l).2⟩]⟩
    (by rw [← hpp]; kernel_rfl) w F [v,.int .i64 (l.length:Int),fv] hF (.cons hv (.cons (Rep.lit _) (.cons hfv .nil))) hsep
   replace hp:Calls Tryz.prog 113 #[v,.int .i64 (l.length:Int),fv] w fun e w'=>∃ u,e=.returned u∧Post base F w [v] ⟨[],[some ⟨38,(zbc l).2⟩]⟩ u w':=hp
   show Calls Tryz.prog 73 #[v,fv] w fun e w'=>∃ u,e=.returned u∧Post base F w [v] ⟨[],[some ⟨38,(zbc l).2⟩]⟩ u w'
   generalize (zbc l).2=res at hp ⊢
   generalize hn:l.length=m at *
   clear hpp hv hfv hsep hok hF
   obtain ⟨p,cap,rfl⟩:=hsl
   clear hn
   go_enter Tryz.func73,Tryz.ntmps73
   go_wp2_with (go_at_call 113; refine hp.mono ?_; rintro e w' ⟨u,rfl,hpost⟩; obtain rfl:=hpost.unit)
   go_end0
   exact ⟨_,rfl,hpost⟩
  ·cases hsp
end Go.Proofs.YtddkaehkimnklaaGreatDoor
namespace Go.Proofs.YtddkaehkimnklaaGreatDoor
open Go Go.Ab
abbrev ttTrelationNormalize0:=Unit×Unit×List Row×Int×Int×Unit
abbrev ttTrelationNormalize1:=Relation×(Unit×Unit×Unit)×Unit
abbrev ttTrelationNormalize2:=Int⊕Relation
abbrev ttTrelationNormalize3:=Unit×Unit×Unit×Int×Int×Unit
abbrev ttTrelationNormalize4:=(Unit×Unit×Unit)×(Unit×Unit×Unit)×List Row×List Column×List Row×Unit
abbrev ttTrelationNormalize5:=List Column×List Row
def zze (t19:List Row) (t20:Int) (t21:Int) (r:Relation):Wy ttTrelationNormalize0 ttTrelationNormalize1 ttTrelationNormalize2:=.i (decide (t21<t20)) (.i (decide (0≤t21)&&decide (t21<Int.ofNat t19.length)) (.bn (zuu r.Columns (t19.getD t21.toNat default).Values) fun r5=>.i (!r5) (.k (.inl 7)) (.bn (zvI (t19.getD t21.toNat default).Ann) fun r4=>.i (!r4) (.k (.inl 1)) (.h ((),(),t19,t20,(IntKind.i64.wrap (t21+1)),()) (r,((),(),()),())))) .d) (.k (.inr r))
def zk1 (x:ttTrelationNormalize0) (y:ttTrelationNormalize1):Wy ttTrelationNormalize0 ttTrelationNormalize1 ttTrelationNormalize2:=zze x.2.2.1 x.2.2.2.1 x.2.2.2.2.1 y.1
def zyx (n:Nat) (t19:List Row) (t20:Int) (t21:Int) (r:Relation):Bool×ttTrelationNormalize2:=zP (zk1) (.inl default) n ((),(),t19,t20,t21,()) (r,((),(),()),())
def zpv (r:ttTrelationNormalize2):LTree ty:=.ite (isL r) (.done .ret [.ptr 440 0,.lit (.int .i64 (getL r))] [.box ([.lit (.slice none 0 0),.lit (.slice none 0 0)]) false]) (.done (.exit 0) [.ptr 440 0,.ptr 441 0] [.box (base.enc 73 (getR r)) false,.box ([.lit (.slice none 0 0),.lit (.slice none 0 0)]) false])
def zqJ:LL ty ttTrelationNormalize0:=za (zbW 440 0) (za (zbW 441 0) (za (lSl 38) (za (lInt .i64) (za (lInt .i64) zD))))
def zqi:BL ty ttTrelationNormalize1:=bBox (zdP (fun x=>(⟨x.1,x.2.1⟩:Relation)) (fun x=>(x.Columns,x.Rows,())) (fun _=>rfl) (za (lSl 67) (za (lSl 38) zD))) false (bBox (za lNil (za lNil zD)) false (bNil))
def zxK (t49:Int) (t50:Int) (t48:List Row) (b3:List Column) (b4:List Row):Wy ttTrelationNormalize3 ttTrelationNormalize4 ttTrelationNormalize5:=.i (decide (t50<t49)) (.i (decide (0≤t50)&&decide (t50<Int.ofNat t48.length)) (.i (Int.ofNat b4.length==0) (.bn (znt (t48.getD t50.toNat default) (t48.getD t50.toNat default).Ann) fun r8=>.i (decide ((b4.length+[r8].length)*48≤reach)) (.h ((),(),(),t49,(IntKind.i64.wrap (t50+1)),()) (((),(),()),((),(),()),t48,b3,(b4++[r8]),())) .d) (.i (decide (0≤IntKind.i64.wrap (Int.ofNat b4.length - 1))&&decide (IntKind.i64.wrap (Int.ofNat b4.length - 1)<Int.ofNat b4.length)) (.bn (zbw (b4.getD (IntKind.i64.wrap (Int.ofNat b4.length - 1)).toNat default) (t48.getD t50.toNat default)) fun r11=>.i (r11 != 0) (.bn (znt (t48.getD t50.toNat default) (t48.getD t50.toNat default).Ann) fun r9=>.i (decide ((b4.length+[r9].length)*48≤reach)) (.h ((),(),(),t49,(IntKind.i64.wrap (t50+1)),()) (((),(),()),((),(),()),t48,b3,(b4++[r9]),())) .d) (.i (decide (0≤IntKind.i64.wrap (Int.ofNat b4.length - 1))&&decide (IntKind.i64.wrap (Int.ofNat b4.length - 1)<Int.ofNat b4.length)) (.bn (zyt (b4.getD (IntKind.i64.wrap (Int.ofNat b4.length - 1)).toNat default).Ann (t48.getD t50.toNat default).Ann) fun r10=>.i (decide (0≤IntKind.i64.wrap (Int.ofNat b4.length - 1))&&decide (IntKind.i64.wrap (Int.ofNat b4.length - 1)<Int.ofNat b4.length)) (.i (decide ((IntKind.i64.wrap (Int.ofNat b4.length - 1)).toNat<b4.length)) (.h ((),(),(),t49,(IntKind.i64.wrap (t50+1)),()) (((),(),()),((),(),()),t48,b3,(b4.set (IntKind.i64.wrap (Int.ofNat b4.length - 1)).toNat (Row.mk (b4.getD (IntKind.i64.wrap (Int.ofNat b4.length - 1)).toNat default).Values r10.1)),())) .d) .d) .d)) .d)) .d) (.k (b3,b4))
def zkD (x:ttTrelationNormalize3) (y:ttTrelationNormalize4):Wy ttTrelationNormalize3 ttTrelationNormalize4 ttTrelationNormalize5:=zxK x.2.2.2.1 x.2.2.2.2.1 y.2.2.1 y.2.2.2.1 y.2.2.2.2.1
def zxP (n:Nat) (t49:Int) (t50:Int) (t48:List Row) (b3:List Column) (b4:List Row):Bool×ttTrelationNormalize5:=zP (zkD) default n ((),(),(),t49,t50,()) (((),(),()),((),(),()),t48,b3,b4,())
def zo1 (r:ttTrelationNormalize5):LTree ty:=.done (.exit 2) [.ptr 440 0,.ptr 441 0] [.box ([.lit (.slice none 0 0),.lit (.slice none 0 0)]) false,.box ([.own 442,.own 443]) false,.arr 67 r.1 false,.arr 38 r.2 false]
def zpz:LL ty ttTrelationNormalize3:=za (zbW 440 0) (za (zbW 441 0) (za (lOwn 442) (za (lInt .i64) (za (lInt .i64) zD))))
def zpS:BL ty ttTrelationNormalize4:=bBox (za lNil (za lNil zD)) false (bBox (za (lOwn 443) (za (lOwn 444) zD)) false (bArr 38 false (bArr 67 false (bArr 38 false (bNil)))))
def zpF (x:ttTrelationNormalize0) (y:ttTrelationNormalize1):Nat:=(x.2.2.1.length+Int.toNat x.2.2.2.1+Int.toNat x.2.2.2.2.1+y.1.Columns.length+y.1.Rows.length+1000)
def zoU (x:ttTrelationNormalize3) (y:ttTrelationNormalize4):Nat:=(Int.toNat x.2.2.2.1+Int.toNat x.2.2.2.2.1+y.2.2.1.length+y.2.2.2.1.length+y.2.2.2.2.1.length+1000)
def zlw:Cx ty:=mkCx base 110 [(67,zmJ),(68,ztP),(69,annotation_Valid_spec),(70,zhA),(71,zi7),(72,zgM),(73,zdg),(74,zlt),(75,zhq),(76,zrx),(77,annotation_Add_spec)] [(70,[true,false]),(73,[true,false])] [(4,[(1,.keep),(2,.keep),(19,.keep),(20,.keep),(21,.keep)]),(15,[(2,.keep),(7,.boxOwn [(1,38)]),(48,.keep),(49,.keep),(50,.keep)])] [(4,1,[(1,.keep),(2,.keep)]),(4,0,[(2,.keep),(3,.keep)]),(15,3,[(2,.keep),(7,.keep)]),(15,0,[(2,.keep),(3,.keep)])] [(4,spW zqJ zqi (zk1) (.inl default) zpv zpF),(15,spW zpz zpS (zkD) default zo1 zoU)] []
theorem zx5:zW zlw (lp (body Tryz.f35) 0):=zK (id:=4) (V:=zqJ) (B:=zqi) (W:=zk1) (z:=.inl default) (tr:=zpv) (m:=zpF)
theorem zwQ:zW zlw (lp (body Tryz.f35) 1):=zK (id:=15) (V:=zpz) (B:=zpS) (W:=zkD) (z:=default) (tr:=zo1) (m:=zoU)
def zrq (r:Relation):Wy0 (Relation×Int):=.bn (zlA r.Columns) fun r22=>.i (!r22) (.k ((⟨[],[]⟩:Relation),1)) (.bn (zyx (r.Rows.length+(Int.ofNat r.Rows.length).toNat +Int.toNat 0+r.Columns.length+r.Rows.length+1000) r.Rows (Int.ofNat r.Rows.length) 0 r) fun r21=>.i (isL r21) (.k ((⟨[],[]⟩:Relation),getL r21)) (.bn (zhF (getR r21).Rows) fun r20=>.bn (zf9 r20) fun r19=>.bn (zbc r19) fun r18=>.bn (zfO (getR r21).Columns) fun r17=>.bn (zxP ((Int.ofNat r18.length).toNat +Int.toNat 0+r18.length+r17.length+0+1000) (Int.ofNat r18.length) 0 r18 r17 []) fun r16=>.i (decide (Int.ofNat r16.2.length>1024)) (.k ((⟨[],[]⟩:Relation),6)) (.k ((⟨r16.1,r16.2⟩:Relation),0))))
def zkt (r:Relation):Bool×(Relation×Int):=(zrq r).fin default
def zpC (r:Relation×Int):ARes ty:=⟨[.pure (.agg (base.enc 73 r.1)),.pure (.lit (.int .i64 r.2))],[]⟩
def zr3:AL base (Relation×Unit):=zf (zg (vAgg 73)) aNil
def zoE:Ab.Spec ty:=zk zr3 fun x=>((zkt x.1).1,zpC (zkt x.1).2)
theorem zwx:Sound Tryz.prog base 35 zoE:=
 zr (cx':=zlw) zF zm zB (zu ⟨ztW,zAH,zxT,zmk,zow,zik,zky,zpU,zlI,zzi,zzR,trivial⟩) Tryz.call35 Tryz.func35 (c:=body Tryz.f35) (by kernel_rfl) (zh (l:=[lp (body Tryz.f35) 0,lp (body Tryz.f35) 1]) (by kernel_rfl) ⟨zx5,zwQ,trivial⟩) (sg:=⟨[.pure,.pure],[]⟩) (A:=zr3) (res:=zpC) (W:=fun x=>zrq x.1) (z:=default)
def zKO (k:Go.Value) (l:List (Go.Value×Int)):Option Int:=mget (ty:=ty) (V:=3) k l
def zKD (k:Go.Value) (l:List (Go.Value×Int)):Bool:=mhas (ty:=ty) (V:=3) k l
def zxq (k:Go.Value) (x:Int) (l:List (Go.Value×Int)):List (Go.Value×Int):=mset (ty:=ty) (V:=3) k x l
def zKX (k:Go.Value) (x:Bool) (l:List (Go.Value×Bool)):List (Go.Value×Bool):=mset (ty:=ty) (V:=4) k x l
def zfo (x:List Value):Bool×List Value:=zCR (fun a b=>zbF a b) x
def slices_SortFunc_Lapi_Value_api_Value_spec:Ab.Spec ty:=zk (cx:=base) (zf (aOwn 40) (zf (zg (vFn 79 (vNil))) aNil)) fun x=>((zfo x.1).1,⟨[],[some ⟨40,(zfo x.1).2⟩]⟩)
theorem zmD (c:Unit) (x y:Value) (h:(zbF x y).1=true):zb9 ((AV.agg (base.enc 40 x)::AV.agg (base.enc 40 y)::(vNil:VL base (Unit)).enc c).map Arg.pure)=some (true,⟨[.pure (.lit (.int .i64 (zbF x y).2))],[]⟩):=by
 rw [← h]; kernel_rfl
theorem zlu:Sound Tryz.prog base 78 slices_SortFunc_Lapi_Value_api_Value_spec:=by
 letI:DecidableEq (ty 40):=inferInstanceAs (DecidableEq Value)
 exact zGx (T:=40) zm rfl Go.Proofs.Tryz.sortVal Tryz.isAgg40 (by unfold szOf; exact Tryz.sizeOf40) Tryz.call78 zcj (vNil) (fun c=>fun a b=>zbF a b) zmD
abbrev ttTstatisticscolumn0:=Unit×Unit×Int×Unit×Unit×Int×Int×Unit
abbrev ttTstatisticscolumn1:=List Value×(Int×Int×Int×ByteArray×Int×Int×ByteArray×Unit×Unit)×(List (_root_.Go.Value×Bool))×Unit
abbrev ttTstatisticscolumn2:=Int×List Value×Int×Int×Int×ByteArray×Int×Int×ByteArray×(List (_root_.Go.Value×Bool))
abbrev ttTstatisticscolumn3:=Unit×Unit×Int×Unit×Int×Unit
abbrev ttTstatisticscolumn4:=List Value×(Int×Int×Int×ByteArray×Int×Int×ByteArray×Unit×Unit)×(Int×Int×Int×ByteArray×Int×Int×ByteArray×Unit×Unit)×List Value×Unit
abbrev ttTstatisticscolumn5:=Int×Int×Int×ByteArray×Int×Int×ByteArray×Int×Int×Int×ByteArray×Int×Int×ByteArray×List Value
def zzr (n_:Int) (t18:Int) (t19:Int) (l:List Value) (t2_0:Int) (t2_1:Int) (t2_2:Int) (t2_3:ByteArray) (t2_4:Int) (t2_5:Int) (t2_6:ByteArray) (seen:List (_root_.Go.Value×Bool)):Wy ttTstatisticscolumn0 ttTstatisticscolumn1 ttTstatisticscolumn2:=.i (decide (t19<t18)) (.i (decide (0≤t19)&&decide (t19<Int.ofNat l.length)) (.h ((),(),n_,(),(),t18,(IntKind.i64.wrap (t19+1)),()) (l,(t2_0,t2_1,t2_2,t2_3,t2_4,t2_5,t2_6,(),()),(zKX (Value.agg #[Value.int IntKind.i64 (l.getD t19.toNat default).Kind,Value.int IntKind.i64 (l.getD t19.toNat default).Int,Value.string (l.getD t19.toNat default).Text]) true seen),())) .d) (.k (n_,l,t2_0,t2_1,t2_2,t2_3,t2_4,t2_5,t2_6,seen))
def zmH (x:ttTstatisticscolumn0) (y:ttTstatisticscolumn1):Wy ttTstatisticscolumn0 ttTstatisticscolumn1 ttTstatisticscolumn2:=zzr x.2.2.1 x.2.2.2.2.2.1 x.2.2.2.2.2.2.1 y.1 y.2.1.1 y.2.1.2.1 y.2.1.2.2.1 y.2.1.2.2.2.1 y.2.1.2.2.2.2.1 y.2.1.2.2.2.2.2.1 y.2.1.2.2.2.2.2.2.1 y.2.2.1
def zzW (n:Nat) (n_:Int) (t18:Int) (t19:Int) (l:List Value) (t2_0:Int) (t2_1:Int) (t2_2:Int) (t2_3:ByteArray) (t2_4:Int) (t2_5:Int) (t2_6:ByteArray) (seen:List (_root_.Go.Value×Bool)):Bool×ttTstatisticscolumn2:=zP (zmH) default n ((),(),n_,(),(),t18,t19,()) (l,(t2_0,t2_1,t2_2,t2_3,t2_4,t2_5,t2_6,(),()),seen,())
def zq0 (r:ttTstatisticscolumn2):LTree ty:=.done (.exit 0) [.own 224,.ptr 225 0,.lit (.int .i64 r.1),.mp 226] [.arr 40 r.2.1 false,.box ([.lit (.int .i64 r.2.2.1),.lit (.int .i64 r.2.2.2.1),.lit (.int .i64 r.2.2.2.2.1),.lit (.string r.2.2.2.2.2.1),.lit (.int .i64 r.2.2.2.2.2.2.1),.lit (.int .i64 r.2.2.2.2.2.2.2.1),.lit (.string r.2.2.2.2.2.2.2.2.1),.lit (.slice none 0 0)]) false,.mp 40 4 r.2.2.2.2.2.2.2.2.2 false]
def zr1:LL ty ttTstatisticscolumn0:=za (lOwn 224) (za (zbW 225 0) (za (lInt .i64) (za (lMp 226) (za (lOwn 224) (za (lInt .i64) (za (lInt .i64) zD))))))
def zrM:BL ty ttTstatisticscolumn1:=bArr 40 false (bBox (za (lInt .i64) (za (lInt .i64) (za (lInt .i64) (za lStr (za (lInt .i64) (za (lInt .i64) (za lStr (za lNil zD)))))))) false (bMp 40 4 false (bNil)))
def zyu (n_:Int) (i:Int) (l:List Value) (t2_0:Int) (t2_1:Int) (t2_2:Int) (t2_3:ByteArray) (t2_4:Int) (t2_5:Int) (t2_6:ByteArray) (c_0:Int) (c_1:Int) (c_2:Int) (c_3:ByteArray) (c_4:Int) (c_5:Int) (c_6:ByteArray) (b3:List Value):Wy ttTstatisticscolumn3 ttTstatisticscolumn4 ttTstatisticscolumn5:=.i (decide (i≤8)) (.i (decide (0≤IntKind.i64.wrap (IntKind.i64.wrap ((IntKind.i64.wrap (IntKind.i64.wrap (i*n_)+7)).tdiv 8) - 1))&&decide (IntKind.i64.wrap (IntKind.i64.wrap ((IntKind.i64.wrap (IntKind.i64.wrap (i*n_)+7)).tdiv 8) - 1)<Int.ofNat l.length)) (.i (decide ((b3.length+[l.getD (IntKind.i64.wrap (IntKind.i64.wrap ((IntKind.i64.wrap (IntKind.i64.wrap (i*n_)+7)).tdiv 8) - 1)).toNat default].length)*32≤reach)) (.h ((),(),n_,(),(IntKind.i64.wrap (i+1)),()) (l,(t2_0,t2_1,t2_2,t2_3,t2_4,t2_5,t2_6,(),()),(c_0,c_1,c_2,c_3,c_4,c_5,c_6,(),()),(b3++[l.getD (IntKind.i64.wrap (IntKind.i64.wrap ((IntKind.i64.wrap (IntKind.i64.wrap (i*n_)+7)).tdiv 8) - 1)).toNat default]),())) .d) .d) (.k (t2_0,t2_1,t2_2,t2_3,t2_4,t2_5,t2_6,c_0,c_1,c_2,c_3,c_4,c_5,c_6,b3))
def zli (x:ttTstatisticscolumn3) (y:ttTstatisticscolumn4):Wy ttTstatisticscolumn3 ttTstatisticscolumn4 ttTstatisticscolumn5:=zyu x.2.2.1 x.2.2.2.2.1 y.1 y.2.1.1 y.2.1.2.1 y.2.1.2.2.1 y.2.1.2.2.2.1 y.2.1.2.2.2.2.1 y.2.1.2.2.2.2.2.1 y.2.1.2.2.2.2.2.2.1 y.2.2.1.1 y.2.2.1.2.1 y.2.2.1.2.2.1 y.2.2.1.2.2.2.1 y.2.2.1.2.2.2.2.1 y.2.2.1.2.2.2.2.2.1 y.2.2.1.2.2.2.2.2.2.1 y.2.2.2.1
def zyO (n:Nat) (n_:Int) (i:Int) (l:List Value) (t2_0:Int) (t2_1:Int) (t2_2:Int) (t2_3:ByteArray) (t2_4:Int) (t2_5:Int) (t2_6:ByteArray) (c_0:Int) (c_1:Int) (c_2:Int) (c_3:ByteArray) (c_4:Int) (c_5:Int) (c_6:ByteArray) (b3:List Value):Bool×ttTstatisticscolumn5:=zP (zli) default n ((),(),n_,(),i,()) (l,(t2_0,t2_1,t2_2,t2_3,t2_4,t2_5,t2_6,(),()),(c_0,c_1,c_2,c_3,c_4,c_5,c_6,(),()),b3,())
def zpW (r:ttTstatisticscolumn5):LTree ty:=.done (.exit 2) [.ptr 224 0,.ptr 225 0] [.box ([.lit (.int .i64 r.1),.lit (.int .i64 r.2.1),.lit (.int .i64 r.2.2.1),.lit (.string r.2.2.2.1),.lit (.int .i64 r.2.2.2.2.1),.lit (.int .i64 r.2.2.2.2.2.1),.lit (.string r.2.2.2.2.2.2.1),.lit (.slice none 0 0)]) false,.box ([.lit (.int .i64 r.2.2.2.2.2.2.2.1),.lit (.int .i64 r.2.2.2.2.2.2.2.2.1),.lit (.int .i64 r.2.2.2.2.2.2.2.2.2.1),.lit (.string r.2.2.2.2.2.2.2.2.2.2.1),.lit (.int .i64 r.2.2.2.2.2.2.2.2.2.2.2.1),.lit (.int .i64 r.2.2.2.2.2.2.2.2.2.2.2.2.1),.lit (.string r.2.2.2.2.2.2.2.2.2.2.2.2.2.1),.own 226]) false,.arr 40 r.2.2.2.2.2.2.2.2.2.2.2.2.2.2 false]
def zqm:LL ty ttTstatisticscolumn3:=za (lOwn 224) (za (zbW 225 0) (za (lInt .i64) (za (zbW 226 0) (za (lInt .i64) zD))))
def zqP:BL ty ttTstatisticscolumn4:=bArr 40 false (bBox (za (lInt .i64) (za (lInt .i64) (za (lInt .i64) (za lStr (za (lInt .i64) (za (lInt .i64) (za lStr (za lNil zD)))))))) false (bBox (za (lInt .i64) (za (lInt .i64) (za (lInt .i64) (za lStr (za (lInt .i64) (za (lInt .i64) (za lStr (za (lOwn 227) zD)))))))) false (bArr 40 false (bNil))))
def zqe (x:ttTstatisticscolumn0) (y:ttTstatisticscolumn1):Nat:=(Int.toNat x.2.2.1+Int.toNat x.2.2.2.2.2.1+Int.toNat x.2.2.2.2.2.2.1+y.1.length+Int.toNat y.2.1.1+Int.toNat y.2.1.2.1+Int.toNat y.2.1.2.2.1+y.2.1.2.2.2.1.size+Int.toNat y.2.1.2.2.2.2.1+Int.toNat y.2.1.2.2.2.2.2.1+y.2.1.2.2.2.2.2.2.1.size+y.2.2.1.length+1000)
def zpj (x:ttTstatisticscolumn3) (y:ttTstatisticscolumn4):Nat:=(Int.toNat x.2.2.1+Int.toNat x.2.2.2.2.1+y.1.length+Int.toNat y.2.1.1+Int.toNat y.2.1.2.1+Int.toNat y.2.1.2.2.1+y.2.1.2.2.2.1.size+Int.toNat y.2.1.2.2.2.2.1+Int.toNat y.2.1.2.2.2.2.2.1+y.2.1.2.2.2.2.2.2.1.size+Int.toNat y.2.2.1.1+Int.toNat y.2.2.1.2.1+Int.toNat y.2.2.1.2.2.1+y.2.2.1.2.2.2.1.size+Int.toNat y.2.2.1.2.2.2.2.1+Int.toNat y.2.2.1.2.2.2.2.2.1+y.2.2.1.2.2.2.2.2.2.1.size+y.2.2.2.1.length+1000)
def zmz:Cx ty:=mkCx base 56 [(78,slices_SortFunc_Lapi_Value_api_Value_spec),(79,zb9)] [(78,[true,false])] [(7,[(0,.keep),(2,.keep),(3,.keep),(4,.keep),(17,.keep),(18,.keep),(19,.keep)]),(13,[(0,.keep),(2,.keep),(3,.keep),(7,.boxOwn [(7,40)]),(8,.keep)])] [(7,1,[(0,.keep),(2,.keep),(3,.keep),(4,.keep)]),(13,3,[(2,.keep),(7,.keep)])] [(7,spW zr1 zrM (zmH) default zq0 zqe),(13,spW zqm zqP (zli) default zpW zpj)] []
theorem zyk:zW zmz (lp (body Tryz.f36) 0):=zK (id:=7) (V:=zr1) (B:=zrM) (W:=zmH) (z:=default) (tr:=zq0) (m:=zqe)
theorem zxJ:zW zmz (lp (body Tryz.f36) 1):=zK (id:=13) (V:=zqm) (B:=zqP) (W:=zli) (z:=default) (tr:=zpW) (m:=zpj)
def zsu (l:List Value):Wy0 (ColumnStats):=.i (Int.ofNat l.length==0) (.k (⟨0,(⟨0,0,ByteArray.mk #[]⟩:Value),(⟨0,0,ByteArray.mk #[]⟩:Value),[]⟩:ColumnStats)) (.bn (zfo l) fun r2=>.bn (zzW ((Int.ofNat l.length).toNat +(Int.ofNat r2.length).toNat +Int.toNat 0+r2.length+Int.toNat 0+Int.toNat 0+Int.toNat 0+(ByteArray.mk #[]).size+Int.toNat 0+Int.toNat 0+(ByteArray.mk #[]).size+0+1000) (Int.ofNat l.length) (Int.ofNat r2.length) 0 r2 0 0 0 (ByteArray.mk #[]) 0 0 (ByteArray.mk #[]) []) fun r1=>.i (decide ((0:Int)≤(0:Int))&&decide (0<Int.ofNat r1.2.1.length)) (.i (decide (0≤IntKind.i64.wrap (r1.1 - 1))&&decide (IntKind.i64.wrap (r1.1 - 1)<Int.ofNat r1.2.1.length)) (.bn (zyO (r1.1.toNat +Int.toNat 1+r1.2.1.length+r1.2.2.1.toNat +r1.2.2.2.1.toNat +r1.2.2.2.2.1.toNat +r1.2.2.2.2.2.1.size+r1.2.2.2.2.2.2.1.toNat +r1.2.2.2.2.2.2.2.1.toNat +r1.2.2.2.2.2.2.2.2.1.size+(Int.ofNat r1.2.2.2.2.2.2.2.2.2.length).toNat +(r1.2.1.getD (Int.toNat 0) default).Kind.toNat +(r1.2.1.getD (Int.toNat 0) default).Int.toNat +(r1.2.1.getD (Int.toNat 0) default).Text.size+(r1.2.1.getD (IntKind.i64.wrap (r1.1 - 1)).toNat default).Kind.toNat +(r1.2.1.getD (IntKind.i64.wrap (r1.1 - 1)).toNat default).Int.toNat +(r1.2.1.getD (IntKind.i64.wrap (r1.1 - 1)).toNat default).Text.size+0+1000) r1.1 1 r1.2.1 r1.2.2.1 r1.2.2.2.1 r1.2.2.2.2.1 r1.2.2.2.2.2.1 r1.2.2.2.2.2.2.1 r1.2.2.2.2.2.2.2.1 r1.2.2.2.2.2.2.2.2.1 (Int.ofNat r1.2.2.2.2.2.2.2.2.2.length) (r1.2.1.getD (Int.toNat 0) default).Kind (r1.2.1.getD (Int.toNat 0) default).Int (r1.2.1.getD (Int.toNat 0) default).Text (r1.2.1.getD (IntKind.i64.wrap (r1.1 - 1)).toNat default).Kind (r1.2.1.getD (IntKind.i64.wrap (r1.1 - 1)).toNat default).Int (r1.2.1.getD (IntKind.i64.wrap (r1.1 - 1)).toNat default).Text []) fun r0=>.k (⟨r0.2.2.2.2.2.2.2.1,(⟨r0.2.2.2.2.2.2.2.2.1,r0.2.2.2.2.2.2.2.2.2.1,r0.2.2.2.2.2.2.2.2.2.2.1⟩:Value),(⟨r0.2.2.2.2.2.2.2.2.2.2.2.1,r0.2.2.2.2.2.2.2.2.2.2.2.2.1,r0.2.2.2.2.2.2.2.2.2.2.2.2.2.1⟩:Value),r0.2.2.2.2.2.2.2.2.2.2.2.2.2.2⟩:ColumnStats)) .d) .d)
def zo8 (l:List Value):Bool×ColumnStats:=(zsu l).fin default
def zqI (r:ColumnStats):ARes ty:=⟨[.pure (.agg (base.enc 43 r))],[none]⟩
def zsK:AL base (List Value×Unit):=zf (aOwn 40) aNil
def zpP:Ab.Spec ty:=zk zsK fun x=>((zo8 x.1).1,zqI (zo8 x.1).2)
theorem zwW:Sound Tryz.prog base 36 zpP:=
 zr (cx':=zmz) zF zm zB (zu ⟨zlu,zcj,trivial⟩) Tryz.call36 Tryz.func36 (c:=body Tryz.f36) (by kernel_rfl) (zh (l:=[lp (body Tryz.f36) 0,lp (body Tryz.f36) 1]) (by kernel_rfl) ⟨zyk,zxJ,trivial⟩) (sg:=⟨[.pure],[false]⟩) (A:=zsK) (res:=zqI) (W:=fun x=>zsu x.1) (z:=default)
abbrev ttTstatisticsGather0:=Unit×Unit×Unit×Int×Int×Unit
abbrev ttTstatisticsGather1:=Table×(Int×Int×Unit×Unit)×List Row×Unit
abbrev ttTstatisticsGather2:=(Int×Int)⊕(Table×Int×Int)
abbrev ttTstatisticsGather3:=Unit×Unit×Unit×Int×Unit×Int×Int×List Row×Int×Int×Unit
abbrev ttTstatisticsGather4:=Table×(Int×Int×Unit×Unit)×(Int×Int×Unit×Unit)×List Value×List ColumnStats×Unit
abbrev ttTstatisticsGather5:=Int×Int×Table×Int×Int×Int×Int×List Value×List ColumnStats
abbrev ttTstatisticsGather6:=Table×(Int×Int×Unit×Unit)×(Int×Int×Unit×Unit)×List ColumnStats×Unit
abbrev ttTstatisticsGather7:=Int×Int×Int×Int×List ColumnStats
def zzY (t23:Int) (t24:Int) (t:Table) (t2_0:Int) (t2_1:Int) (t22:List Row):Wy ttTstatisticsGather0 ttTstatisticsGather1 ttTstatisticsGather2:=.i (decide (t24<t23)) (.i (decide (0≤t24)&&decide (t24<Int.ofNat t22.length)) (.bn (zkt (Relation.mk t.Columns [Row.mk (t22.getD t24.toNat default).Values []])) fun r4=>.i (r4.2 != 0) (.k (.inl (0,0))) (.h ((),(),(),t23,(IntKind.i64.wrap (t24+1)),()) (t,(t2_0,t2_1,(),()),t22,()))) .d) (.k (.inr (t,t2_0,t2_1)))
def zmE (x:ttTstatisticsGather0) (y:ttTstatisticsGather1):Wy ttTstatisticsGather0 ttTstatisticsGather1 ttTstatisticsGather2:=zzY x.2.2.2.1 x.2.2.2.2.1 y.1 y.2.1.1 y.2.1.2.1 y.2.2.1
def zzE (n:Nat) (t23:Int) (t24:Int) (t:Table) (t2_0:Int) (t2_1:Int) (t22:List Row):Bool×ttTstatisticsGather2:=zP (zmE) (.inl default) n ((),(),(),t23,t24,()) (t,(t2_0,t2_1,(),()),t22,())
def zqv (r:ttTstatisticsGather2):LTree ty:=.ite (isL r) (.done .ret [.ptr 360 0] [.box ([.lit (.int .i64 ((getL r).1)),.lit (.int .i64 ((getL r).2)),.lit (.slice none 0 0)]) false]) (.done (.exit 0) [.ptr 360 0,.ptr 361 0] [.box (base.enc 25 (getR r).1) false,.box ([.lit (.int .i64 (getR r).2.1),.lit (.int .i64 (getR r).2.2),.lit (.slice none 0 0)]) false])
def zr8:LL ty ttTstatisticsGather0:=za (zbW 360 0) (za (zbW 361 0) (za (lOwn 362) (za (lInt .i64) (za (lInt .i64) zD))))
def zrk:BL ty ttTstatisticsGather1:=bBox (zdP (fun x=>(⟨x.1,x.2.1,x.2.2.1,x.2.2.2.1⟩:Table)) (fun x=>(x.ID,x.Name,x.Columns,x.Rows,())) (fun _=>rfl) (za (lInt .i64) (za lStr (za (lSl 67) (za (lSl 38) zD))))) false (bBox (za (lInt .i64) (za (lInt .i64) (za lNil zD))) false (bArr 38 false (bNil)))
def zyi (i:Int) (t61:Int) (t62:Int) (t66:List Row) (t67:Int) (t68:Int) (t:Table) (t2_0:Int) (t2_1:Int) (s_0:Int) (s_1:Int) (l:List Value) (b4:List ColumnStats):Wy ttTstatisticsGather3 ttTstatisticsGather4 ttTstatisticsGather5:=.i (decide (t68<t67)) (.i (decide (0≤t68)&&decide (t68<Int.ofNat t66.length)) (.i (decide (0≤i)&&decide (i<Int.ofNat (t66.getD t68.toNat default).Values.length)) (.i (decide ((l.length+[(t66.getD t68.toNat default).Values.getD i.toNat default].length)*32≤reach)) (.h ((),(),(),i,(),t61,t62,t66,t67,(IntKind.i64.wrap (t68+1)),()) (t,(t2_0,t2_1,(),()),(s_0,s_1,(),()),(l++[(t66.getD t68.toNat default).Values.getD i.toNat default]),b4,())) .d) .d) .d) (.k (t61,t62,t,t2_0,t2_1,s_0,s_1,l,b4))
def zle (x:ttTstatisticsGather3) (y:ttTstatisticsGather4):Wy ttTstatisticsGather3 ttTstatisticsGather4 ttTstatisticsGather5:=zyi x.2.2.2.1 x.2.2.2.2.2.1 x.2.2.2.2.2.2.1 x.2.2.2.2.2.2.2.1 x.2.2.2.2.2.2.2.2.1 x.2.2.2.2.2.2.2.2.2.1 y.1 y.2.1.1 y.2.1.2.1 y.2.2.1.1 y.2.2.1.2.1 y.2.2.2.1 y.2.2.2.2.1
def zyq (n:Nat) (i:Int) (t61:Int) (t62:Int) (t66:List Row) (t67:Int) (t68:Int) (t:Table) (t2_0:Int) (t2_1:Int) (s_0:Int) (s_1:Int) (l:List Value) (b4:List ColumnStats):Bool×ttTstatisticsGather5:=zP (zle) default n ((),(),(),i,(),t61,t62,t66,t67,t68,()) (t,(t2_0,t2_1,(),()),(s_0,s_1,(),()),l,b4,())
def zpD (r:ttTstatisticsGather5):LTree ty:=.done (.exit 4) [.ptr 360 0,.ptr 361 0,.ptr 362 0,.own 363,.lit (.int .i64 r.1),.lit (.int .i64 r.2.1)] [.box (base.enc 25 r.2.2.1) false,.box ([.lit (.int .i64 r.2.2.2.1),.lit (.int .i64 r.2.2.2.2.1),.lit (.slice none 0 0)]) false,.box ([.lit (.int .i64 r.2.2.2.2.2.1),.lit (.int .i64 r.2.2.2.2.2.2.1),.own 364]) false,.arr 40 r.2.2.2.2.2.2.2.1 false,.arr 43 r.2.2.2.2.2.2.2.2 false]
def zqE:LL ty ttTstatisticsGather3:=za (zbW 360 0) (za (zbW 361 0) (za (zbW 362 0) (za (lInt .i64) (za (lOwn 363) (za (lInt .i64) (za (lInt .i64) (za (lSl 38) (za (lInt .i64) (za (lInt .i64) zD)))))))))
def zqq:BL ty ttTstatisticsGather4:=bBox (zdP (fun x=>(⟨x.1,x.2.1,x.2.2.1,x.2.2.2.1⟩:Table)) (fun x=>(x.ID,x.Name,x.Columns,x.Rows,())) (fun _=>rfl) (za (lInt .i64) (za lStr (za (lSl 67) (za (lSl 38) zD))))) false (bBox (za (lInt .i64) (za (lInt .i64) (za lNil zD))) false (bBox (za (lInt .i64) (za (lInt .i64) (za (lOwn 364) zD))) false (bArr 40 false (bArr 43 false (bNil)))))
def zyW (t61:Int) (t62:Int) (t:Table) (t2_0:Int) (t2_1:Int) (s_0:Int) (s_1:Int) (b3:List ColumnStats):Wy ttTstatisticsGather0 ttTstatisticsGather6 ttTstatisticsGather7:=.i (decide (t62<t61)) (.bn (zyq (t62.toNat +t61.toNat +t62.toNat +t.Rows.length+(Int.ofNat t.Rows.length).toNat +Int.toNat 0+t.Columns.length+t.Rows.length+t2_0.toNat +t2_1.toNat +s_0.toNat +s_1.toNat +0+b3.length+1000) t62 t61 t62 t.Rows (Int.ofNat t.Rows.length) 0 t t2_0 t2_1 s_0 s_1 [] b3) fun r7=>.bn (zo8 r7.2.2.2.2.2.2.2.1) fun r6=>.i (decide ((r7.2.2.2.2.2.2.2.2.length+[r6].length)*96≤reach)) (.h ((),(),(),(r7.1),(IntKind.i64.wrap (r7.2.1+1)),()) ((r7.2.2.1),((r7.2.2.2.1),(r7.2.2.2.2.1),(),()),((r7.2.2.2.2.2.1),(r7.2.2.2.2.2.2.1),(),()),(r7.2.2.2.2.2.2.2.2++[r6]),())) .d) (.k (t2_0,t2_1,s_0,s_1,b3))
def zlk (x:ttTstatisticsGather0) (y:ttTstatisticsGather6):Wy ttTstatisticsGather0 ttTstatisticsGather6 ttTstatisticsGather7:=zyW x.2.2.2.1 x.2.2.2.2.1 y.1 y.2.1.1 y.2.1.2.1 y.2.2.1.1 y.2.2.1.2.1 y.2.2.2.1
def zzk (n:Nat) (t61:Int) (t62:Int) (t:Table) (t2_0:Int) (t2_1:Int) (s_0:Int) (s_1:Int) (b3:List ColumnStats):Bool×ttTstatisticsGather7:=zP (zlk) default n ((),(),(),t61,t62,()) (t,(t2_0,t2_1,(),()),(s_0,s_1,(),()),b3,())
def zpG (r:ttTstatisticsGather7):LTree ty:=.done (.exit 2) [.ptr 360 0,.ptr 361 0] [.box ([.lit (.int .i64 r.1),.lit (.int .i64 r.2.1),.lit (.slice none 0 0)]) false,.box ([.lit (.int .i64 r.2.2.1),.lit (.int .i64 r.2.2.2.1),.own 362]) false,.arr 43 r.2.2.2.2 false]
def zqW:LL ty ttTstatisticsGather0:=za (zbW 360 0) (za (zbW 361 0) (za (zbW 362 0) (za (lInt .i64) (za (lInt .i64) zD))))
def zqK:BL ty ttTstatisticsGather6:=bBox (zdP (fun x=>(⟨x.1,x.2.1,x.2.2.1,x.2.2.2.1⟩:Table)) (fun x=>(x.ID,x.Name,x.Columns,x.Rows,())) (fun _=>rfl) (za (lInt .i64) (za lStr (za (lSl 67) (za (lSl 38) zD))))) false (bBox (za (lInt .i64) (za (lInt .i64) (za lNil zD))) false (bBox (za (lInt .i64) (za (lInt .i64) (za (lOwn 363) zD))) false (bArr 43 false (bNil))))
def zqg (x:ttTstatisticsGather0) (y:ttTstatisticsGather1):Nat:=(Int.toNat x.2.2.2.1+Int.toNat x.2.2.2.2.1+y.1.Columns.length+y.1.Rows.length+Int.toNat y.2.1.1+Int.toNat y.2.1.2.1+y.2.2.1.length+1000)
def zpw (x:ttTstatisticsGather3) (y:ttTstatisticsGather4):Nat:=(Int.toNat x.2.2.2.1+Int.toNat x.2.2.2.2.2.1+Int.toNat x.2.2.2.2.2.2.1+x.2.2.2.2.2.2.2.1.length+Int.toNat x.2.2.2.2.2.2.2.2.1+Int.toNat x.2.2.2.2.2.2.2.2.2.1+y.1.Columns.length+y.1.Rows.length+Int.toNat y.2.1.1+Int.toNat y.2.1.2.1+Int.toNat y.2.2.1.1+Int.toNat y.2.2.1.2.1+y.2.2.2.1.length+y.2.2.2.2.1.length+1000)
def zpq (x:ttTstatisticsGather0) (y:ttTstatisticsGather6):Nat:=(Int.toNat x.2.2.2.1+Int.toNat x.2.2.2.2.1+y.1.Columns.length+y.1.Rows.length+Int.toNat y.2.1.1+Int.toNat y.2.1.2.1+Int.toNat y.2.2.1.1+Int.toNat y.2.2.1.2.1+y.2.2.2.1.length+1000)
def zje:Cx ty:=mkCx base 90 [(35,zoE),(36,zpP)] [(36,[true])] [(4,[(1,.keep),(2,.keep),(22,.keep),(23,.keep),(24,.keep)]),(15,[(1,.keep),(2,.keep),(9,.boxOwn [(2,43)]),(61,.keep),(62,.keep)]),(19,[(1,.keep),(2,.keep),(9,.keep),(10,.keep),(11,.own 40),(61,.keep),(62,.keep),(66,.keep),(67,.keep),(68,.keep)])] [(4,1,[(1,.keep),(2,.keep)]),(4,0,[(2,.keep)]),(15,3,[(2,.keep),(9,.keep)]),(19,5,[(1,.keep),(2,.keep),(9,.keep),(11,.keep),(61,.keep),(62,.keep)])] [(4,spW zr8 zrk (zmE) (.inl default) zqv zqg),(19,spW zqE zqq (zle) default zpD zpw),(15,spW zqW zqK (zlk) default zpG zpq)] []
theorem zzg:zW zje (lp (body Tryz.f12) 0):=zK (id:=4) (V:=zr8) (B:=zrk) (W:=zmE) (z:=.inl default) (tr:=zqv) (m:=zqg)
theorem zxN:zW zje (lp (body Tryz.f12) 2):=zK (id:=19) (V:=zqE) (B:=zqq) (W:=zle) (z:=default) (tr:=zpD) (m:=zpw)
theorem zxQ:zW zje (lp (body Tryz.f12) 1):=zK (id:=15) (V:=zqW) (B:=zqK) (W:=zlk) (z:=default) (tr:=zpG) (m:=zpq)
def zsE (t:Table):Wy0 (Stats):=.i (decide (Int.ofNat t.Rows.length>1000000)) (.k (⟨0,0,[]⟩:Stats)) (.i (decide ((0+t.Rows.length)*48≤reach)) (.bn (zzE ((Int.ofNat ([]++t.Rows).length).toNat +Int.toNat 0+t.Columns.length+t.Rows.length+Int.toNat 0+Int.toNat 0+([]++t.Rows).length+1000) (Int.ofNat ([]++t.Rows).length) 0 t 0 0 ([]++t.Rows)) fun r12=>.i (isL r12) (.k (⟨(getL r12).1,(getL r12).2,[]⟩:Stats)) (.bn (zkt (Relation.mk (getR r12).1.Columns [])) fun r11=>.i (r11.2 != 0) (.k (⟨0,0,[]⟩:Stats)) (.bn (zzk ((Int.ofNat (getR r12).1.Columns.length).toNat +Int.toNat 0+(getR r12).1.Columns.length+(getR r12).1.Rows.length+(getR r12).2.1.toNat +(getR r12).2.2.toNat +(getR r12).1.ID.toNat +(Int.ofNat (getR r12).1.Rows.length).toNat +0+1000) (Int.ofNat (getR r12).1.Columns.length) 0 (getR r12).1 (getR r12).2.1 (getR r12).2.2 (getR r12).1.ID (Int.ofNat (getR r12).1.Rows.length) []) fun r10=>.k (⟨r10.2.2.1,r10.2.2.2.1,r10.2.2.2.2⟩:Stats)))) .d)
def zuK (t:Table):Bool×Stats:=(zsE t).fin default
def zqx (r:Stats):ARes ty:=⟨[.pure (.agg (base.enc 30 r))],[]⟩
def zsG:AL base (Table×Unit):=zf (zg (vAgg 25)) aNil
def zpr:Ab.Spec ty:=zk zsG fun x=>((zuK x.1).1,zqx (zuK x.1).2)
theorem zwS:Sound Tryz.prog base 12 zpr:=
 zr (cx':=zje) zF zm zB (zu ⟨zwx,zwW,trivial⟩) Tryz.call12 Tryz.func12 (c:=body Tryz.f12) (by kernel_rfl) (zh (l:=[lp (body Tryz.f12) 0,lp (body Tryz.f12) 1,lp (body Tryz.f12) 2]) (by kernel_rfl) ⟨zzg,zxQ,zxN,trivial⟩) (sg:=⟨[.pure],[]⟩) (A:=zsG) (res:=zqx) (W:=fun x=>zsE x.1) (z:=default)
def zkJ (r:Int):ARes ty:=⟨[.pure (.lit (.int .i64 r))],[]⟩
def zlQ:AL base (estimator×Scalar×Unit):=zf (zg (vAgg 88)) (zf (zg (vAgg 47)) aNil)
def zdW (F:estimator→Scalar→Bool×Int):Ab.Spec ty:=zk zlQ fun x=>((F x.1 x.2.1).1,zkJ (F x.1 x.2.1).2)
def zre:Cx ty:=mkCx base 39 [] [] [] [] [] []
def zkl (x_:estimator) (op:Int) (i:Int) (k:Int):Wy0 (Int):=.i (decide (x_.s.Rows>0)) (.i (decide (0≤i)&&decide (i<Int.ofNat x_.s.Columns.length)) (.i (decide (0≤k)&&decide (k<Int.ofNat x_.s.Columns.length)) (.i (!decide ((if (x_.s.Columns.getD k.toNat default).Distinct>(x_.s.Columns.getD i.toNat default).Distinct then (x_.s.Columns.getD k.toNat default).Distinct else (x_.s.Columns.getD i.toNat default).Distinct)=0)) (.i (op==5) (.k (if IntKind.i64.wrap (Int.tdiv 1000 (if (x_.s.Columns.getD k.toNat default).Distinct>(x_.s.Columns.getD i.toNat default).Distinct then (x_.s.Columns.getD k.toNat default).Distinct else (x_.s.Columns.getD i.toNat default).Distinct))>1 then IntKind.i64.wrap (Int.tdiv 1000 (if (x_.s.Columns.getD k.toNat default).Distinct>(x_.s.Columns.getD i.toNat default).Distinct then (x_.s.Columns.getD k.toNat default).Distinct else (x_.s.Columns.getD i.toNat default).Distinct)) else 1)) (.i (op==6) (.k (IntKind.i64.wrap (1000 - if IntKind.i64.wrap (Int.tdiv 1000 (if (x_.s.Columns.getD k.toNat default).Distinct>(x_.s.Columns.getD i.toNat default).Distinct then (x_.s.Columns.getD k.toNat default).Distinct else (x_.s.Columns.getD i.toNat default).Distinct))>1 then IntKind.i64.wrap (Int.tdiv 1000 (if (x_.s.Columns.getD k.toNat default).Distinct>(x_.s.Columns.getD i.toNat default).Distinct then (x_.s.Columns.getD k.toNat default).Distinct else (x_.s.Columns.getD i.toNat default).Distinct)) else 1))) (.k 333))) .d) .d) .d) (.i (op==5) (.k 0) (.i (op==6) (.k (IntKind.i64.wrap (1000 - 0))) (.k 333)))
def zcA (x_:estimator) (op:Int) (i:Int) (k:Int):Bool×Int:=(zkl x_ op i k).fin default
def zjU (r:Int):ARes ty:=⟨[.pure (.lit (.int .i64 r))],[]⟩
def zkq:AL base (estimator×Int×Int×Int×Unit):=zf (zg (vAgg 88)) (zf (zg (vInt .i64)) (zf (zg (vInt .i64)) (zf (zg (vInt .i64)) aNil)))
def zjs:Ab.Spec ty:=zk zkq fun x=>((zcA x.1 x.2.1 x.2.2.1 x.2.2.2.1).1,zjU (zcA x.1 x.2.1 x.2.2.1 x.2.2.2.1).2)
theorem zpg:Sound Tryz.prog base 127 zjs:=
 zr (cx':=zre) zF zm zB (zu trivial) Tryz.call127 Tryz.func127 (c:=body Tryz.f127) (by kernel_rfl) (zh (l:=[]) (by kernel_rfl) trivial) (sg:=⟨[.pure],[]⟩) (A:=zkq) (res:=zjU) (W:=fun x=>zkl x.1 x.2.1 x.2.2.1 x.2.2.2.1) (z:=default)
def zuz:Cx ty:=mkCx base 36 [(79,zb9)] [] [] [] [] []
def znz (x_:estimator) (i:Int) (v:Value):Wy0 (Int):=.i (decide (0≤i)&&decide (i<Int.ofNat x_.s.Columns.length)) (.i (x_.s.Rows==0) (.k 0) (.bn (zbF v (x_.s.Columns.getD i.toNat default).Min) fun r1=>.i (decide (r1<0)) (.k 0) (.bn (zbF v (x_.s.Columns.getD i.toNat default).Max) fun r0=>.i (decide (r0>0)) (.k 0) (.i (!decide ((x_.s.Columns.getD i.toNat default).Distinct=0)) (.k (if IntKind.i64.wrap (Int.tdiv 1000 (x_.s.Columns.getD i.toNat default).Distinct)>1 then IntKind.i64.wrap (Int.tdiv 1000 (x_.s.Columns.getD i.toNat default).Distinct) else 1)) .d)))) .d
def zd2 (x_:estimator) (i:Int) (v:Value):Bool×Int:=(znz x_ i v).fin default
def zmc (r:Int):ARes ty:=⟨[.pure (.lit (.int .i64 r))],[]⟩
def znr:AL base (estimator×Int×Value×Unit):=zf (zg (vAgg 88)) (zf (zg (vInt .i64)) (zf (zg (vAgg 40)) aNil))
def zfN:Ab.Spec ty:=zk znr fun x=>((zd2 x.1 x.2.1 x.2.2.1).1,zmc (zd2 x.1 x.2.1 x.2.2.1).2)
theorem zhI:Sound Tryz.prog base 87 zfN:=
 zr (cx':=zuz) zF zm zB (zu ⟨zcj,trivial⟩) Tryz.call87 Tryz.func87 (c:=body Tryz.f87) (by kernel_rfl) (zh (l:=[]) (by kernel_rfl) trivial) (sg:=⟨[.pure],[]⟩) (A:=znr) (res:=zmc) (W:=fun x=>znz x.1 x.2.1 x.2.2.1) (z:=default)
abbrev ttTstatisticsestimatorlt0:=Unit×Int×List Value×Int×Int×Unit
def zuv (n_:Int) (t16:List Value) (t17:Int) (t18:Int) (v:Value):Wy ttTstatisticsestimatorlt0 (Value×Unit) (Int):=.i (decide (t18<t17)) (.i (decide (0≤t18)&&decide (t18<Int.ofNat t16.length)) (.bn (zbF (t16.getD t18.toNat default) v) fun r0=>.i (decide (r0<0)) (.h ((),(IntKind.i64.wrap (n_+125)),t16,t17,(IntKind.i64.wrap (t18+1)),()) (v,())) (.h ((),n_,t16,t17,(IntKind.i64.wrap (t18+1)),()) (v,()))) .d) (.k n_)
def ziV (x:ttTstatisticsestimatorlt0) (y:Value×Unit):Wy ttTstatisticsestimatorlt0 (Value×Unit) (Int):=zuv x.2.1 x.2.2.1 x.2.2.2.1 x.2.2.2.2.1 y.1
def zuE (n:Nat) (n_:Int) (t16:List Value) (t17:Int) (t18:Int) (v:Value):Bool×Int:=zP (ziV) default n ((),n_,t16,t17,t18,()) (v,())
def zmh (r:Int):LTree ty:=.done (.exit 0) [.lit (.int .i64 r)] []
def zmN:LL ty ttTstatisticsestimatorlt0:=za (zbW 120 0) (za (lInt .i64) (za (lSl 40) (za (lInt .i64) (za (lInt .i64) zD))))
def zmW:BL ty (Value×Unit):=bBox (zdP (fun x=>(⟨x.1,x.2.1,x.2.2.1⟩:Value)) (fun x=>(x.Kind,x.Int,x.Text,())) (fun _=>rfl) (za (lInt .i64) (za (lInt .i64) (za lStr zD)))) false (bNil)
def zmg (x:ttTstatisticsestimatorlt0) (y:Value×Unit):Nat:=(Int.toNat x.2.1+x.2.2.1.length+Int.toNat x.2.2.2.1+Int.toNat x.2.2.2.2.1+1000)
def zmO:Cx ty:=mkCx base 30 [(79,zb9)] [] [(3,[(5,.keep),(7,.keep),(16,.keep),(17,.keep),(18,.keep)])] [(3,1,[(7,.keep)])] [(3,spW zmN zmW (ziV) default zmh zmg)] []
theorem zt9:zW zmO (lp (body Tryz.f60) 0):=zK (id:=3) (V:=zmN) (B:=zmW) (W:=ziV) (z:=default) (tr:=zmh) (m:=zmg)
def znO (x_:estimator) (i:Int) (v:Value):Wy0 (Int):=.i (decide (0≤i)&&decide (i<Int.ofNat x_.s.Columns.length)) (.bn (zuE (Int.toNat 0+(x_.s.Columns.getD i.toNat default).Bounds.length+(Int.ofNat (x_.s.Columns.getD i.toNat default).Bounds.length).toNat +Int.toNat 0+1000) 0 (x_.s.Columns.getD i.toNat default).Bounds (Int.ofNat (x_.s.Columns.getD i.toNat default).Bounds.length) 0 v) fun r2=>.k r2) .d
def zfW (x_:estimator) (i:Int) (v:Value):Bool×Int:=(znO x_ i v).fin default
def zme (r:Int):ARes ty:=⟨[.pure (.lit (.int .i64 r))],[]⟩
def znh:AL base (estimator×Int×Value×Unit):=zf (zg (vAgg 88)) (zf (zg (vInt .i64)) (zf (zg (vAgg 40)) aNil))
def zh0:Ab.Spec ty:=zk znh fun x=>((zfW x.1 x.2.1 x.2.2.1).1,zme (zfW x.1 x.2.1 x.2.2.1).2)
theorem zkR:Sound Tryz.prog base 60 zh0:=
 zr (cx':=zmO) zF zm zB (zu ⟨zcj,trivial⟩) Tryz.call60 Tryz.func60 (c:=body Tryz.f60) (by kernel_rfl) (zh (l:=[lp (body Tryz.f60) 0]) (by kernel_rfl) ⟨zt9,trivial⟩) (sg:=⟨[.pure],[]⟩) (A:=znh) (res:=zme) (W:=fun x=>znO x.1 x.2.1 x.2.2.1) (z:=default)
def zui:Cx ty:=mkCx base 17 [(60,zh0),(87,zfN)] [] [] [] [] []
def znR (x_:estimator) (i:Int) (v:Value):Wy0 (Int):=.bn (zfW x_ i v) fun r1=>.bn (zd2 x_ i v) fun r0=>.k (if IntKind.i64.wrap (r1+r0)<1000 then IntKind.i64.wrap (r1+r0) else 1000)
def zhO (x_:estimator) (i:Int) (v:Value):Bool×Int:=(znR x_ i v).fin default
def zl8 (r:Int):ARes ty:=⟨[.pure (.lit (.int .i64 r))],[]⟩
def znq:AL base (estimator×Int×Value×Unit):=zf (zg (vAgg 88)) (zf (zg (vInt .i64)) (zf (zg (vAgg 40)) aNil))
def zk8:Ab.Spec ty:=zk znq fun x=>((zhO x.1 x.2.1 x.2.2.1).1,zl8 (zhO x.1 x.2.1 x.2.2.1).2)
theorem zsk:Sound Tryz.prog base 61 zk8:=
 zr (cx':=zui) zF zm zB (zu ⟨zkR,zhI,trivial⟩) Tryz.call61 Tryz.func61 (c:=body Tryz.f61) (by kernel_rfl) (zh (l:=[]) (by kernel_rfl) trivial) (sg:=⟨[.pure],[]⟩) (A:=znq) (res:=zl8) (W:=fun x=>znR x.1 x.2.1 x.2.2.1) (z:=default)
def zrf:Cx ty:=mkCx base 47 [(60,zh0),(61,zk8),(87,zfN)] [] [] [] [] []
def zkm (x_:estimator) (op:Int) (i:Int) (v:Value):Wy0 (Int):=.i (op==5) (.bn (zd2 x_ i v) fun r0=>.k r0) (.i (op==6) (.bn (zd2 x_ i v) fun r1=>.k (IntKind.i64.wrap (1000 - r1))) (.i (op==7) (.bn (zfW x_ i v) fun r2=>.k r2) (.i (op==8) (.bn (zhO x_ i v) fun r3=>.k r3) (.i (op==9) (.bn (zhO x_ i v) fun r4=>.k (IntKind.i64.wrap (1000 - r4))) (.bn (zfW x_ i v) fun r5=>.k (IntKind.i64.wrap (1000 - r5)))))))
def zcD (x_:estimator) (op:Int) (i:Int) (v:Value):Bool×Int:=(zkm x_ op i v).fin default
def zjN (r:Int):ARes ty:=⟨[.pure (.lit (.int .i64 r))],[]⟩
def zks:AL base (estimator×Int×Int×Value×Unit):=zf (zg (vAgg 88)) (zf (zg (vInt .i64)) (zf (zg (vInt .i64)) (zf (zg (vAgg 40)) aNil)))
def zjr:Ab.Spec ty:=zk zks fun x=>((zcD x.1 x.2.1 x.2.2.1 x.2.2.2.1).1,zjN (zcD x.1 x.2.1 x.2.2.1 x.2.2.2.1).2)
theorem zpb:Sound Tryz.prog base 128 zjr:=
 zr (cx':=zrf) zF zm zB (zu ⟨zkR,zsk,zhI,trivial⟩) Tryz.call128 Tryz.func128 (c:=body Tryz.f128) (by kernel_rfl) (zh (l:=[]) (by kernel_rfl) trivial) (sg:=⟨[.pure],[]⟩) (A:=zks) (res:=zjN) (W:=fun x=>zkm x.1 x.2.1 x.2.2.1 x.2.2.2.1) (z:=default)
def zuf:Cx ty:=mkCx base 15 [] [] [] [] [] []
def zm3 (x_:estimator) (i:Int):Wy0 (Bool):=.i (decide (i≥0)) (.k (decide (i<Int.ofNat x_.s.Columns.length))) (.k false)
def zcH (x_:estimator) (i:Int):Bool×Bool:=(zm3 x_ i).fin default
def zla (r:Bool):ARes ty:=⟨[.pure (.lit (.bool r))],[]⟩
def zmV:AL base (estimator×Int×Unit):=zf (zg (vAgg 88)) (zf (zg (vInt .i64)) aNil)
def zhK:Ab.Spec ty:=zk zmV fun x=>((zcH x.1 x.2.1).1,zla (zcH x.1 x.2.1).2)
theorem zkn:Sound Tryz.prog base 59 zhK:=
 zr (cx':=zuf) zF zm zB (zu trivial) Tryz.call59 Tryz.func59 (c:=body Tryz.f59) (by kernel_rfl) (zh (l:=[]) (by kernel_rfl) trivial) (sg:=⟨[.pure],[]⟩) (A:=zmV) (res:=zla) (W:=fun x=>zm3 x.1 x.2.1) (z:=default)
def zxL:Cx ty:=mkCx base 17 [] [] [] [] [] []
def zqM (op:Int):Wy0 (Int):=.i (zKD (Value.int IntKind.i64 op) (zxq (Value.int IntKind.i64 10) 8 (zxq (Value.int IntKind.i64 8) 10 (zxq (Value.int IntKind.i64 9) 7 (zxq (Value.int IntKind.i64 7) 9 []))))) (.k ((zKO (Value.int IntKind.i64 op) (zxq (Value.int IntKind.i64 10) 8 (zxq (Value.int IntKind.i64 8) 10 (zxq (Value.int IntKind.i64 9) 7 (zxq (Value.int IntKind.i64 7) 9 []))))).getD 0)) (.k op)
def zna (op:Int):Bool×Int:=(zqM op).fin default
def zoQ (r:Int):ARes ty:=⟨[.pure (.lit (.int .i64 r))],[]⟩
def zqy:AL base (Int×Unit):=zf (zg (vInt .i64)) aNil
def znX:Ab.Spec ty:=zk zqy fun x=>((zna x.1).1,zoQ (zna x.1).2)
theorem zvq:Sound Tryz.prog base 126 znX:=
 zr (cx':=zxL) zF zm zB (zu trivial) Tryz.call126 Tryz.func126 (c:=body Tryz.f126) (by kernel_rfl) (zh (l:=[]) (by kernel_rfl) trivial) (sg:=⟨[.pure],[]⟩) (A:=zqy) (res:=zoQ) (W:=fun x=>zqM x.1) (z:=default)
def zpf:Cx ty:=mkCx base 63 [(59,zhK),(126,znX),(127,zjs),(128,zjr)] [] [] [] [] []
def zjw (x_:estimator) (op:Int) (a:Scalar) (b:Scalar):Wy0 (Int):=.i (a.Kind==0) (.bn (zna op) fun r6=>.i (b.Kind != 1) (.k 333) (.i (a.Kind==2) (.k 333) (.bn (zcH x_ b.Column) fun r5=>.i (!r5) (.k 333) (.i (a.Kind==1) (.bn (zcH x_ a.Column) fun r2=>.i (!r2) (.k 333) (.i (a.Kind==1) (.bn (zcA x_ r6 b.Column a.Column) fun r0=>.k r0) (.i (a.Kind==0) (.bn (zcD x_ r6 b.Column a.Value) fun r1=>.k r1) (.k 333)))) (.i (a.Kind==1) (.bn (zcA x_ r6 b.Column a.Column) fun r3=>.k r3) (.i (a.Kind==0) (.bn (zcD x_ r6 b.Column a.Value) fun r4=>.k r4) (.k 333))))))) (.i (a.Kind != 1) (.k 333) (.i (b.Kind==2) (.k 333) (.bn (zcH x_ a.Column) fun r12=>.i (!r12) (.k 333) (.i (b.Kind==1) (.bn (zcH x_ b.Column) fun r9=>.i (!r9) (.k 333) (.i (b.Kind==1) (.bn (zcA x_ op a.Column b.Column) fun r7=>.k r7) (.i (b.Kind==0) (.bn (zcD x_ op a.Column b.Value) fun r8=>.k r8) (.k 333)))) (.i (b.Kind==1) (.bn (zcA x_ op a.Column b.Column) fun r10=>.k r10) (.i (b.Kind==0) (.bn (zcD x_ op a.Column b.Value) fun r11=>.k r11) (.k 333)))))))
def zb7 (x_:estimator) (op:Int) (a:Scalar) (b:Scalar):Bool×Int:=(zjw x_ op a b).fin default
def ziD (r:Int):ARes ty:=⟨[.pure (.lit (.int .i64 r))],[]⟩
def zjt:AL base (estimator×Int×Scalar×Scalar×Unit):=zf (zg (vAgg 88)) (zf (zg (vInt .i64)) (zf (zg (vAgg 47)) (zf (zg (vAgg 47)) aNil)))
def zix:Ab.Spec ty:=zk zjt fun x=>((zb7 x.1 x.2.1 x.2.2.1 x.2.2.2.1).1,ziD (zb7 x.1 x.2.1 x.2.2.1 x.2.2.2.1).2)
theorem znU:Sound Tryz.prog base 88 zix:=
 zr (cx':=zpf) zF zm zB (zu ⟨zkn,zvq,zpg,zpb,trivial⟩) Tryz.call88 Tryz.func88 (c:=body Tryz.f88) (by kernel_rfl) (zh (l:=[]) (by kernel_rfl) trivial) (sg:=⟨[.pure],[]⟩) (A:=zjt) (res:=ziD) (W:=fun x=>zjw x.1 x.2.1 x.2.2.1 x.2.2.2.1) (z:=default)
def zrm (zw:estimator→Scalar→Bool×Int):Cx ty:=mkCx base 121 [(46,(zdW zw)),(59,zhK),(87,zfN),(88,zix)] [] [] [] [] []
def zkI (zw:estimator→Scalar→Bool×Int) (x_:estimator) (e:Scalar):Wy0 (Int):=.i (e.Kind==0) (.i (e.Value.Kind==2&&(e.Value.Int==1&&(e.Value.Text.toList==(ByteArray.mk #[]).toList&&true))) (.k 1000) (.k 0)) (.i (e.Kind==1) (.bn (zcH x_ e.Column) fun r12=>.i (r12) (.bn (zd2 x_ e.Column (Value.mk 2 1 (ByteArray.mk #[]))) fun r0=>.k r0) (.i (e.Kind != 2) (.k 333) (.i (e.Op==13) (.i (Int.ofNat e.Args.length==1) (.i (decide ((0:Int)≤(0:Int))&&decide (0<Int.ofNat e.Args.length)) (.bn (zw x_ (Scalar.mk (e.Args.getD (Int.toNat 0) default).Kind (e.Args.getD (Int.toNat 0) default).Column (e.Args.getD (Int.toNat 0) default).Value (e.Args.getD (Int.toNat 0) default).Op (e.Args.getD (Int.toNat 0) default).Args)) fun r1=>.k (IntKind.i64.wrap (1000 - r1))) .d) (.i (Int.ofNat e.Args.length != 2) (.k 333) (.i (e.Op==11) (.i (decide ((0:Int)≤(0:Int))&&decide (0<Int.ofNat e.Args.length)) (.bn (zw x_ (Scalar.mk (e.Args.getD (Int.toNat 0) default).Kind (e.Args.getD (Int.toNat 0) default).Column (e.Args.getD (Int.toNat 0) default).Value (e.Args.getD (Int.toNat 0) default).Op (e.Args.getD (Int.toNat 0) default).Args)) fun r3=>.i (decide ((0:Int)≤(1:Int))&&decide (1<Int.ofNat e.Args.length)) (.bn (zw x_ (Scalar.mk (e.Args.getD (Int.toNat 1) default).Kind (e.Args.getD (Int.toNat 1) default).Column (e.Args.getD (Int.toNat 1) default).Value (e.Args.getD (Int.toNat 1) default).Op (e.Args.getD (Int.toNat 1) default).Args)) fun r2=>.k (IntKind.i64.wrap ((IntKind.i64.wrap (r3*r2)).tdiv 1000))) .d) .d) (.i (e.Op==12) (.i (decide ((0:Int)≤(0:Int))&&decide (0<Int.ofNat e.Args.length)) (.bn (zw x_ (Scalar.mk (e.Args.getD (Int.toNat 0) default).Kind (e.Args.getD (Int.toNat 0) default).Column (e.Args.getD (Int.toNat 0) default).Value (e.Args.getD (Int.toNat 0) default).Op (e.Args.getD (Int.toNat 0) default).Args)) fun r5=>.i (decide ((0:Int)≤(1:Int))&&decide (1<Int.ofNat e.Args.length)) (.bn (zw x_ (Scalar.mk (e.Args.getD (Int.toNat 1) default).Kind (e.Args.getD (Int.toNat 1) default).Column (e.Args.getD (Int.toNat 1) default).Value (e.Args.getD (Int.toNat 1) default).Op (e.Args.getD (Int.toNat 1) default).Args)) fun r4=>.k (IntKind.i64.wrap (IntKind.i64.wrap (r5+r4) - IntKind.i64.wrap ((IntKind.i64.wrap (r5*r4)).tdiv 1000)))) .d) .d) (.i (decide (e.Op≥5)) (.i (decide (e.Op≤10)) (.i (decide ((0:Int)≤(0:Int))&&decide (0<Int.ofNat e.Args.length)) (.i (decide ((0:Int)≤(1:Int))&&decide (1<Int.ofNat e.Args.length)) (.bn (zb7 x_ e.Op (Scalar.mk (e.Args.getD (Int.toNat 0) default).Kind (e.Args.getD (Int.toNat 0) default).Column (e.Args.getD (Int.toNat 0) default).Value (e.Args.getD (Int.toNat 0) default).Op (e.Args.getD (Int.toNat 0) default).Args) (Scalar.mk (e.Args.getD (Int.toNat 1) default).Kind (e.Args.getD (Int.toNat 1) default).Column (e.Args.getD (Int.toNat 1) default).Value (e.Args.getD (Int.toNat 1) default).Op (e.Args.getD (Int.toNat 1) default).Args)) fun r6=>.k r6) .d) .d) (.k 333)) (.k 333)))))) (.i (Int.ofNat e.Args.length != 2) (.k 333) (.i (e.Op==11) (.i (decide ((0:Int)≤(0:Int))&&decide (0<Int.ofNat e.Args.length)) (.bn (zw x_ (Scalar.mk (e.Args.getD (Int.toNat 0) default).Kind (e.Args.getD (Int.toNat 0) default).Column (e.Args.getD (Int.toNat 0) default).Value (e.Args.getD (Int.toNat 0) default).Op (e.Args.getD (Int.toNat 0) default).Args)) fun r8=>.i (decide ((0:Int)≤(1:Int))&&decide (1<Int.ofNat e.Args.length)) (.bn (zw x_ (Scalar.mk (e.Args.getD (Int.toNat 1) default).Kind (e.Args.getD (Int.toNat 1) default).Column (e.Args.getD (Int.toNat 1) default).Value (e.Args.getD (Int.toNat 1) default).Op (e.Args.getD (Int.toNat 1) default).Args)) fun r7=>.k (IntKind.i64.wrap ((IntKind.i64.wrap (r8*r7)).tdiv 1000))) .d) .d) (.i (e.Op==12) (.i (decide ((0:Int)≤(0:Int))&&decide (0<Int.ofNat e.Args.length)) (.bn (zw x_ (Scalar.mk (e.Args.getD (Int.toNat 0) default).Kind (e.Args.getD (Int.toNat 0) default).Column (e.Args.getD (Int.toNat 0) default).Value (e.Args.getD (Int.toNat 0) default).Op (e.Args.getD (Int.toNat 0) default).Args)) fun r10=>.i (decide ((0:Int)≤(1:Int))&&decide (1<Int.ofNat e.Args.length)) (.bn (zw x_ (Scalar.mk (e.Args.getD (Int.toNat 1) default).Kind (e.Args.getD (Int.toNat 1) default).Column (e.Args.getD (Int.toNat 1) default).Value (e.Args.getD (Int.toNat 1) default).Op (e.Args.getD (Int.toNat 1) default).Args)) fun r9=>.k (IntKind.i64.wrap (IntKind.i64.wrap (r10+r9) - IntKind.i64.wrap ((IntKind.i64.wrap (r10*r9)).tdiv 1000)))) .d) .d) (.i (decide (e.Op≥5)) (.i (decide (e.Op≤10)) (.i (decide ((0:Int)≤(0:Int))&&decide (0<Int.ofNat e.Args.length)) (.i (decide ((0:Int)≤(1:Int))&&decide (1<Int.ofNat e.Args.length)) (.bn (zb7 x_ e.Op (Scalar.mk (e.Args.getD (Int.toNat 0) default).Kind (e.Args.getD (Int.toNat 0) default).Column (e.Args.getD (Int.toNat 0) default).Value (e.Args.getD (Int.toNat 0) default).Op (e.Args.getD (Int.toNat 0) default).Args) (Scalar.mk (e.Args.getD (Int.toNat 1) default).Kind (e.Args.getD (Int.toNat 1) default).Column (e.Args.getD (Int.toNat 1) default).Value (e.Args.getD (Int.toNat 1) default).Op (e.Args.getD (Int.toNat 1) default).Args)) fun r11=>.k r11) .d) .d) (.k 333)) (.k 333)))))))) (.i (e.Kind != 2) (.k 333) (.i (e.Op==13) (.i (Int.ofNat e.Args.length==1) (.i (decide ((0:Int)≤(0:Int))&&decide (0<Int.ofNat e.Args.length)) (.bn (zw x_ (Scalar.mk (e.Args.getD (Int.toNat 0) default).Kind (e.Args.getD (Int.toNat 0) default).Column (e.Args.getD (Int.toNat 0) default).Value (e.Args.getD (Int.toNat 0) default).Op (e.Args.getD (Int.toNat 0) default).Args)) fun r13=>.k (IntKind.i64.wrap (1000 - r13))) .d) (.i (Int.ofNat e.Args.length != 2) (.k 333) (.i (e.Op==11) (.i (decide ((0:Int)≤(0:Int))&&decide (0<Int.ofNat e.Args.length)) (.bn (zw x_ (Scalar.mk (e.Args.getD (Int.toNat 0) default).Kind (e.Args.getD (Int.toNat 0) default).Column (e.Args.getD (Int.toNat 0) default).Value (e.Args.getD (Int.toNat 0) default).Op (e.Args.getD (Int.toNat 0) default).Args)) fun r15=>.i (decide ((0:Int)≤(1:Int))&&decide (1<Int.ofNat e.Args.length)) (.bn (zw x_ (Scalar.mk (e.Args.getD (Int.toNat 1) default).Kind (e.Args.getD (Int.toNat 1) default).Column (e.Args.getD (Int.toNat 1) default).Value (e.Args.getD (Int.toNat 1) default).Op (e.Args.getD (Int.toNat 1) default).Args)) fun r14=>.k (IntKind.i64.wrap ((IntKind.i64.wrap (r15*r14)).tdiv 1000))) .d) .d) (.i (e.Op==12) (.i (decide ((0:Int)≤(0:Int))&&decide (0<Int.ofNat e.Args.length)) (.bn (zw x_ (Scalar.mk (e.Args.getD (Int.toNat 0) default).Kind (e.Args.getD (Int.toNat 0) default).Column (e.Args.getD (Int.toNat 0) default).Value (e.Args.getD (Int.toNat 0) default).Op (e.Args.getD (Int.toNat 0) default).Args)) fun r17=>.i (decide ((0:Int)≤(1:Int))&&decide (1<Int.ofNat e.Args.length)) (.bn (zw x_ (Scalar.mk (e.Args.getD (Int.toNat 1) default).Kind (e.Args.getD (Int.toNat 1) default).Column (e.Args.getD (Int.toNat 1) default).Value (e.Args.getD (Int.toNat 1) default).Op (e.Args.getD (Int.toNat 1) default).Args)) fun r16=>.k (IntKind.i64.wrap (IntKind.i64.wrap (r17+r16) - IntKind.i64.wrap ((IntKind.i64.wrap (r17*r16)).tdiv 1000)))) .d) .d) (.i (decide (e.Op≥5)) (.i (decide (e.Op≤10)) (.i (decide ((0:Int)≤(0:Int))&&decide (0<Int.ofNat e.Args.length)) (.i (decide ((0:Int)≤(1:Int))&&decide (1<Int.ofNat e.Args.length)) (.bn (zb7 x_ e.Op (Scalar.mk (e.Args.getD (Int.toNat 0) default).Kind (e.Args.getD (Int.toNat 0) default).Column (e.Args.getD (Int.toNat 0) default).Value (e.Args.getD (Int.toNat 0) default).Op (e.Args.getD (Int.toNat 0) default).Args) (Scalar.mk (e.Args.getD (Int.toNat 1) default).Kind (e.Args.getD (Int.toNat 1) default).Column (e.Args.getD (Int.toNat 1) default).Value (e.Args.getD (Int.toNat 1) default).Op (e.Args.getD (Int.toNat 1) default).Args)) fun r18=>.k r18) .d) .d) (.k 333)) (.k 333)))))) (.i (Int.ofNat e.Args.length != 2) (.k 333) (.i (e.Op==11) (.i (decide ((0:Int)≤(0:Int))&&decide (0<Int.ofNat e.Args.length)) (.bn (zw x_ (Scalar.mk (e.Args.getD (Int.toNat 0) default).Kind (e.Args.getD (Int.toNat 0) default).Column (e.Args.getD (Int.toNat 0) default).Value (e.Args.getD (Int.toNat 0) default).Op (e.Args.getD (Int.toNat 0) default).Args)) fun r20=>.i (decide ((0:Int)≤(1:Int))&&decide (1<Int.ofNat e.Args.length)) (.bn (zw x_ (Scalar.mk (e.Args.getD (Int.toNat 1) default).Kind (e.Args.getD (Int.toNat 1) default).Column (e.Args.getD (Int.toNat 1) default).Value (e.Args.getD (Int.toNat 1) default).Op (e.Args.getD (Int.toNat 1) default).Args)) fun r19=>.k (IntKind.i64.wrap ((IntKind.i64.wrap (r20*r19)).tdiv 1000))) .d) .d) (.i (e.Op==12) (.i (decide ((0:Int)≤(0:Int))&&decide (0<Int.ofNat e.Args.length)) (.bn (zw x_ (Scalar.mk (e.Args.getD (Int.toNat 0) default).Kind (e.Args.getD (Int.toNat 0) default).Column (e.Args.getD (Int.toNat 0) default).Value (e.Args.getD (Int.toNat 0) default).Op (e.Args.getD (Int.toNat 0) default).Args)) fun r22=>.i (decide ((0:Int)≤(1:Int))&&decide (1<Int.ofNat e.Args.length)) (.bn (zw x_ (Scalar.mk (e.Args.getD (Int.toNat 1) default).Kind (e.Args.getD (Int.toNat 1) default).Column (e.Args.getD (Int.toNat 1) default).Value (e.Args.getD (Int.toNat 1) default).Op (e.Args.getD (Int.toNat 1) default).Args)) fun r21=>.k (IntKind.i64.wrap (IntKind.i64.wrap (r22+r21) - IntKind.i64.wrap ((IntKind.i64.wrap (r22*r21)).tdiv 1000)))) .d) .d) (.i (decide (e.Op≥5)) (.i (decide (e.Op≤10)) (.i (decide ((0:Int)≤(0:Int))&&decide (0<Int.ofNat e.Args.length)) (.i (decide ((0:Int)≤(1:Int))&&decide (1<Int.ofNat e.Args.length)) (.bn (zb7 x_ e.Op (Scalar.mk (e.Args.getD (Int.toNat 0) default).Kind (e.Args.getD (Int.toNat 0) default).Column (e.Args.getD (Int.toNat 0) default).Value (e.Args.getD (Int.toNat 0) default).Op (e.Args.getD (Int.toNat 0) default).Args) (Scalar.mk (e.Args.getD (Int.toNat 1) default).Kind (e.Args.getD (Int.toNat 1) default).Column (e.Args.getD (Int.toNat 1) default).Value (e.Args.getD (Int.toNat 1) default).Op (e.Args.getD (Int.toNat 1) default).Args)) fun r23=>.k r23) .d) .d) (.k 333)) (.k 333))))))))
def zmb (zw:estimator→Scalar→Bool×Int) (x_:estimator) (e:Scalar):Bool×Int:=(zkI zw x_ e).fin default
theorem zpO (zw:estimator→Scalar→Bool×Int) (zsh:Sound Tryz.prog base 46 (zdW zw)):Sound Tryz.prog base 46 (zdW (zmb zw)):=
 zr (cx':=(zrm zw)) zF zm zB (zu ⟨zsh,zkn,zhI,znU,trivial⟩) Tryz.call46 Tryz.func46 (c:=body Tryz.f46) (by kernel_rfl) (zh (l:=[]) (by kernel_rfl) trivial) (sg:=⟨[.pure],[]⟩) (A:=zlQ) (res:=zkJ) (W:=fun x=>zkI zw x.1 x.2.1) (z:=default)
def zFj:Nat→(estimator→Scalar→Bool×Int)
 | 0=>fun _ _=>(false,default)
 | n+1=>zmb (zFj n)
def zl4 (n:Nat):estimator→Scalar→Bool×Int:=zFj n
theorem zDx:∀ n,Sound Tryz.prog base 46 (zdW (zl4 n))
 | 0=>zbm Tryz.call46 (fun _=>rfl)
 | n+1=>by
  have ih:=zDx n
  exact zpO _ (ih)
def znx:estimator→Scalar→Bool×Int:=zl4 1000
def statistics_estimator_cond_spec:Ab.Spec ty:=zdW znx
theorem zrc:Sound Tryz.prog base 46 statistics_estimator_cond_spec:=(zDx 1000)
def zvd:Cx ty:=mkCx base 12 [(15,zg3),(46,statistics_estimator_cond_spec)] [] [] [] [] []
def znZ (s:Stats) (cond:Scalar):Wy0 (Int):=.bn (zgZ s) fun r1=>.i (!r1) (.k 0) (.bn (znx (estimator.mk s) (Scalar.mk cond.Kind cond.Column cond.Value cond.Op cond.Args)) fun r0=>.k r0)
def zpp (s:Stats) (cond:Scalar):Bool×Int:=(znZ s cond).fin default
def zmQ (r:Int):ARes ty:=⟨[.pure (.lit (.int .i64 r))],[]⟩
def zoi:AL base (Stats×Scalar×Unit):=zf (zg (vAgg 30)) (zf (zg (vAgg 47)) aNil)
def zmd:Ab.Spec ty:=zk zoi fun x=>((zpp x.1 x.2.1).1,zmQ (zpp x.1 x.2.1).2)
theorem ztl:Sound Tryz.prog base 19 zmd:=
 zr (cx':=zvd) zF zm zB (zu ⟨zib,zrc,trivial⟩) Tryz.call19 Tryz.func19 (c:=body Tryz.f19) (by kernel_rfl) (zh (l:=[]) (by kernel_rfl) trivial) (sg:=⟨[.pure],[]⟩) (A:=zoi) (res:=zmQ) (W:=fun x=>znZ x.1 x.2.1) (z:=default)
abbrev ttTlaw37awake0:=Unit×Unit×Int×Int×Unit
abbrev ttTlaw37awake1:=(Int×ByteArray×Unit×Unit×Unit)×List Int×List Column×List Row×Unit
abbrev ttTlaw37awake2:=Int×ByteArray×List Column×List Row
def zEn (t10:Int) (t11:Int) (t_0:Int) (t_1:ByteArray) (t9:List Int) (b2:List Column) (b3:List Row):Wy ttTlaw37awake0 ttTlaw37awake1 ttTlaw37awake2:=.i (decide (t11<t10)) (.i (decide (0≤t11)&&decide (t11<Int.ofNat t9.length)) (.i (decide ((b3.length+[Row.mk [(zp4 (t9.getD t11.toNat default)).2] []].length)*48≤reach)) (.h ((),(),t10,(IntKind.i64.wrap (t11+1)),()) ((t_0,t_1,(),(),()),t9,b2,(b3++[Row.mk [(zp4 (t9.getD t11.toNat default)).2] []]),())) .d) .d) (.k (t_0,t_1,b2,b3))
def zyn (x:ttTlaw37awake0) (y:ttTlaw37awake1):Wy ttTlaw37awake0 ttTlaw37awake1 ttTlaw37awake2:=zEn x.2.2.1 x.2.2.2.1 y.1.1 y.1.2.1 y.2.1 y.2.2.1 y.2.2.2.1
def zxe (r:ttTlaw37awake2):LTree ty:=.done (.exit 0) [.ptr 368 0] [.box ([.lit (.int .i64 r.1),.lit (.string r.2.1),.own 369,.own 370]) false,.arr 67 r.2.2.1 false,.arr 38 r.2.2.2 false]
def zyI:LL ty ttTlaw37awake0:=za (zbW 368 0) (za (lOwn 369) (za (lInt .i64) (za (lInt .i64) zD)))
def zyL:BL ty ttTlaw37awake1:=bBox (za (lInt .i64) (za lStr (za (lOwn 370) (za (lOwn 371) zD)))) false (bArr 2 false (bArr 67 false (bArr 38 false (bNil))))
def zxj (x:ttTlaw37awake0) (y:ttTlaw37awake1):Nat:=(Int.toNat x.2.2.1+Int.toNat x.2.2.2.1+Int.toNat y.1.1+y.1.2.1.size+y.2.1.length+y.2.2.1.length+y.2.2.2.1.length+1000)
def zym:Cx ty:=mkCx base0 92 [(12,zpr),(15,zg3),(19,zmd),(21,zt7),(24,zkF),(32,ztS),(33,zr6)] [] [(3,[(1,.boxOwn [(3,38)]),(9,.keep),(10,.keep),(11,.keep)])] [(3,1,[(1,.keep)])] [(3,spW zyI zyL (zyn) default zxe zxj)] []
theorem zDT:zW zym (lp (body Tryz.f10) 0):=zK (id:=3) (V:=zyI) (B:=zyL) (W:=zyn) (z:=default) (tr:=zxe) (m:=zxj)
def zAm:Wy0 (Bool):=.k true
def zCk:Bool×Bool:=(zAm).fin default
def zxo (r:Bool):ARes ty:=⟨[.pure (.lit (.bool r))],[]⟩
def zAi:AL base0 (Unit):=aNil
def zwt:Ab.Spec ty:=zk zAi fun x=>((zCk ).1,zxo (zCk ).2)
theorem zB5:Sound Tryz.prog base0 10 zwt:=
 zr (cx':=zym) zF zs4 zB (zu ⟨zwS.nodr,zib.nodr,ztl.nodr,zAE.nodr,zoT,zAK.nodr,zvR.nodr,trivial⟩) Tryz.call10 Tryz.func10 (c:=body Tryz.f10) (by kernel_rfl) (zh (l:=[lp (body Tryz.f10) 0]) (by kernel_rfl) ⟨zDT,trivial⟩) (sg:=⟨[.pure],[]⟩) (A:=zAi) (res:=zxo) (W:=fun x=>zAm ) (z:=default)
abbrev ttTref01Short0:=List Value×Int×Int×Unit
abbrev ttTref01Short1:=Bool⊕(List Value×Int)
def zsZ (l:List Value) (n_:Int) (i:Int):Wy ttTref01Short0 (Unit) ttTref01Short1:=.i (decide (i<Int.ofNat l.length)) (.i (decide (0≤i)&&decide (i<Int.ofNat l.length)) (.i (decide (Int.ofNat (l.getD i.toNat default).Text.size>300)) (.k (.inl false)) (.h (l,n_,(IntKind.i64.wrap (i+1)),()) ())) .d) (.k (.inr (l,n_)))
def zsQ (x:ttTref01Short0) (y:Unit):Wy ttTref01Short0 (Unit) ttTref01Short1:=zsZ x.1 x.2.1 x.2.2.1
def zto (n:Nat) (l:List Value) (n_:Int) (i:Int):Bool×ttTref01Short1:=zP (zsQ) (.inl default) n (l,n_,i,()) ()
def zxn (r:ttTref01Short1):LTree ty:=.ite (isL r) (.done .ret [.lit (.bool (getL r))] []) (.done (.exit 0) [.sl 40 (getR r).1,.lit (.int .i64 (getR r).2)] [])
def zyP:LL ty ttTref01Short0:=za (lSl 40) (za (lInt .i64) (za (lInt .i64) zD))
def zyF:BL ty (Unit):=bNil
def zxa (x:ttTref01Short0) (y:Unit):Nat:=(x.1.length+Int.toNat x.2.1+Int.toNat x.2.2.1+1)
def zyR:Cx ty:=mkCx base 23 [] [] [(2,[(0,.keep),(1,.keep),(5,.keep)])] [(2,1,[(0,.keep),(1,.keep)]),(2,0,[(4,.keep)])] [(2,spW zyP zyF (zsQ) (.inl default) zxn zxa)] []
theorem zDd:zW zyR (lp (body Tryz.f27) 0):=zK (id:=2) (V:=zyP) (B:=zyF) (W:=zsQ) (z:=.inl default) (tr:=zxn) (m:=zxa)
def zun (l:List Value) (n_:Int):Wy0 (Bool):=.bn (zto (l.length+n_.toNat +Int.toNat 0+1) l n_ 0) fun r0=>.i (isL r0) (.k (getL r0)) (.k (decide (Int.ofNat (getR r0).1.length≤(getR r0).2)))
def zm8 (l:List Value) (n_:Int):Bool×Bool:=(zun l n_).fin default
def zxD (r:Bool):ARes ty:=⟨[.pure (.lit (.bool r))],[]⟩
def zAu:AL base (List Value×Int×Unit):=zf (zg (vSl 40)) (zf (zg (vInt .i64)) aNil)
def zwA:Ab.Spec ty:=zk zAu fun x=>((zm8 x.1 x.2.1).1,zxD (zm8 x.1 x.2.1).2)
theorem zBZ:Sound Tryz.prog base 27 zwA:=
 zr (cx':=zyR) zF zm zB (zu trivial) Tryz.call27 Tryz.func27 (c:=body Tryz.f27) (by kernel_rfl) (zh (l:=[lp (body Tryz.f27) 0]) (by kernel_rfl) ⟨zDd,trivial⟩) (sg:=⟨[.pure],[]⟩) (A:=zAu) (res:=zxD) (W:=fun x=>zun x.1 x.2.1) (z:=default)
abbrev ttTref37Few0:=Unit×Int×Unit
def zvz (i:Int) (s:Stats):Wy ttTref37Few0 (Stats×Unit) (Bool⊕Stats):=.i (decide (i<Int.ofNat s.Columns.length)) (.i (decide (0≤i)&&decide (i<Int.ofNat s.Columns.length)) (.bn (zm8 (s.Columns.getD i.toNat default).Bounds 20) fun r0=>.i (!r0) (.k (.inl false)) (.i (decide (0≤i)&&decide (i<Int.ofNat s.Columns.length)) (.i (decide (0≤i)&&decide (i<Int.ofNat s.Columns.length)) (.i (decide (IntKind.i64.wrap (Int.ofNat (s.Columns.getD i.toNat default).Min.Text.size+Int.ofNat (s.Columns.getD i.toNat default).Max.Text.size)>600)) (.k (.inl false)) (.h ((),(IntKind.i64.wrap (i+1)),()) (s,()))) .d) .d)) .d) (.k (.inr s))
def zvX (x:ttTref37Few0) (y:Stats×Unit):Wy ttTref37Few0 (Stats×Unit) (Bool⊕Stats):=zvz x.2.1 y.1
def zwa (n:Nat) (i:Int) (s:Stats):Bool×(Bool⊕Stats):=zP (zvX) (.inl default) n ((),i,()) (s,())
def zAs (r:Bool⊕Stats):LTree ty:=.ite (isL r) (.done .ret [.lit (.bool (getL r))] []) (.done (.exit 0) [.ptr 172 0] [.box (base.enc 30 (getR r)) false])
def zBJ:LL ty ttTref37Few0:=za (zbW 172 0) (za (lInt .i64) zD)
def zAQ:BL ty (Stats×Unit):=bBox (zdP (fun x=>(⟨x.1,x.2.1,x.2.2.1⟩:Stats)) (fun x=>(x.Table,x.Rows,x.Columns,())) (fun _=>rfl) (za (lInt .i64) (za (lInt .i64) (za (lSl 43) zD)))) false (bNil)
def zz8 (x:ttTref37Few0) (y:Stats×Unit):Nat:=(Int.toNat x.2.1+y.1.Columns.length+1)
def zA5:Cx ty:=mkCx base 43 [(27,zwA)] [] [(2,[(1,.keep),(3,.keep)])] [(2,1,[(1,.keep)]),(2,0,[(2,.keep)])] [(2,spW zBJ zAQ (zvX) (.inl default) zAs zz8)] []
theorem zEX:zW zA5 (lp (body Tryz.f17) 0):=zK (id:=2) (V:=zBJ) (B:=zAQ) (W:=zvX) (z:=.inl default) (tr:=zAs) (m:=zz8)
def zx0 (s:Stats):Wy0 (Bool):=.bn (zwa (Int.toNat 0+s.Columns.length+1) 0 s) fun r2=>.i (isL r2) (.k (getL r2)) (.k (decide (Int.ofNat (getR r2).Columns.length≤20)))
def zqu (s:Stats):Bool×Bool:=(zx0 s).fin default
def zAh (r:Bool):ARes ty:=⟨[.pure (.lit (.bool r))],[]⟩
def zCm:AL base (Stats×Unit):=zf (zg (vAgg 30)) aNil
def zyp:Ab.Spec ty:=zk zCm fun x=>((zqu x.1).1,zAh (zqu x.1).2)
theorem zDC:Sound Tryz.prog base 17 zyp:=
 zr (cx':=zA5) zF zm zB (zu ⟨zBZ,trivial⟩) Tryz.call17 Tryz.func17 (c:=body Tryz.f17) (by kernel_rfl) (zh (l:=[lp (body Tryz.f17) 0]) (by kernel_rfl) ⟨zEX,trivial⟩) (sg:=⟨[.pure],[]⟩) (A:=zCm) (res:=zAh) (W:=fun x=>zx0 x.1) (z:=default)
abbrev ttTref37Find0:=List Stats×Int×Unit×Int×Unit
abbrev ttTref37Find1:=(Int×Int×Unit×Unit)×Unit
abbrev ttTref37Find2:=(Bool×Stats)⊕(Int×Int)
def zEW (l:List Stats) (table:Int) (i:Int) (t4_0:Int) (t4_1:Int):Wy ttTref37Find0 ttTref37Find1 ttTref37Find2:=.i (decide (i<Int.ofNat l.length)) (.i (decide (0≤i)&&decide (i<Int.ofNat l.length)) (.i ((l.getD i.toNat default).Table==table) (.i (decide (0≤i)&&decide (i<Int.ofNat l.length)) (.k (.inl (true,(l.getD i.toNat default)))) .d) (.h (l,table,(),(IntKind.i64.wrap (i+1)),()) ((t4_0,t4_1,(),()),()))) .d) (.k (.inr (t4_0,t4_1)))
def zup (x:ttTref37Find0) (y:ttTref37Find1):Wy ttTref37Find0 ttTref37Find1 ttTref37Find2:=zEW x.1 x.2.1 x.2.2.2.1 y.1.1 y.1.2.1
def ziW (n:Nat) (l:List Stats) (table:Int) (i:Int) (t4_0:Int) (t4_1:Int):Bool×ttTref37Find2:=zP (zup) (.inl default) n (l,table,(),i,()) ((t4_0,t4_1,(),()),())
def zye (r:ttTref37Find2):LTree ty:=.ite (isL r) (.done .ret [.ptr 100 0,.lit (.bool ((getL r).1))] [.box (base.enc 30 ((getL r).2)) false]) (.done (.exit 0) [.ptr 100 0] [.box ([.lit (.int .i64 (getR r).1),.lit (.int .i64 (getR r).2),.lit (.slice none 0 0)]) false])
def zAd:LL ty ttTref37Find0:=za (lSl 30) (za (lInt .i64) (za (zbW 100 0) (za (lInt .i64) zD)))
def zAj:BL ty ttTref37Find1:=bBox (za (lInt .i64) (za (lInt .i64) (za lNil zD))) false (bNil)
def zyB (x:ttTref37Find0) (y:ttTref37Find1):Nat:=(x.1.length+Int.toNat x.2.1+Int.toNat x.2.2.2.1+Int.toNat y.1.1+Int.toNat y.1.2.1+1)
def zAA:Cx ty:=mkCx base 25 [] [] [(2,[(0,.keep),(1,.keep),(4,.keep),(6,.keep)])] [(2,1,[(4,.keep)]),(2,0,[(4,.keep),(5,.keep)])] [(2,spW zAd zAj (zup) (.inl default) zye zyB)] []
theorem zEo:zW zAA (lp (body Tryz.f23) 0):=zK (id:=2) (V:=zAd) (B:=zAj) (W:=zup) (z:=.inl default) (tr:=zye) (m:=zyB)
def zwC (l:List Stats) (table:Int):Wy0 (Stats×Bool):=.bn (ziW (l.length+table.toNat +Int.toNat 0+Int.toNat 0+Int.toNat 0+1) l table 0 0 0) fun r0=>.i (isL r0) (.k ((getL r0).2,(getL r0).1)) (.k ((⟨0,0,[]⟩:Stats),false))
def zrj (l:List Stats) (table:Int):Bool×(Stats×Bool):=(zwC l table).fin default
def zyV (r:Stats×Bool):ARes ty:=⟨[.pure (.agg (base.enc 30 r.1)),.pure (.lit (.bool r.2))],[]⟩
def zAU:AL base (List Stats×Int×Unit):=zf (zg (vSl 30)) (zf (zg (vInt .i64)) aNil)
def zxw:Ab.Spec ty:=zk zAU fun x=>((zrj x.1 x.2.1).1,zyV (zrj x.1 x.2.1).2)
theorem zCN:Sound Tryz.prog base 23 zxw:=
 zr (cx':=zAA) zF zm zB (zu trivial) Tryz.call23 Tryz.func23 (c:=body Tryz.f23) (by kernel_rfl) (zh (l:=[lp (body Tryz.f23) 0]) (by kernel_rfl) ⟨zEo,trivial⟩) (sg:=⟨[.pure,.pure],[]⟩) (A:=zAU) (res:=zyV) (W:=fun x=>zwC x.1 x.2.1) (z:=default)
def zvE (r:ByteArray):ARes ty:=⟨[.pure (.lit (.string r))],[]⟩
def zyz:AL base (Int×Unit):=zf (zg (vInt .u64)) aNil
def zlz (F:Int→Bool×ByteArray):Ab.Spec ty:=zk zyz fun x=>((F x.1).1,zvE (F x.1).2)
def zB4 (zem:Int→Bool×ByteArray):Cx ty:=mkCx base 20 [(99,(zlz zem))] [] [] [] [] []
def zp8 (zem:Int→Bool×ByteArray) (n_:Int):Wy0 (ByteArray):=.i (decide (n_<10)) (.k (List.foldl (fun r n=>r.push (UInt8.ofNat n.toNat)) ByteArray.empty [IntKind.u8.wrap (IntKind.u64.wrap (48+n_))])) (.bn (zem (IntKind.u64.wrap (n_.tdiv 10))) fun r0=>.i (decide (r0.size+(List.foldl (fun r n=>r.push (UInt8.ofNat n.toNat)) ByteArray.empty [IntKind.u8.wrap (IntKind.u64.wrap (48+n_.tmod 10))]).size≤9223372036854775807)) (.k (r0++List.foldl (fun r n=>r.push (UInt8.ofNat n.toNat)) ByteArray.empty [IntKind.u8.wrap (IntKind.u64.wrap (48+n_.tmod 10))])) .d)
def zoz (zem:Int→Bool×ByteArray) (n_:Int):Bool×ByteArray:=(zp8 zem n_).fin default
theorem zzo (zem:Int→Bool×ByteArray) (zCM:Sound Tryz.prog base 99 (zlz zem)):Sound Tryz.prog base 99 (zlz (zoz zem)):=
 zr (cx':=(zB4 zem)) zF zm zB (zu ⟨zCM,trivial⟩) Tryz.call99 Tryz.func99 (c:=body Tryz.f99) (by kernel_rfl) (zh (l:=[]) (by kernel_rfl) trivial) (sg:=⟨[.pure],[]⟩) (A:=zyz) (res:=zvE) (W:=fun x=>zp8 zem x.1) (z:=default)
def zC7:Nat→(Int→Bool×ByteArray)
 | 0=>fun _=>(false,default)
 | n+1=>zoz (zC7 n)
def zjG (n:Nat):Int→Bool×ByteArray:=zC7 n
theorem zBY (n:Nat):zjG (n+1)=zoz (zjG n):=rfl
theorem zBf:∀ n,Sound Tryz.prog base 99 (zlz (zjG n))
 | 0=>zbm Tryz.call99 (fun _=>rfl)
 | n+1=>by
  have ih:=zBf n
  exact zzo _ (ih)
def zrF:Int→Bool×ByteArray:=zjG 1000
def ref01_Digits_spec:Ab.Spec ty:=zlz zrF
theorem zBz:Sound Tryz.prog base 99 ref01_Digits_spec:=(zBf 1000)
def zCH:Cx ty:=mkCx base 13 [(99,ref01_Digits_spec)] [] [] [] [] []
def zsf (n_:Int):Wy0 (ByteArray):=.i (decide (n_<0)) (.bn (zrF (IntKind.u64.wrap (0 - IntKind.u64.wrap n_))) fun r0=>.i (decide ((ByteArray.mk #[(45:UInt8)]).size+r0.size≤9223372036854775807)) (.k (ByteArray.mk #[(45:UInt8)]++r0)) .d) (.bn (zrF (IntKind.u64.wrap n_)) fun r1=>.k r1)
def zgK (n_:Int):Bool×ByteArray:=(zsf n_).fin default
def zuZ (r:ByteArray):ARes ty:=⟨[.pure (.lit (.string r))],[]⟩
def zxc:AL base (Int×Unit):=zf (zg (vInt .i64)) aNil
def zn2:Ab.Spec ty:=zk zxc fun x=>((zgK x.1).1,zuZ (zgK x.1).2)
theorem zsN:Sound Tryz.prog base 55 zn2:=
 zr (cx':=zCH) zF zm zB (zu ⟨zBz,trivial⟩) Tryz.call55 Tryz.func55 (c:=body Tryz.f55) (by kernel_rfl) (zh (l:=[]) (by kernel_rfl) trivial) (sg:=⟨[.pure],[]⟩) (A:=zxc) (res:=zuZ) (W:=fun x=>zsf x.1) (z:=default)
def zD9:Cx ty:=mkCx base 36 [] [] [] [] [] []
def zuI (v:Value):Wy0 (Bool):=.i (v.Kind==0) (.k (v.Text.toList==(ByteArray.mk #[]).toList)) (.i (v.Kind==1) (.i (v.Int==0) (.k (decide (Int.ofNat v.Text.size≤255))) (.k false)) (.i (v.Kind==2) (.i (v.Text.toList==(ByteArray.mk #[]).toList) (.i (v.Int==0) (.k true) (.k (v.Int==1))) (.k false)) (.k false)))
def zjv (v:Value):Bool×Bool:=(zuI v).fin default
def zxf (r:Bool):ARes ty:=⟨[.pure (.lit (.bool r))],[]⟩
def zAr:AL base (Value×Unit):=zf (zg (vAgg 40)) aNil
def zqc:Ab.Spec ty:=zk zAr fun x=>((zjv x.1).1,zxf (zjv x.1).2)
theorem zuN:Sound Tryz.prog base 80 zqc:=
 zr (cx':=zD9) zF zm zB (zu trivial) Tryz.call80 Tryz.func80 (c:=body Tryz.f80) (by kernel_rfl) (zh (l:=[]) (by kernel_rfl) trivial) (sg:=⟨[.pure],[]⟩) (A:=zAr) (res:=zxf) (W:=fun x=>zuI x.1) (z:=default)
abbrev ttTref01Format0:=Unit×ByteArray×Int×Unit
def zqd (s:ByteArray) (i:Int) (v:Value):Wy ttTref01Format0 (Value×Unit) (ByteArray):=.i (decide (i<Int.ofNat v.Text.size)) (.i (decide (0≤i)&&decide (i≤IntKind.i64.wrap (i+1))&&decide (IntKind.i64.wrap (i+1)≤Int.ofNat v.Text.size)) (.i (decide (s.size+(v.Text.extract i.toNat (IntKind.i64.wrap (i+1)).toNat).size≤9223372036854775807)) (.i (decide (0≤i)&&decide (i<Int.ofNat v.Text.size)) (.i (zyE v.Text i==39) (.i (decide ((s++v.Text.extract i.toNat (IntKind.i64.wrap (i+1)).toNat).size+(ByteArray.mk #[(39:UInt8)]).size≤9223372036854775807)) (.h ((),(s++v.Text.extract i.toNat (IntKind.i64.wrap (i+1)).toNat++ByteArray.mk #[(39:UInt8)]),(IntKind.i64.wrap (i+1)),()) (v,())) .d) (.h ((),(s++v.Text.extract i.toNat (IntKind.i64.wrap (i+1)).toNat),(IntKind.i64.wrap (i+1)),()) (v,()))) .d) .d) .d) (.k s)
def zmu (x:ttTref01Format0) (y:Value×Unit):Wy ttTref01Format0 (Value×Unit) (ByteArray):=zqd x.2.1 x.2.2.1 y.1
def zp7 (n:Nat) (s:ByteArray) (i:Int) (v:Value):Bool×ByteArray:=zP (zmu) default n ((),s,i,()) (v,())
def zu5 (r:ByteArray):LTree ty:=.done (.exit 0) [.lit (.string r)] []
def zvZ:LL ty ttTref01Format0:=za (zbW 176 0) (za lStr (za (lInt .i64) zD))
def zwo:BL ty (Value×Unit):=bBox (zdP (fun x=>(⟨x.1,x.2.1,x.2.2.1⟩:Value)) (fun x=>(x.Kind,x.Int,x.Text,())) (fun _=>rfl) (za (lInt .i64) (za (lInt .i64) (za lStr zD)))) false (bNil)
def zw0:Cx ty:=mkCx base 44 [(55,zn2),(80,zqc)] [] [(11,[(1,.keep),(3,.keep),(4,.keep)])] [(11,1,[(3,.keep)])] [(11,spW zvZ zwo (zmu) default zu5 fun x y=>(x.2.1.size+Int.toNat x.2.2.1+1000))] []
theorem zB2:zW zw0 (lp (body Tryz.f56) 0):=zK (id:=11) (V:=zvZ) (B:=zwo) (W:=zmu) (z:=default) (tr:=zu5) (m:=fun x y=>(x.2.1.size+Int.toNat x.2.2.1+1000))
def zs8 (v:Value):Wy0 (ByteArray):=.bn (zjv v) fun r2=>.i (!r2) (.k (ByteArray.mk #[])) (.i (v.Kind==0) (.bn (zgK v.Int) fun r0=>.k r0) (.i (v.Kind==2) (.i (v.Int==1) (.k (ByteArray.mk #[(84:UInt8),(82:UInt8),(85:UInt8),(69:UInt8)])) (.k (ByteArray.mk #[(70:UInt8),(65:UInt8),(76:UInt8),(83:UInt8),(69:UInt8)]))) (.bn (zp7 ((ByteArray.mk #[(39:UInt8)]).size+Int.toNat 0+1000) (ByteArray.mk #[(39:UInt8)]) 0 v) fun r1=>.i (decide (r1.size+(ByteArray.mk #[(39:UInt8)]).size≤9223372036854775807)) (.k (r1++ByteArray.mk #[(39:UInt8)])) .d)))
def ziv (v:Value):Bool×ByteArray:=(zs8 v).fin default
def zvy (r:ByteArray):ARes ty:=⟨[.pure (.lit (.string r))],[]⟩
def zzf:AL base (Value×Unit):=zf (zg (vAgg 40)) aNil
def zpa:Ab.Spec ty:=zk zzf fun x=>((ziv x.1).1,zvy (ziv x.1).2)
theorem ztw:Sound Tryz.prog base 56 zpa:=
 zr (cx':=zw0) zF zm zB (zu ⟨zsN,zuN,trivial⟩) Tryz.call56 Tryz.func56 (c:=body Tryz.f56) (by kernel_rfl) (zh (l:=[lp (body Tryz.f56) 0]) (by kernel_rfl) ⟨zB2,trivial⟩) (sg:=⟨[.pure],[]⟩) (A:=zzf) (res:=zvy) (W:=fun x=>zs8 x.1) (z:=default)
abbrev ttTref29Literals0:=List Value×ByteArray×Int×Unit
def zo7 (l:List Value) (s:ByteArray) (i:Int):Wy ttTref29Literals0 (Unit) (ByteArray):=.i (decide (i<Int.ofNat l.length)) (.i (decide (i>0)) (.i (decide (s.size+(ByteArray.mk #[(44:UInt8),(32:UInt8)]).size≤9223372036854775807)) (.i (decide (0≤i)&&decide (i<Int.ofNat l.length)) (.bn (ziv (l.getD i.toNat default)) fun r0=>.i (decide ((s++ByteArray.mk #[(44:UInt8),(32:UInt8)]).size+r0.size≤9223372036854775807)) (.h (l,(s++ByteArray.mk #[(44:UInt8),(32:UInt8)]++r0),(IntKind.i64.wrap (i+1)),()) ()) .d) .d) .d) (.i (decide (0≤i)&&decide (i<Int.ofNat l.length)) (.bn (ziv (l.getD i.toNat default)) fun r1=>.i (decide (s.size+r1.size≤9223372036854775807)) (.h (l,(s++r1),(IntKind.i64.wrap (i+1)),()) ()) .d) .d)) (.k s)
def zkX (x:ttTref29Literals0) (y:Unit):Wy ttTref29Literals0 (Unit) (ByteArray):=zo7 x.1 x.2.1 x.2.2.1
def zuL (n:Nat) (l:List Value) (s:ByteArray) (i:Int):Bool×ByteArray:=zP (zkX) default n (l,s,i,()) ()
def ztB (r:ByteArray):LTree ty:=.done (.exit 0) [.lit (.string r)] []
def zuO:LL ty ttTref29Literals0:=za (lSl 40) (za lStr (za (lInt .i64) zD))
def zu1:BL ty (Unit):=bNil
def zt8 (x:ttTref29Literals0) (y:Unit):Nat:=(x.1.length+x.2.1.size+Int.toNat x.2.2.1+1)
def zuM:Cx ty:=mkCx base 23 [(56,zpa)] [] [(3,[(0,.keep),(3,.keep),(4,.keep)])] [(3,1,[(3,.keep)])] [(3,spW zuO zu1 (zkX) default ztB zt8)] []
theorem zBp:zW zuM (lp (body Tryz.f57) 0):=zK (id:=3) (V:=zuO) (B:=zu1) (W:=zkX) (z:=default) (tr:=ztB) (m:=zt8)
def zqb (l:List Value):Wy0 (ByteArray):=.bn (zuL (l.length+(ByteArray.mk #[]).size+Int.toNat 0+1) l (ByteArray.mk #[]) 0) fun r4=>.k r4
def zld (l:List Value):Bool×ByteArray:=(zqb l).fin default
def zt1 (r:ByteArray):ARes ty:=⟨[.pure (.lit (.string r))],[]⟩
def zwe:AL base (List Value×Unit):=zf (zg (vSl 40)) aNil
def zsA:Ab.Spec ty:=zk zwe fun x=>((zld x.1).1,zt1 (zld x.1).2)
theorem zzU:Sound Tryz.prog base 57 zsA:=
 zr (cx':=zuM) zF zm zB (zu ⟨ztw,trivial⟩) Tryz.call57 Tryz.func57 (c:=body Tryz.f57) (by kernel_rfl) (zh (l:=[lp (body Tryz.f57) 0]) (by kernel_rfl) ⟨zBp,trivial⟩) (sg:=⟨[.pure],[]⟩) (A:=zwe) (res:=zt1) (W:=fun x=>zqb x.1) (z:=default)
abbrev ttTref37validColumn0:=Unit×Unit×Int×Unit
abbrev ttTref37validColumn1:=ColumnStats×Value×Unit
def zjg (i:Int) (c:ColumnStats) (last:Value):Wy ttTref37validColumn0 ttTref37validColumn1 (Bool⊕Unit):=.i (decide (i<8)) (.i (decide (0≤i)&&decide (i<Int.ofNat c.Bounds.length)) (.bn (zjv (c.Bounds.getD i.toNat default)) fun r1=>.i (!r1) (.k (.inl false)) (.i ((c.Bounds.getD i.toNat default).Kind != c.Min.Kind) (.k (.inl false)) (.bn (zhx last (c.Bounds.getD i.toNat default)) fun r0=>.i (decide (r0>0)) (.k (.inl false)) (.h ((),(),(IntKind.i64.wrap (i+1)),()) (c,(c.Bounds.getD i.toNat default),()))))) .d) (.k (.inr ()))
def zjn (x:ttTref37validColumn0) (y:ttTref37validColumn1):Wy ttTref37validColumn0 ttTref37validColumn1 (Bool⊕Unit):=zjg x.2.2.1 y.1 y.2.1
def zr9 (n:Nat) (i:Int) (c:ColumnStats) (last:Value):Bool×(Bool⊕Unit):=zP (zjn) (.inl default) n ((),(),i,()) (c,last,())
def zq2 (r:Bool⊕Unit):LTree ty:=.ite (isL r) (.done .ret [.lit (.bool (getL r))] []) (.done (.exit 0) [] [])
def zrK:LL ty ttTref37validColumn0:=za (zbW 452 0) (za (zbW 453 0) (za (lInt .i64) zD))
def zry:BL ty ttTref37validColumn1:=bBox (zdP (fun x=>(⟨x.1,⟨x.2.1,x.2.2.1,x.2.2.2.1⟩,⟨x.2.2.2.2.1,x.2.2.2.2.2.1,x.2.2.2.2.2.2.1⟩,x.2.2.2.2.2.2.2.1⟩:ColumnStats)) (fun x=>(x.Distinct,x.Min.Kind,x.Min.Int,x.Min.Text,x.Max.Kind,x.Max.Int,x.Max.Text,x.Bounds,())) (fun _=>rfl) (za (lInt .i64) (za (lInt .i64) (za (lInt .i64) (za lStr (za (lInt .i64) (za (lInt .i64) (za lStr (za (lSl 40) zD))))))))) false (bBox (zdP (fun x=>(⟨x.1,x.2.1,x.2.2.1⟩:Value)) (fun x=>(x.Kind,x.Int,x.Text,())) (fun _=>rfl) (za (lInt .i64) (za (lInt .i64) (za lStr zD)))) false (bNil))
def zq1 (x:ttTref37validColumn0) (y:ttTref37validColumn1):Nat:=(Int.toNat x.2.2.1+y.1.Bounds.length+1)
def zrT:Cx ty:=mkCx base 113 [(16,zof),(80,zqc)] [] [(7,[(2,.keep),(5,.keep),(6,.keep)])] [(7,1,[]),(7,0,[(4,.keep)])] [(7,spW zrK zry (zjn) (.inl default) zq2 zq1)] []
theorem zyb:zW zrT (lp (body Tryz.f58) 0):=zK (id:=7) (V:=zrK) (B:=zry) (W:=zjn) (z:=.inl default) (tr:=zq2) (m:=zq1)
def znc (c:ColumnStats) (rows:Int):Wy0 (Bool):=.i (rows==0) (.i (c.Distinct==0) (.i (c.Min.Kind==0&&(c.Min.Int==0&&(c.Min.Text.toList==(ByteArray.mk #[]).toList&&true))) (.i (c.Max.Kind==0&&(c.Max.Int==0&&(c.Max.Text.toList==(ByteArray.mk #[]).toList&&true))) (.k (Int.ofNat c.Bounds.length==0)) (.k false)) (.k false)) (.k false)) (.i (decide (c.Distinct<1)) (.k false) (.i (decide (c.Distinct>rows)) (.k false) (.bn (zjv c.Min) fun r7=>.i (!r7) (.k false) (.bn (zjv c.Max) fun r6=>.i (!r6) (.k false) (.i (c.Min.Kind != c.Max.Kind) (.k false) (.bn (zhx c.Min c.Max) fun r5=>.i (decide (r5>0)) (.k false) (.i (Int.ofNat c.Bounds.length != 8) (.k false) (.i (decide ((0:Int)≤(7:Int))&&decide (7<Int.ofNat c.Bounds.length)) (.i (!((c.Bounds.getD (Int.toNat 7) default).Kind==c.Max.Kind&&((c.Bounds.getD (Int.toNat 7) default).Int==c.Max.Int&&((c.Bounds.getD (Int.toNat 7) default).Text.toList==c.Max.Text.toList&&true)))) (.k false) (.bn (zr9 (Int.toNat 0+c.Bounds.length+1) 0 c c.Min) fun r4=>.i (isL r4) (.k (getL r4)) (.k true))) .d))))))))
def zi9 (c:ColumnStats) (rows:Int):Bool×Bool:=(znc c rows).fin default
def zqo (r:Bool):ARes ty:=⟨[.pure (.lit (.bool r))],[]⟩
def zsx:AL base (ColumnStats×Int×Unit):=zf (zg (vAgg 43)) (zf (zg (vInt .i64)) aNil)
def zpZ:Ab.Spec ty:=zk zsx fun x=>((zi9 x.1 x.2.1).1,zqo (zi9 x.1 x.2.1).2)
theorem zwH:Sound Tryz.prog base 58 zpZ:=
 zr (cx':=zrT) zF zm zB (zu ⟨zsp,zuN,trivial⟩) Tryz.call58 Tryz.func58 (c:=body Tryz.f58) (by kernel_rfl) (zh (l:=[lp (body Tryz.f58) 0]) (by kernel_rfl) ⟨zyb,trivial⟩) (sg:=⟨[.pure],[]⟩) (A:=zsx) (res:=zqo) (W:=fun x=>znc x.1 x.2.1) (z:=default)
abbrev ttTref37Valid0:=Unit×Int×Unit
def zlb (i:Int) (s:Stats):Wy ttTref37Valid0 (Stats×Unit) (Bool⊕Unit):=.i (decide (i<Int.ofNat s.Columns.length)) (.i (decide (0≤i)&&decide (i<Int.ofNat s.Columns.length)) (.bn (zi9 (s.Columns.getD i.toNat default) s.Rows) fun r0=>.i (!r0) (.k (.inl false)) (.h ((),(IntKind.i64.wrap (i+1)),()) (s,()))) .d) (.k (.inr ()))
def zov (x:ttTref37Valid0) (y:Stats×Unit):Wy ttTref37Valid0 (Stats×Unit) (Bool⊕Unit):=zlb x.2.1 y.1
def zy7 (n:Nat) (i:Int) (s:Stats):Bool×(Bool⊕Unit):=zP (zov) (.inl default) n ((),i,()) (s,())
def zxh (r:Bool⊕Unit):LTree ty:=.ite (isL r) (.done .ret [.lit (.bool (getL r))] []) (.done (.exit 0) [] [])
def zyH:LL ty ttTref37Valid0:=za (zbW 136 0) (za (lInt .i64) zD)
def zy9:BL ty (Stats×Unit):=bBox (zdP (fun x=>(⟨x.1,x.2.1,x.2.2.1⟩:Stats)) (fun x=>(x.Table,x.Rows,x.Columns,())) (fun _=>rfl) (za (lInt .i64) (za (lInt .i64) (za (lSl 43) zD)))) false (bNil)
def zwZ (x:ttTref37Valid0) (y:Stats×Unit):Nat:=(Int.toNat x.2.1+y.1.Columns.length+1)
def zyg:Cx ty:=mkCx base 34 [(58,zpZ)] [] [(4,[(1,.keep),(3,.keep)])] [(4,1,[]),(4,0,[(2,.keep)])] [(4,spW zyH zy9 (zov) (.inl default) zxh zwZ)] []
theorem zDi:zW zyg (lp (body Tryz.f26) 0):=zK (id:=4) (V:=zyH) (B:=zy9) (W:=zov) (z:=.inl default) (tr:=zxh) (m:=zwZ)
def zuD (s:Stats):Wy0 (Bool):=.i (decide (s.Rows<0)) (.k false) (.i (decide (s.Rows>1000000)) (.k false) (.i (decide (Int.ofNat s.Columns.length>16)) (.k false) (.bn (zy7 (Int.toNat 0+s.Columns.length+1) 0 s) fun r2=>.i (isL r2) (.k (getL r2)) (.k true))))
def zm7 (s:Stats):Bool×Bool:=(zuD s).fin default
def zxG (r:Bool):ARes ty:=⟨[.pure (.lit (.bool r))],[]⟩
def zAp:AL base (Stats×Unit):=zf (zg (vAgg 30)) aNil
def zp9:Ab.Spec ty:=zk zAp fun x=>((zm7 x.1).1,zxG (zm7 x.1).2)
theorem zuU:Sound Tryz.prog base 26 zp9:=
 zr (cx':=zyg) zF zm zB (zu ⟨zwH,trivial⟩) Tryz.call26 Tryz.func26 (c:=body Tryz.f26) (by kernel_rfl) (zh (l:=[lp (body Tryz.f26) 0]) (by kernel_rfl) ⟨zDi,trivial⟩) (sg:=⟨[.pure],[]⟩) (A:=zAp) (res:=zxG) (W:=fun x=>zuD x.1) (z:=default)
abbrev ttTref37Format0:=Unit×Unit×Int×Unit
abbrev ttTref37Format1:=Stats×List ByteArray×Unit
def zrt (i:Int) (s:Stats) (out_:List ByteArray):Wy ttTref37Format0 ttTref37Format1 (List ByteArray):=.i (decide (i<Int.ofNat s.Columns.length)) (.i (decide (0≤i)&&decide (i<Int.ofNat s.Columns.length)) (.bn (zgK i) fun r4=>.i (decide ((ByteArray.mk #[(99:UInt8),(111:UInt8),(108:UInt8),(117:UInt8),(109:UInt8),(110:UInt8),(32:UInt8)]).size+r4.size≤9223372036854775807)) (.i (decide ((ByteArray.mk #[(99:UInt8),(111:UInt8),(108:UInt8),(117:UInt8),(109:UInt8),(110:UInt8),(32:UInt8)]++r4).size+(ByteArray.mk #[(58:UInt8),(32:UInt8)]).size≤9223372036854775807)) (.bn (zgK (s.Columns.getD i.toNat default).Distinct) fun r3=>.i (decide ((ByteArray.mk #[(99:UInt8),(111:UInt8),(108:UInt8),(117:UInt8),(109:UInt8),(110:UInt8),(32:UInt8)]++r4++ByteArray.mk #[(58:UInt8),(32:UInt8)]).size+r3.size≤9223372036854775807)) (.i (decide ((ByteArray.mk #[(99:UInt8),(111:UInt8),(108:UInt8),(117:UInt8),(109:UInt8),(110:UInt8),(32:UInt8)]++r4++ByteArray.mk #[(58:UInt8),(32:UInt8)]++r3).size+(ByteArray.mk #[(32:UInt8),(100:UInt8),(105:UInt8),(115:UInt8),(116:UInt8),(105:UInt8),(110:UInt8),(99:UInt8),(116:UInt8)]).size≤9223372036854775807)) (.i (decide (s.Rows>0)) (.i (decide ((ByteArray.mk #[(99:UInt8),(111:UInt8),(108:UInt8),(117:UInt8),(109:UInt8),(110:UInt8),(32:UInt8)]++r4++ByteArray.mk #[(58:UInt8),(32:UInt8)]++r3++ByteArray.mk #[(32:UInt8),(100:UInt8),(105:UInt8),(115:UInt8),(116:UInt8),(105:UInt8),(110:UInt8),(99:UInt8),(116:UInt8)]).size+(ByteArray.mk #[(44:UInt8),(32:UInt8)]).size≤9223372036854775807)) (.bn (ziv (s.Columns.getD i.toNat default).Min) fun r2=>.i (decide ((ByteArray.mk #[(99:UInt8),(111:UInt8),(108:UInt8),(117:UInt8),(109:UInt8),(110:UInt8),(32:UInt8)]++r4++ByteArray.mk #[(58:UInt8),(32:UInt8)]++r3++ByteArray.mk #[(32:UInt8),(100:UInt8),(105:UInt8),(115:UInt8),(116:UInt8),(105:UInt8),(110:UInt8),(99:UInt8),(116:UInt8)]++ByteArray.mk #[(44:UInt8),(32:UInt8)]).size+r2.size≤9223372036854775807)) (.i (decide ((ByteArray.mk #[(99:UInt8),(111:UInt8),(108:UInt8),(117:UInt8),(109:UInt8),(110:UInt8),(32:UInt8)]++r4++ByteArray.mk #[(58:UInt8),(32:UInt8)]++r3++ByteArray.mk #[(32:UInt8),(100:UInt8),(105:UInt8),(115:UInt8),(116:UInt8),(105:UInt8),(110:UInt8),(99:UInt8),(116:UInt8)]++ByteArray.mk #[(44:UInt8),(32:UInt8)]++r2).size+(ByteArray.mk #[(32:UInt8),(116:UInt8),(111:UInt8),(32:UInt8)]).size≤9223372036854775807)) (.bn (ziv (s.Columns.getD i.toNat default).Max) fun r1=>.i (decide ((ByteArray.mk #[(99:UInt8),(111:UInt8),(108:UInt8),(117:UInt8),(109:UInt8),(110:UInt8),(32:UInt8)]++r4++ByteArray.mk #[(58:UInt8),(32:UInt8)]++r3++ByteArray.mk #[(32:UInt8),(100:UInt8),(105:UInt8),(115:UInt8),(116:UInt8),(105:UInt8),(110:UInt8),(99:UInt8),(116:UInt8)]++ByteArray.mk #[(44:UInt8),(32:UInt8)]++r2++ByteArray.mk #[(32:UInt8),(116:UInt8),(111:UInt8),(32:UInt8)]).size+r1.size≤9223372036854775807)) (.i (decide ((ByteArray.mk #[(99:UInt8),(111:UInt8),(108:UInt8),(117:UInt8),(109:UInt8),(110:UInt8),(32:UInt8)]++r4++ByteArray.mk #[(58:UInt8),(32:UInt8)]++r3++ByteArray.mk #[(32:UInt8),(100:UInt8),(105:UInt8),(115:UInt8),(116:UInt8),(105:UInt8),(110:UInt8),(99:UInt8),(116:UInt8)]++ByteArray.mk #[(44:UInt8),(32:UInt8)]++r2++ByteArray.mk #[(32:UInt8),(116:UInt8),(111:UInt8),(32:UInt8)]++r1).size+(ByteArray.mk #[(44:UInt8),(32:UInt8),(98:UInt8),(111:UInt8),(117:UInt8),(110:UInt8),(100:UInt8),(97:UInt8),(114:UInt8),(105:UInt8),(101:UInt8),(115:UInt8),(32:UInt8)]).size≤9223372036854775807)) (.bn (zld (s.Columns.getD i.toNat default).Bounds) fun r0=>.i (decide ((ByteArray.mk #[(99:UInt8),(111:UInt8),(108:UInt8),(117:UInt8),(109:UInt8),(110:UInt8),(32:UInt8)]++r4++ByteArray.mk #[(58:UInt8),(32:UInt8)]++r3++ByteArray.mk #[(32:UInt8),(100:UInt8),(105:UInt8),(115:UInt8),(116:UInt8),(105:UInt8),(110:UInt8),(99:UInt8),(116:UInt8)]++ByteArray.mk #[(44:UInt8),(32:UInt8)]++r2++ByteArray.mk #[(32:UInt8),(116:UInt8),(111:UInt8),(32:UInt8)]++r1++ByteArray.mk #[(44:UInt8),(32:UInt8),(98:UInt8),(111:UInt8),(117:UInt8),(110:UInt8),(100:UInt8),(97:UInt8),(114:UInt8),(105:UInt8),(101:UInt8),(115:UInt8),(32:UInt8)]).size+r0.size≤9223372036854775807)) (.i (decide ((out_.length+[ByteArray.mk #[(99:UInt8),(111:UInt8),(108:UInt8),(117:UInt8),(109:UInt8),(110:UInt8),(32:UInt8)]++r4++ByteArray.mk #[(58:UInt8),(32:UInt8)]++r3++ByteArray.mk #[(32:UInt8),(100:UInt8),(105:UInt8),(115:UInt8),(116:UInt8),(105:UInt8),(110:UInt8),(99:UInt8),(116:UInt8)]++ByteArray.mk #[(44:UInt8),(32:UInt8)]++r2++ByteArray.mk #[(32:UInt8),(116:UInt8),(111:UInt8),(32:UInt8)]++r1++ByteArray.mk #[(44:UInt8),(32:UInt8),(98:UInt8),(111:UInt8),(117:UInt8),(110:UInt8),(100:UInt8),(97:UInt8),(114:UInt8),(105:UInt8),(101:UInt8),(115:UInt8),(32:UInt8)]++r0].length)*16≤reach)) (.h ((),(),(IntKind.i64.wrap (i+1)),()) (s,(out_++[ByteArray.mk #[(99:UInt8),(111:UInt8),(108:UInt8),(117:UInt8),(109:UInt8),(110:UInt8),(32:UInt8)]++r4++ByteArray.mk #[(58:UInt8),(32:UInt8)]++r3++ByteArray.mk #[(32:UInt8),(100:UInt8),(105:UInt8),(115:UInt8),(116:UInt8),(105:UInt8),(110:UInt8),(99:UInt8),(116:UInt8)]++ByteArray.mk #[(44:UInt8),(32:UInt8)]++r2++ByteArray.mk #[(32:UInt8),(116:UInt8),(111:UInt8),(32:UInt8)]++r1++ByteArray.mk #[(44:UInt8),(32:UInt8),(98:UInt8),(111:UInt8),(117:UInt8),(110:UInt8),(100:UInt8),(97:UInt8),(114:UInt8),(105:UInt8),(101:UInt8),(115:UInt8),(32:UInt8)]++r0]),())) .d) .d) .d) .d) .d) .d) .d) (.i (decide ((out_.length+[ByteArray.mk #[(99:UInt8),(111:UInt8),(108:UInt8),(117:UInt8),(109:UInt8),(110:UInt8),(32:UInt8)]++r4++ByteArray.mk #[(58:UInt8),(32:UInt8)]++r3++ByteArray.mk #[(32:UInt8),(100:UInt8),(105:UInt8),(115:UInt8),(116:UInt8),(105:UInt8),(110:UInt8),(99:UInt8),(116:UInt8)]].length)*16≤reach)) (.h ((),(),(IntKind.i64.wrap (i+1)),()) (s,(out_++[ByteArray.mk #[(99:UInt8),(111:UInt8),(108:UInt8),(117:UInt8),(109:UInt8),(110:UInt8),(32:UInt8)]++r4++ByteArray.mk #[(58:UInt8),(32:UInt8)]++r3++ByteArray.mk #[(32:UInt8),(100:UInt8),(105:UInt8),(115:UInt8),(116:UInt8),(105:UInt8),(110:UInt8),(99:UInt8),(116:UInt8)]]),())) .d)) .d) .d) .d) .d) .d) (.k out_)
def znl (x:ttTref37Format0) (y:ttTref37Format1):Wy ttTref37Format0 ttTref37Format1 (List ByteArray):=zrt x.2.2.1 y.1 y.2.1
def zrY (n:Nat) (i:Int) (s:Stats) (out_:List ByteArray):Bool×List ByteArray:=zP (znl) default n ((),(),i,()) (s,out_,())
def zwk (r:List ByteArray):LTree ty:=.done (.exit 0) [.own 264] [.arr 9 r false]
def zw2:LL ty ttTref37Format0:=za (zbW 264 0) (za (lOwn 265) (za (lInt .i64) zD))
def zxu:BL ty ttTref37Format1:=bBox (zdP (fun x=>(⟨x.1,x.2.1,x.2.2.1⟩:Stats)) (fun x=>(x.Table,x.Rows,x.Columns,())) (fun _=>rfl) (za (lInt .i64) (za (lInt .i64) (za (lSl 43) zD)))) false (bArr 9 false (bNil))
def zwD (x:ttTref37Format0) (y:ttTref37Format1):Nat:=(Int.toNat x.2.2.1+y.1.Columns.length+y.2.1.length+1)
def zxH:Cx ty:=mkCx base 66 [(26,zp9),(55,zn2),(56,zpa),(57,zsA)] [] [(5,[(1,.keep),(3,.keep),(4,.keep)])] [(5,1,[(3,.keep)])] [(5,spW zw2 zxu (znl) default zwk zwD)] []
theorem zCL:zW zxH (lp (body Tryz.f25) 0):=zK (id:=5) (V:=zw2) (B:=zxu) (W:=znl) (z:=default) (tr:=zwk) (m:=zwD)
def zs9 (s:Stats):Wy0 (List ByteArray):=.bn (zm7 s) fun r13=>.i (!r13) (.k []) (.bn (zgK s.Table) fun r12=>.i (decide ((ByteArray.mk #[(116:UInt8),(97:UInt8),(98:UInt8),(108:UInt8),(101:UInt8),(32:UInt8),(116:UInt8)]).size+r12.size≤9223372036854775807)) (.i (decide ((ByteArray.mk #[(116:UInt8),(97:UInt8),(98:UInt8),(108:UInt8),(101:UInt8),(32:UInt8),(116:UInt8)]++r12).size+(ByteArray.mk #[(58:UInt8),(32:UInt8)]).size≤9223372036854775807)) (.bn (zgK s.Rows) fun r11=>.i (decide ((ByteArray.mk #[(116:UInt8),(97:UInt8),(98:UInt8),(108:UInt8),(101:UInt8),(32:UInt8),(116:UInt8)]++r12++ByteArray.mk #[(58:UInt8),(32:UInt8)]).size+r11.size≤9223372036854775807)) (.i (decide ((ByteArray.mk #[(116:UInt8),(97:UInt8),(98:UInt8),(108:UInt8),(101:UInt8),(32:UInt8),(116:UInt8)]++r12++ByteArray.mk #[(58:UInt8),(32:UInt8)]++r11).size+(ByteArray.mk #[(32:UInt8),(114:UInt8),(111:UInt8),(119:UInt8),(115:UInt8)]).size≤9223372036854775807)) (.bn (zrY (Int.toNat 0+s.Columns.length+[ByteArray.mk #[(116:UInt8),(97:UInt8),(98:UInt8),(108:UInt8),(101:UInt8),(32:UInt8),(116:UInt8)]++r12++ByteArray.mk #[(58:UInt8),(32:UInt8)]++r11++ByteArray.mk #[(32:UInt8),(114:UInt8),(111:UInt8),(119:UInt8),(115:UInt8)]].length+1) 0 s [ByteArray.mk #[(116:UInt8),(97:UInt8),(98:UInt8),(108:UInt8),(101:UInt8),(32:UInt8),(116:UInt8)]++r12++ByteArray.mk #[(58:UInt8),(32:UInt8)]++r11++ByteArray.mk #[(32:UInt8),(114:UInt8),(111:UInt8),(119:UInt8),(115:UInt8)]]) fun r10=>.k r10) .d) .d) .d) .d)
def zn9 (s:Stats):Bool×List ByteArray:=(zs9 s).fin default
def zvQ (r:List ByteArray):ARes ty:=⟨[.own 9 r],[]⟩
def zyo:AL base (Stats×Unit):=zf (zg (vAgg 30)) aNil
def zu9:Ab.Spec ty:=zk zyo fun x=>((zn9 x.1).1,zvQ (zn9 x.1).2)
theorem zA3:Sound Tryz.prog base 25 zu9:=
 zr (cx':=zxH) zF zm zB (zu ⟨zuU,zsN,ztw,zzU,trivial⟩) Tryz.call25 Tryz.func25 (c:=body Tryz.f25) (by kernel_rfl) (zh (l:=[lp (body Tryz.f25) 0]) (by kernel_rfl) ⟨zCL,trivial⟩) (sg:=⟨[.own 9],[]⟩) (A:=zyo) (res:=zvQ) (W:=fun x=>zs9 x.1) (z:=default)
end Go.Proofs.YtddkaehkimnklaaGreatDoor
end
