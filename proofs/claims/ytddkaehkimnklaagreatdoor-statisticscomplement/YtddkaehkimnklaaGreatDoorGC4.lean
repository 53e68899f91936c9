/- Texts of this claim, joined (the program, its functions in plain words, and what they compute). -/
import Derived.WalkKit
import Derived.WalkSpells
import Derived.Test.YtddkaehkimnklaaGreatDoorGC1
import Derived.Test.YtddkaehkimnklaaGreatDoorGA3
import Derived.Test.YtddkaehkimnklaaGreatDoorGC3
import Derived.Test.YtddkaehkimnklaaGreatDoorGB1
import Derived.Test.YtddkaehkimnklaaGreatDoorGC2
set_option autoImplicit false
set_option linter.unusedVariables false
set_option linter.unusedSectionVars false
set_option linter.unusedSimpArgs false
set_option maxRecDepth 1000000
set_option maxHeartbeats 0
noncomputable section
namespace Go.Proofs.YtddkaehkimnklaaGreatDoor
open Go Go.Ab
abbrev ttTslicesIndexFuncLapiRowapiRowno0:=List Row×Unit×Int×Int×Unit
def zmr (s:List Row) (t7:Int) (t8:Int):Wy ttTslicesIndexFuncLapiRowapiRowno0 (Unit) (Int⊕Unit):=.i (decide (t8<t7)) (.i (decide (0≤t8)&&decide (t8<Int.ofNat s.length)) (.i ((ziz (s.getD t8.toNat default)).2) (.k (.inl t8)) (.h (s,(),t7,(IntKind.i64.wrap (t8+1)),()) ())) .d) (.k (.inr ()))
def zeg (x:ttTslicesIndexFuncLapiRowapiRowno0) (y:Unit):Wy ttTslicesIndexFuncLapiRowapiRowno0 (Unit) (Int⊕Unit):=zmr x.1 x.2.2.1 x.2.2.2.1
def zmq (n:Nat) (s:List Row) (t7:Int) (t8:Int):Bool×(Int⊕Unit):=zba (zeg) (.inl default) n (s,(),t7,t8,()) ()
def zhs (r:Int⊕Unit):LTree ty:=.ite (isL r) (.done .ret [.lit (.int .i64 (getL r))] []) (.done (.exit 0) [] [])
def zhz:LL ty ttTslicesIndexFuncLapiRowapiRowno0:=za (lSl 38) (za (lFn 72 (zF)) (za (lInt .i64) (za (lInt .i64) zF)))
def zhx:BL ty (Unit):=bNil
def zhg (x:ttTslicesIndexFuncLapiRowapiRowno0) (y:Unit):Nat:=(x.1.length+Int.toNat x.2.2.1+Int.toNat x.2.2.2.1+1000)
def zhA:Cx ty:=mkCx base 19 [(72,zgL)] [] [(2,[(0,.keep),(1,.keep),(7,.keep),(8,.keep)])] [(2,1,[]),(2,0,[(4,.keep)])] [(2,spW zhz zhx (zeg) (.inl default) zhs zhg)] []
theorem zl3:z8 zhA (lp (body Tryz.f112) 0):=zQ (id:=2) (V:=zhz) (B:=zhx) (W:=zeg) (z:=.inl default) (tr:=zhs) (m:=zhg)
def zhV (s:List Row):Wy0 (Int):=.bn (zmq (s.length+(Int.ofNat s.length).toNat +Int.toNat 0+1000) s (Int.ofNat s.length) 0) fun r0=>.i (isL r0) (.k (getL r0)) (.k (-1:Int))
def zfq (s:List Row):Bool×Int:=(zhV s).fin default
def zhm (r:Int):ARes ty:=⟨[.pure (.lit (.int .i64 r))],[]⟩
def zhT:AL base (List Row×Unit×Unit):=zf (zg (vSl 38)) (zf (zg (vFn 72 vNil)) aNil)
def zhb:Ab.Spec ty:=zn zhT fun x=>((zfq x.1).1,zhm (zfq x.1).2)
theorem zk5:Sound Tryz.prog base 112 zhb:=
 zy (cx':=zhA) zG zr zC (zA ⟨ziu,trivial⟩) Tryz.call112 Tryz.func112 (c:=body Tryz.f112) (by kernel_rfl) (zi (l:=[lp (body Tryz.f112) 0]) (by kernel_rfl) ⟨zl3,trivial⟩) (sg:=⟨[.pure],[]⟩) (A:=zhT) (res:=zhm) (W:=fun x=>zhV x.1) (z:=default)
abbrev ttTslicesDeleteFuncLapiRowapiRow0:=Unit×Unit×Int×Int×Unit
abbrev ttTslicesDeleteFuncLapiRowapiRow1:=List Row×Unit
abbrev ttTslicesDeleteFuncLapiRowapiRow2:=Int×List Row
def zm5 (i:Int) (j:Int) (s:List Row):Wy ttTslicesDeleteFuncLapiRowapiRow0 ttTslicesDeleteFuncLapiRowapiRow1 ttTslicesDeleteFuncLapiRowapiRow2:=.i (decide (j<Int.ofNat s.length)) (.i (decide (0≤j)&&decide (j<Int.ofNat s.length)) (.i (!(ziz (s.getD j.toNat default)).2) (.i (decide (0≤i)&&decide (i<Int.ofNat s.length)) (.i (decide (i.toNat<s.length)) (.h ((),(),(IntKind.i64.wrap (i+1)),(IntKind.i64.wrap (j+1)),()) ((s.set i.toNat (s.getD j.toNat default)),())) .d) .d) (.h ((),(),i,(IntKind.i64.wrap (j+1)),()) (s,()))) .d) (.k (i,s))
def zeX (x:ttTslicesDeleteFuncLapiRowapiRow0) (y:ttTslicesDeleteFuncLapiRowapiRow1):Wy ttTslicesDeleteFuncLapiRowapiRow0 ttTslicesDeleteFuncLapiRowapiRow1 ttTslicesDeleteFuncLapiRowapiRow2:=zm5 x.2.2.1 x.2.2.2.1 y.1
def zm7 (n:Nat) (i:Int) (j:Int) (s:List Row):Bool×ttTslicesDeleteFuncLapiRowapiRow2:=zba (zeX) default n ((),(),i,j,()) (s,())
def zhR (r:ttTslicesDeleteFuncLapiRowapiRow2):LTree ty:=.done (.exit 0) [.own 168,.lit (.int .i64 r.1)] [.arr 38 r.2 false]
def zh5:LL ty ttTslicesDeleteFuncLapiRowapiRow0:=za (lOwn 168) (za (lFn 72 (zF)) (za (lInt .i64) (za (lInt .i64) zF)))
def zh6:BL ty ttTslicesDeleteFuncLapiRowapiRow1:=bArr 38 false (bNil)
def zhY (x:ttTslicesDeleteFuncLapiRowapiRow0) (y:ttTslicesDeleteFuncLapiRowapiRow1):Nat:=(Int.toNat x.2.2.1+Int.toNat x.2.2.2.1+y.1.length+1000)
def zh7:Cx ty:=mkCx base 42 [(72,zgL),(112,zhb)] [] [(5,[(0,.keep),(1,.keep),(5,.keep),(6,.keep)])] [(5,1,[(0,.keep),(5,.keep)])] [(5,spW zh5 zh6 (zeX) default zhR zhY)] []
theorem zmx:z8 zh7 (lp (body Tryz.f70) 0):=zQ (id:=5) (V:=zh5) (B:=zh6) (W:=zeX) (z:=default) (tr:=zhR) (m:=zhY)
def ziq (s:List Row):Wy0 (List Row):=.bn (zfq s) fun r1=>.i (r1==(-1:Int)) (.k s) (.bn (zm7 (r1.toNat +(IntKind.i64.wrap (r1+1)).toNat +s.length+1000) r1 (IntKind.i64.wrap (r1+1)) s) fun r0=>.i (decide (0≤r0.1)&&decide (r0.1≤Int.ofNat r0.2.length)&&decide (Int.ofNat r0.2.length≤Int.ofNat r0.2.length)) (.i (decide (r0.1.toNat +((Int.ofNat r0.2.length).toNat - r0.1.toNat)≤r0.2.length)) (.i (decide ((0:Int)≤(0:Int))&&decide (0≤r0.1)&&decide (r0.1≤Int.ofNat (List.take r0.1.toNat r0.2++List.replicate ((Int.ofNat r0.2.length).toNat - r0.1.toNat) (Row.mk [] [])++List.drop (r0.1.toNat +((Int.ofNat r0.2.length).toNat - r0.1.toNat)) r0.2).length)) (.k (List.take (r0.1.toNat - Int.toNat 0) (List.take r0.1.toNat r0.2++List.replicate ((Int.ofNat r0.2.length).toNat - r0.1.toNat) (Row.mk [] [])++List.drop (r0.1.toNat +((Int.ofNat r0.2.length).toNat - r0.1.toNat)) r0.2))) .d) .d) .d)
def zf8 (s:List Row):Bool×List Row:=(ziq s).fin default
def zhX (r:List Row):ARes ty:=⟨[.own 38 r],[none]⟩
def ziv:AL base (List Row×Unit×Unit):=zf (aOwn 38) (zf (zg (vFn 72 vNil)) aNil)
def zhB:Ab.Spec ty:=zn ziv fun x=>((zf8 x.1).1,zhX (zf8 x.1).2)
theorem zlS:Sound Tryz.prog base 70 zhB:=
 zy (cx':=zh7) zG zr zC (zA ⟨ziu,zk5,trivial⟩) Tryz.call70 Tryz.func70 (c:=body Tryz.f70) (by kernel_rfl) (zi (l:=[lp (body Tryz.f70) 0]) (by kernel_rfl) ⟨zmx,trivial⟩) (sg:=⟨[.own 38],[false]⟩) (A:=ziv) (res:=zhX) (W:=fun x=>ziq x.1) (z:=default)
def zfN (x:List Row) (a b:Int):Bool×List Row:=zCi zbz x a b
def slices_insertionSortCmpFunc_api_Row_spec:Ab.Spec ty:=zn (cx:=base) (zf (aOwn 38) (zf (zg (vInt .i64)) (zf (zg (vInt .i64)) (zf (zg (vFn 74 vNil)) aNil)))) fun x=>((zfN x.1 x.2.1 x.2.2.1).1,⟨[],[some ⟨38,(zfN x.1 x.2.1 x.2.2.1).2⟩]⟩)
theorem zmg (c:Unit) (x y:Row) (h:(zbz x y).1=true):zk3 ((AV.agg (base.enc 38 x)::AV.agg (base.enc 38 y)::(vNil:VL base Unit).enc c).map Arg.pure)=some (true,⟨[.pure (.lit (.int .i64 (zbz x y).2))],[]⟩):=by
 rw [← h]; kernel_rfl
theorem zlp:Sound Tryz.prog base 159 slices_insertionSortCmpFunc_api_Row_spec:=by
 letI:DecidableEq (ty 38):=inferInstanceAs (DecidableEq Row)
 exact zFa (T:=38) zr rfl Go.Proofs.Tryz.insR Tryz.isAgg38 (by unfold szOf; exact Tryz.sizeOf38) Tryz.call159 zoX vNil (fun c=>zbz) zmg
open Go.Proofs Go.RowKit
def zb4 (x:List Row) (m:Int):Bool×List Row:=(decide (SortOK zbz x)&&(decide (m=x.length)&&decide (m<20)),zkl zbz x)
def zjh:Ab.Spec ty:=zn (cx:=base) (zf (aOwn 38) (zf (zg (vInt .i64)) (zf (zg (vFn 74 vNil)) aNil))) fun x=>((zb4 x.1 x.2.1).1,⟨[],[some ⟨38,(zb4 x.1 x.2.1).2⟩]⟩)
set_option maxHeartbeats 1000000 in
theorem zoi:Sound Tryz.prog base 113 zjh where
 enters:=Tryz.call113
 calls:=fun avs r hsp w F vs hF ha hsep=>by
  unfold zjh zn at hsp
  split at hsp
  ·rename_i x hx
   simp only [Option.some.injEq,Prod.mk.injEq] at hsp
   obtain ⟨hpre,rfl⟩:=hsp
   have hk:=(zf (aOwn 38) (zf (zg (vInt .i64)) (zf (zg (vFn 74 vNil)) aNil)):AL base _).kind vs avs x hx
   have ha':=(zf (aOwn 38) (zf (zg (vInt .i64)) (zf (zg (vFn 74 vNil)) aNil)):AL base _).ok Tryz.prog zr F w vs avs x hx ha
   rw [hk] at hsep ⊢
   clear hk hx ha
   obtain ⟨l0,m,c,u0⟩:=x
   obtain ⟨l,rfl⟩:∃ l:List Row,l=l0:=⟨l0,rfl⟩
   obtain ⟨v,vs',rfl,hv,hv'⟩:=ha'.inv
   obtain ⟨mv,vs1,rfl,hm,hv1⟩:=hv'.inv
   obtain ⟨fv,vs'',rfl,hfv,h0⟩:=hv1.inv
   obtain rfl:=h0.nil_left.1
   have hm:Rep base F w mv (.lit (.int .i64 m)):=hm
   obtain rfl:mv=.int .i64 m:=by cases hm; rfl
   have hsl:∃ p cap,v=.slice p l.length cap:=by
    obtain ⟨⟨xs,hown,_⟩,_⟩:=(show zb8 base F w v 38 l∧∀ b,zK v=some b→¬ F b from hv)
    rcases hown.2 with ⟨h1,h2⟩ | ⟨g0,cap,cur,h1,_⟩
    ·exact ⟨none,0,by rw [h1,show l.length=0 from h2]⟩
    ·exact ⟨_,cap,h1⟩
   have hpre:(decide (SortOK (α:=Row) zbz l)&&(decide (m=l.length)&&decide (m<20)))=true:=hpre
   simp only [Bool.and_eq_true,decide_eq_true_eq] at hpre
   obtain ⟨hok,rfl,h20⟩:=hpre
   have hpp:(zfN l 0 (l.length:Int)).1=true:=by
    show (decide (SortOK (α:=Row) zbz l)&&(decide ((0:Int)=0)&&decide ((l.length:Int)=l.length)))=true
    simp only [Bool.and_eq_true,decide_eq_true_eq]
    exact ⟨hok,trivial,trivial⟩
   have hp:=(zlp).calls [.own 38 l,.pure (.lit (.int .i64 0)),.pure (.lit (.int .i64 (l.length:Int))),.pure (.fn 74 [])] ⟨[],[some ⟨38,(zb4 l (l.length:Int)).2⟩]⟩
    (by rw [← hpp]; kernel_rfl) w F [v,.int .i64 0,.int .i64 (l.length:Int),fv] hF (.cons hv (.cons (Rep.lit _) (.cons (Rep.lit _) (.cons hfv .nil)))) hsep
   replace hp:Calls Tryz.prog 159 #[v,.int .i64 0,.int .i64 (l.length:Int),fv] w fun e w'=>∃ u,e=.returned u∧Post base F w [v] ⟨[],[some ⟨38,(zb4 l (l.length:Int)).2⟩]⟩ u w':=hp
   show Calls Tryz.prog 113 #[v,.int .i64 (l.length:Int),fv] w fun e w'=>∃ u,e=.returned u∧Post base F w [v] ⟨[],[some ⟨38,(zb4 l (l.length:Int)).2⟩]⟩ u w'
   generalize (zb4 l (l.length:Int)).2=res at hp ⊢
   generalize hn:l.length=m at *
   clear hpp hv hfv hsep hok hF hm
   obtain ⟨p,cap,rfl⟩:=hsl
   clear hn
   go_enter Tryz.func113,Tryz.ntmps113
   go_wp2
   refine wp_loop_rounds 1 ?_
   rw [rounds_succ]
   go_wp2_with (go_at_call 159; refine hp.mono ?_; rintro e w' ⟨u,rfl,hpost⟩; obtain rfl:=hpost.unit)
   refine wp_loop_rounds 1 ?_
   rw [rounds_succ]
   go_wp2
   all_goals first | (exfalso; omega) | (go_end0; exact ⟨_,rfl,hpost⟩)
  ·cases hsp
end Go.Proofs.YtddkaehkimnklaaGreatDoor
namespace Go.Proofs.YtddkaehkimnklaaGreatDoor
open Go Go.Ab
open Go.Proofs Go.RowKit
def zbc (x:List Row):Bool×List Row:=(decide (SortOK zbz x)&&decide (x.length<20),zkl zbz x)
def zdn:Ab.Spec ty:=zn (cx:=base) (zf (aOwn 38) (zf (zg (vFn 74 vNil)) aNil)) fun x=>((zbc x.1).1,⟨[],[some ⟨38,(zbc x.1).2⟩]⟩)
set_option maxHeartbeats 1000000 in
theorem zkp:Sound Tryz.prog base 73 zdn where
 enters:=Tryz.call73
 calls:=fun avs r hsp w F vs hF ha hsep=>by
  unfold zdn zn at hsp
  split at hsp
  ·rename_i x hx
   simp only [Option.some.injEq,Prod.mk.injEq] at hsp
   obtain ⟨hpre,rfl⟩:=hsp
   have hk:=(zf (aOwn 38) (zf (zg (vFn 74 vNil)) aNil):AL base _).kind vs avs x hx
   have ha':=(zf (aOwn 38) (zf (zg (vFn 74 vNil)) aNil):AL base _).ok Tryz.prog zr F w vs avs x hx ha
   rw [hk] at hsep ⊢
   clear hk hx ha
   obtain ⟨l0,c,u0⟩:=x
   obtain ⟨l,rfl⟩:∃ l:List Row,l=l0:=⟨l0,rfl⟩
   obtain ⟨v,vs',rfl,hv,hv'⟩:=ha'.inv
   obtain ⟨fv,vs'',rfl,hfv,h0⟩:=hv'.inv
   obtain rfl:=h0.nil_left.1
   have hsl:∃ p cap,v=.slice p l.length cap:=by
    obtain ⟨⟨xs,hown,_⟩,_⟩:=(show zb8 base F w v 38 l∧∀ b,zK v=some b→¬ F b from hv)
    rcases hown.2 with ⟨h1,h2⟩ | ⟨g0,cap,cur,h1,_⟩
    ·exact ⟨none,0,by rw [h1,show l.length=0 from h2]⟩
    ·exact ⟨_,cap,h1⟩
   have hpre:(decide (SortOK (α:=Row) zbz l)&&decide (l.length<20))=true:=hpre
   simp only [Bool.and_eq_true,decide_eq_true_eq] at hpre
   obtain ⟨hok,h20⟩:=hpre
   have hpp:(zb4 l (l.length:Int)).1=true:=by
    show (decide (SortOK (α:=Row) zbz l)&&(decide ((l.length:Int)=l.length)&&decide ((l.length:Int)<20)))=true
    simp only [Bool.and_eq_true,decide_eq_true_eq]
    exact ⟨hok,trivial,by omega⟩
   have hp:=(zoi).calls [.own 38 l,.pure (.lit (.int .i64 (l.length:Int))),.pure (.fn 74 [])] ⟨[],[some ⟨38,(zbc l).2⟩]⟩
    (by rw [← hpp]; kernel_rfl) w F [v,.int .i64 (l.length:Int),fv] hF (.cons hv (.cons (Rep.lit _) (.cons hfv .nil))) hsep
   replace hp:Calls Tryz.prog 113 #[v,.int .i64 (l.length:Int),fv] w fun e w'=>∃ u,e=.returned u∧Post base F w [v] ⟨[],[some ⟨38,(zbc l).2⟩]⟩ u w':=hp
   show Calls Tryz.prog 73 #[v,fv] w fun e w'=>∃ u,e=.returned u∧Post base F w [v] ⟨[],[some ⟨38,(zbc l).2⟩]⟩ u w'
   generalize (zbc l).2=res at hp ⊢
   generalize hn:l.length=m at *
   clear hpp hv hfv hsep hok hF
   obtain ⟨p,cap,rfl⟩:=hsl
   clear hn
   go_enter Tryz.func73,Tryz.ntmps73
   go_wp2_with (go_at_call 113; refine hp.mono ?_; rintro e w' ⟨u,rfl,hpost⟩; obtain rfl:=hpost.unit)
   go_end0
   exact ⟨_,rfl,hpost⟩
  ·cases hsp
end Go.Proofs.YtddkaehkimnklaaGreatDoor
namespace Go.Proofs.YtddkaehkimnklaaGreatDoor
open Go Go.Ab
abbrev ttTrelationNormalize0:=Unit×Unit×List Row×Int×Int×Unit
abbrev ttTrelationNormalize1:=Relation×(Unit×Unit×Unit)×Unit
abbrev ttTrelationNormalize2:=Int⊕Relation
abbrev ttTrelationNormalize3:=Unit×Unit×Unit×Int×Int×Unit
abbrev ttTrelationNormalize4:=(Unit×Unit×Unit)×(Unit×Unit×Unit)×List Row×List Column×List Row×Unit
abbrev ttTrelationNormalize5:=List Column×List Row
def zwp (t19:List Row) (t20:Int) (t21:Int) (r:Relation):Wy ttTrelationNormalize0 ttTrelationNormalize1 ttTrelationNormalize2:=.i (decide (t21<t20)) (.i (decide (0≤t21)&&decide (t21<Int.ofNat t19.length)) (.bn (zs1 r.Columns (t19.getD t21.toNat default).Values) fun r5=>.i (!r5) (.k (.inl 7)) (.bn (zub (t19.getD t21.toNat default).Ann) fun r4=>.i (!r4) (.k (.inl 1)) (.h ((),(),t19,t20,(IntKind.i64.wrap (t21+1)),()) (r,((),(),()),())))) .d) (.k (.inr r))
def zk1 (x:ttTrelationNormalize0) (y:ttTrelationNormalize1):Wy ttTrelationNormalize0 ttTrelationNormalize1 ttTrelationNormalize2:=zwp x.2.2.1 x.2.2.2.1 x.2.2.2.2.1 y.1
def zw9 (n:Nat) (t19:List Row) (t20:Int) (t21:Int) (r:Relation):Bool×ttTrelationNormalize2:=zba (zk1) (.inl default) n ((),(),t19,t20,t21,()) (r,((),(),()),())
def zoC (r:ttTrelationNormalize2):LTree ty:=.ite (isL r) (.done .ret [.ptr 440 0,.lit (.int .i64 (getL r))] [.box ([.lit (.slice none 0 0),.lit (.slice none 0 0)]) false]) (.done (.exit 0) [.ptr 440 0,.ptr 441 0] [.box (base.enc 73 (getR r)) false,.box ([.lit (.slice none 0 0),.lit (.slice none 0 0)]) false])
def zp4:LL ty ttTrelationNormalize0:=za (zcS 440 0) (za (zcS 441 0) (za (lSl 38) (za (lInt .i64) (za (lInt .i64) zF))))
def zpw:BL ty ttTrelationNormalize1:=bBox (zfM (fun x=>(⟨x.1,x.2.1⟩:Relation)) (fun x=>(x.Columns,x.Rows,())) (fun _=>rfl) (za (lSl 67) (za (lSl 38) zF))) false (bBox (za lNil (za lNil zF)) false (bNil))
def zvY (t49:Int) (t50:Int) (t48:List Row) (b3:List Column) (b4:List Row):Wy ttTrelationNormalize3 ttTrelationNormalize4 ttTrelationNormalize5:=.i (decide (t50<t49)) (.i (decide (0≤t50)&&decide (t50<Int.ofNat t48.length)) (.i (Int.ofNat b4.length==0) (.bn (zm1 (t48.getD t50.toNat default) (t48.getD t50.toNat default).Ann) fun r8=>.i (decide ((b4.length+[r8].length)*48≤zdv)) (.h ((),(),(),t49,(IntKind.i64.wrap (t50+1)),()) (((),(),()),((),(),()),t48,b3,(b4++[r8]),())) .d) (.i (decide (0≤IntKind.i64.wrap (Int.ofNat b4.length - 1))&&decide (IntKind.i64.wrap (Int.ofNat b4.length - 1)<Int.ofNat b4.length)) (.bn (zbz (b4.getD (IntKind.i64.wrap (Int.ofNat b4.length - 1)).toNat default) (t48.getD t50.toNat default)) fun r11=>.i (r11 != 0) (.bn (zm1 (t48.getD t50.toNat default) (t48.getD t50.toNat default).Ann) fun r9=>.i (decide ((b4.length+[r9].length)*48≤zdv)) (.h ((),(),(),t49,(IntKind.i64.wrap (t50+1)),()) (((),(),()),((),(),()),t48,b3,(b4++[r9]),())) .d) (.i (decide (0≤IntKind.i64.wrap (Int.ofNat b4.length - 1))&&decide (IntKind.i64.wrap (Int.ofNat b4.length - 1)<Int.ofNat b4.length)) (.bn (zw6 (b4.getD (IntKind.i64.wrap (Int.ofNat b4.length - 1)).toNat default).Ann (t48.getD t50.toNat default).Ann) fun r10=>.i (decide (0≤IntKind.i64.wrap (Int.ofNat b4.length - 1))&&decide (IntKind.i64.wrap (Int.ofNat b4.length - 1)<Int.ofNat b4.length)) (.i (decide ((IntKind.i64.wrap (Int.ofNat b4.length - 1)).toNat<b4.length)) (.h ((),(),(),t49,(IntKind.i64.wrap (t50+1)),()) (((),(),()),((),(),()),t48,b3,(b4.set (IntKind.i64.wrap (Int.ofNat b4.length - 1)).toNat (Row.mk (b4.getD (IntKind.i64.wrap (Int.ofNat b4.length - 1)).toNat default).Values r10.1)),())) .d) .d) .d)) .d)) .d) (.k (b3,b4))
def zku (x:ttTrelationNormalize3) (y:ttTrelationNormalize4):Wy ttTrelationNormalize3 ttTrelationNormalize4 ttTrelationNormalize5:=zvY x.2.2.2.1 x.2.2.2.2.1 y.2.2.1 y.2.2.2.1 y.2.2.2.2.1
def zwf (n:Nat) (t49:Int) (t50:Int) (t48:List Row) (b3:List Column) (b4:List Row):Bool×ttTrelationNormalize5:=zba (zku) default n ((),(),(),t49,t50,()) (((),(),()),((),(),()),t48,b3,b4,())
def zn6 (r:ttTrelationNormalize5):LTree ty:=.done (.exit 2) [.ptr 440 0,.ptr 441 0] [.box ([.lit (.slice none 0 0),.lit (.slice none 0 0)]) false,.box ([.own 442,.own 443]) false,.arr 67 r.1 false,.arr 38 r.2 false]
def zor:LL ty ttTrelationNormalize3:=za (zcS 440 0) (za (zcS 441 0) (za (lOwn 442) (za (lInt .i64) (za (lInt .i64) zF))))
def zoN:BL ty ttTrelationNormalize4:=bBox (za lNil (za lNil zF)) false (bBox (za (lOwn 443) (za (lOwn 444) zF)) false (bArr 38 false (bArr 67 false (bArr 38 false (bNil)))))
def zoM (x:ttTrelationNormalize0) (y:ttTrelationNormalize1):Nat:=(x.2.2.1.length+Int.toNat x.2.2.2.1+Int.toNat x.2.2.2.2.1+y.1.Columns.length+y.1.Rows.length+1000)
def zn5 (x:ttTrelationNormalize3) (y:ttTrelationNormalize4):Nat:=(Int.toNat x.2.2.2.1+Int.toNat x.2.2.2.2.1+y.2.2.1.length+y.2.2.2.1.length+y.2.2.2.2.1.length+1000)
def zld:Cx ty:=mkCx base 110 [(67,zl8),(68,zss),(69,annotation_Valid_spec),(70,zhB),(71,ziX),(72,zgL),(73,zdn),(74,zk3),(75,zhh),(76,zqq),(77,annotation_Add_spec)] [(70,[true,false]),(73,[true,false])] [(4,[(1,.keep),(2,.keep),(19,.keep),(20,.keep),(21,.keep)]),(15,[(2,.keep),(7,.boxOwn [(1,38)]),(48,.keep),(49,.keep),(50,.keep)])] [(4,1,[(1,.keep),(2,.keep)]),(4,0,[(2,.keep),(3,.keep)]),(15,3,[(2,.keep),(7,.keep)]),(15,0,[(2,.keep),(3,.keep)])] [(4,spW zp4 zpw (zk1) (.inl default) zoC zoM),(15,spW zor zoN (zku) default zn6 zn5)] []
theorem zv0:z8 zld (lp (body Tryz.f35) 0):=zQ (id:=4) (V:=zp4) (B:=zpw) (W:=zk1) (z:=.inl default) (tr:=zoC) (m:=zoM)
theorem zu4:z8 zld (lp (body Tryz.f35) 1):=zQ (id:=15) (V:=zor) (B:=zoN) (W:=zku) (z:=default) (tr:=zn6) (m:=zn5)
def zq0 (r:Relation):Wy0 (Relation×Int):=.bn (zk8 r.Columns) fun r22=>.i (!r22) (.k ((⟨[],[]⟩:Relation),1)) (.bn (zw9 (r.Rows.length+(Int.ofNat r.Rows.length).toNat +Int.toNat 0+r.Columns.length+r.Rows.length+1000) r.Rows (Int.ofNat r.Rows.length) 0 r) fun r21=>.i (isL r21) (.k ((⟨[],[]⟩:Relation),getL r21)) (.bn (zhG (getR r21).Rows) fun r20=>.bn (zf8 r20) fun r19=>.bn (zbc r19) fun r18=>.bn (zfS (getR r21).Columns) fun r17=>.bn (zwf ((Int.ofNat r18.length).toNat +Int.toNat 0+r18.length+r17.length+0+1000) (Int.ofNat r18.length) 0 r18 r17 []) fun r16=>.i (decide (Int.ofNat r16.2.length>1024)) (.k ((⟨[],[]⟩:Relation),6)) (.k ((⟨r16.1,r16.2⟩:Relation),0))))
def zkm (r:Relation):Bool×(Relation×Int):=(zq0 r).fin default
def zo4 (r:Relation×Int):ARes ty:=⟨[.pure (.agg (base.enc 73 r.1)),.pure (.lit (.int .i64 r.2))],[]⟩
def zqm:AL base (Relation×Unit):=zf (zg (vAgg 73)) aNil
def znS:Ab.Spec ty:=zn zqm fun x=>((zkm x.1).1,zo4 (zkm x.1).2)
theorem zt1:Sound Tryz.prog base 35 znS:=
 zy (cx':=zld) zG zr zC (zA ⟨zsk,zyJ,zv6,zlS,znB,ziu,zkp,zoX,zlo,zwk,zx9,trivial⟩) Tryz.call35 Tryz.func35 (c:=body Tryz.f35) (by kernel_rfl) (zi (l:=[lp (body Tryz.f35) 0,lp (body Tryz.f35) 1]) (by kernel_rfl) ⟨zv0,zu4,trivial⟩) (sg:=⟨[.pure,.pure],[]⟩) (A:=zqm) (res:=zo4) (W:=fun x=>zq0 x.1) (z:=default)
def zHb (k:Go.Value) (l:List (Go.Value×Int)):Option Int:=mget (ty:=ty) (V:=3) k l
def zG8 (k:Go.Value) (l:List (Go.Value×Int)):Bool:=mhas (ty:=ty) (V:=3) k l
def ztE (k:Go.Value) (x:Int) (l:List (Go.Value×Int)):List (Go.Value×Int):=mset (ty:=ty) (V:=3) k x l
def zIC (k:Go.Value) (x:Bool) (l:List (Go.Value×Bool)):List (Go.Value×Bool):=mset (ty:=ty) (V:=4) k x l
def zfr (x:List Value):Bool×List Value:=zAD (fun a b=>zbK a b) x
def slices_SortFunc_Lapi_Value_api_Value_spec:Ab.Spec ty:=zn (cx:=base) (zf (aOwn 40) (zf (zg (vFn 79 (vNil))) aNil)) fun x=>((zfr x.1).1,⟨[],[some ⟨40,(zfr x.1).2⟩]⟩)
theorem zl6 (c:Unit) (x y:Value) (h:(zbK x y).1=true):zcc ((AV.agg (base.enc 40 x)::AV.agg (base.enc 40 y)::(vNil:VL base (Unit)).enc c).map Arg.pure)=some (true,⟨[.pure (.lit (.int .i64 (zbK x y).2))],[]⟩):=by
 rw [← h]; kernel_rfl
theorem zli:Sound Tryz.prog base 78 slices_SortFunc_Lapi_Value_api_Value_spec:=by
 letI:DecidableEq (ty 40):=inferInstanceAs (DecidableEq Value)
 exact zEs (T:=40) zr rfl Go.Proofs.Tryz.sortVal Tryz.isAgg40 (by unfold szOf; exact Tryz.sizeOf40) Tryz.call78 zcl (vNil) (fun c=>fun a b=>zbK a b) zl6
abbrev ttTstatisticscolumn0:=Unit×Unit×Int×Unit×Unit×Int×Int×Unit
abbrev ttTstatisticscolumn1:=List Value×(Int×Int×Int×ByteArray×Int×Int×ByteArray×Unit×Unit)×(List (_root_.Go.Value×Bool))×Unit
abbrev ttTstatisticscolumn2:=Int×List Value×Int×Int×Int×ByteArray×Int×Int×ByteArray×(List (_root_.Go.Value×Bool))
abbrev ttTstatisticscolumn3:=Unit×Unit×Int×Unit×Int×Unit
abbrev ttTstatisticscolumn4:=List Value×(Int×Int×Int×ByteArray×Int×Int×ByteArray×Unit×Unit)×(Int×Int×Int×ByteArray×Int×Int×ByteArray×Unit×Unit)×List Value×Unit
abbrev ttTstatisticscolumn5:=Int×Int×Int×ByteArray×Int×Int×ByteArray×Int×Int×Int×ByteArray×Int×Int×ByteArray×List Value
def zxz (n_:Int) (t18:Int) (t19:Int) (l:List Value) (t2_0:Int) (t2_1:Int) (t2_2:Int) (t2_3:ByteArray) (t2_4:Int) (t2_5:Int) (t2_6:ByteArray) (seen:List (_root_.Go.Value×Bool)):Wy ttTstatisticscolumn0 ttTstatisticscolumn1 ttTstatisticscolumn2:=.i (decide (t19<t18)) (.i (decide (0≤t19)&&decide (t19<Int.ofNat l.length)) (.h ((),(),n_,(),(),t18,(IntKind.i64.wrap (t19+1)),()) (l,(t2_0,t2_1,t2_2,t2_3,t2_4,t2_5,t2_6,(),()),(zIC (Value.agg #[Value.int IntKind.i64 (l.getD t19.toNat default).Kind,Value.int IntKind.i64 (l.getD t19.toNat default).Int,Value.string (l.getD t19.toNat default).Text]) true seen),())) .d) (.k (n_,l,t2_0,t2_1,t2_2,t2_3,t2_4,t2_5,t2_6,seen))
def zlT (x:ttTstatisticscolumn0) (y:ttTstatisticscolumn1):Wy ttTstatisticscolumn0 ttTstatisticscolumn1 ttTstatisticscolumn2:=zxz x.2.2.1 x.2.2.2.2.2.1 x.2.2.2.2.2.2.1 y.1 y.2.1.1 y.2.1.2.1 y.2.1.2.2.1 y.2.1.2.2.2.1 y.2.1.2.2.2.2.1 y.2.1.2.2.2.2.2.1 y.2.1.2.2.2.2.2.2.1 y.2.2.1
def zxZ (n:Nat) (n_:Int) (t18:Int) (t19:Int) (l:List Value) (t2_0:Int) (t2_1:Int) (t2_2:Int) (t2_3:ByteArray) (t2_4:Int) (t2_5:Int) (t2_6:ByteArray) (seen:List (_root_.Go.Value×Bool)):Bool×ttTstatisticscolumn2:=zba (zlT) default n ((),(),n_,(),(),t18,t19,()) (l,(t2_0,t2_1,t2_2,t2_3,t2_4,t2_5,t2_6,(),()),seen,())
def zpV (r:ttTstatisticscolumn2):LTree ty:=.done (.exit 0) [.own 224,.ptr 225 0,.lit (.int .i64 r.1),.mp 226] [.arr 40 r.2.1 false,.box ([.lit (.int .i64 r.2.2.1),.lit (.int .i64 r.2.2.2.1),.lit (.int .i64 r.2.2.2.2.1),.lit (.string r.2.2.2.2.2.1),.lit (.int .i64 r.2.2.2.2.2.2.1),.lit (.int .i64 r.2.2.2.2.2.2.2.1),.lit (.string r.2.2.2.2.2.2.2.2.1),.lit (.slice none 0 0)]) false,.mp 40 4 r.2.2.2.2.2.2.2.2.2 false]
def zqY:LL ty ttTstatisticscolumn0:=za (lOwn 224) (za (zcS 225 0) (za (lInt .i64) (za (lMp 226) (za (lOwn 224) (za (lInt .i64) (za (lInt .i64) zF))))))
def zqo:BL ty ttTstatisticscolumn1:=bArr 40 false (bBox (za (lInt .i64) (za (lInt .i64) (za (lInt .i64) (za lStr (za (lInt .i64) (za (lInt .i64) (za lStr (za lNil zF)))))))) false (bMp 40 4 false (bNil)))
def zxf (n_:Int) (i:Int) (l:List Value) (t2_0:Int) (t2_1:Int) (t2_2:Int) (t2_3:ByteArray) (t2_4:Int) (t2_5:Int) (t2_6:ByteArray) (c_0:Int) (c_1:Int) (c_2:Int) (c_3:ByteArray) (c_4:Int) (c_5:Int) (c_6:ByteArray) (b3:List Value):Wy ttTstatisticscolumn3 ttTstatisticscolumn4 ttTstatisticscolumn5:=.i (decide (i≤8)) (.i (decide (0≤IntKind.i64.wrap (IntKind.i64.wrap ((IntKind.i64.wrap (IntKind.i64.wrap (i*n_)+7)).tdiv 8) - 1))&&decide (IntKind.i64.wrap (IntKind.i64.wrap ((IntKind.i64.wrap (IntKind.i64.wrap (i*n_)+7)).tdiv 8) - 1)<Int.ofNat l.length)) (.i (decide ((b3.length+[l.getD (IntKind.i64.wrap (IntKind.i64.wrap ((IntKind.i64.wrap (IntKind.i64.wrap (i*n_)+7)).tdiv 8) - 1)).toNat default].length)*32≤zdv)) (.h ((),(),n_,(),(IntKind.i64.wrap (i+1)),()) (l,(t2_0,t2_1,t2_2,t2_3,t2_4,t2_5,t2_6,(),()),(c_0,c_1,c_2,c_3,c_4,c_5,c_6,(),()),(b3++[l.getD (IntKind.i64.wrap (IntKind.i64.wrap ((IntKind.i64.wrap (IntKind.i64.wrap (i*n_)+7)).tdiv 8) - 1)).toNat default]),())) .d) .d) (.k (t2_0,t2_1,t2_2,t2_3,t2_4,t2_5,t2_6,c_0,c_1,c_2,c_3,c_4,c_5,c_6,b3))
def zk4 (x:ttTstatisticscolumn3) (y:ttTstatisticscolumn4):Wy ttTstatisticscolumn3 ttTstatisticscolumn4 ttTstatisticscolumn5:=zxf x.2.2.1 x.2.2.2.2.1 y.1 y.2.1.1 y.2.1.2.1 y.2.1.2.2.1 y.2.1.2.2.2.1 y.2.1.2.2.2.2.1 y.2.1.2.2.2.2.2.1 y.2.1.2.2.2.2.2.2.1 y.2.2.1.1 y.2.2.1.2.1 y.2.2.1.2.2.1 y.2.2.1.2.2.2.1 y.2.2.1.2.2.2.2.1 y.2.2.1.2.2.2.2.2.1 y.2.2.1.2.2.2.2.2.2.1 y.2.2.2.1
def zwv (n:Nat) (n_:Int) (i:Int) (l:List Value) (t2_0:Int) (t2_1:Int) (t2_2:Int) (t2_3:ByteArray) (t2_4:Int) (t2_5:Int) (t2_6:ByteArray) (c_0:Int) (c_1:Int) (c_2:Int) (c_3:ByteArray) (c_4:Int) (c_5:Int) (c_6:ByteArray) (b3:List Value):Bool×ttTstatisticscolumn5:=zba (zk4) default n ((),(),n_,(),i,()) (l,(t2_0,t2_1,t2_2,t2_3,t2_4,t2_5,t2_6,(),()),(c_0,c_1,c_2,c_3,c_4,c_5,c_6,(),()),b3,())
def zoJ (r:ttTstatisticscolumn5):LTree ty:=.done (.exit 2) [.ptr 224 0,.ptr 225 0] [.box ([.lit (.int .i64 r.1),.lit (.int .i64 r.2.1),.lit (.int .i64 r.2.2.1),.lit (.string r.2.2.2.1),.lit (.int .i64 r.2.2.2.2.1),.lit (.int .i64 r.2.2.2.2.2.1),.lit (.string r.2.2.2.2.2.2.1),.lit (.slice none 0 0)]) false,.box ([.lit (.int .i64 r.2.2.2.2.2.2.2.1),.lit (.int .i64 r.2.2.2.2.2.2.2.2.1),.lit (.int .i64 r.2.2.2.2.2.2.2.2.2.1),.lit (.string r.2.2.2.2.2.2.2.2.2.2.1),.lit (.int .i64 r.2.2.2.2.2.2.2.2.2.2.2.1),.lit (.int .i64 r.2.2.2.2.2.2.2.2.2.2.2.2.1),.lit (.string r.2.2.2.2.2.2.2.2.2.2.2.2.2.1),.own 226]) false,.arr 40 r.2.2.2.2.2.2.2.2.2.2.2.2.2.2 false]
def zpq:LL ty ttTstatisticscolumn3:=za (lOwn 224) (za (zcS 225 0) (za (lInt .i64) (za (zcS 226 0) (za (lInt .i64) zF))))
def zpW:BL ty ttTstatisticscolumn4:=bArr 40 false (bBox (za (lInt .i64) (za (lInt .i64) (za (lInt .i64) (za lStr (za (lInt .i64) (za (lInt .i64) (za lStr (za lNil zF)))))))) false (bBox (za (lInt .i64) (za (lInt .i64) (za (lInt .i64) (za lStr (za (lInt .i64) (za (lInt .i64) (za lStr (za (lOwn 227) zF)))))))) false (bArr 40 false (bNil))))
def zpX (x:ttTstatisticscolumn0) (y:ttTstatisticscolumn1):Nat:=(Int.toNat x.2.2.1+Int.toNat x.2.2.2.2.2.1+Int.toNat x.2.2.2.2.2.2.1+y.1.length+Int.toNat y.2.1.1+Int.toNat y.2.1.2.1+Int.toNat y.2.1.2.2.1+y.2.1.2.2.2.1.size+Int.toNat y.2.1.2.2.2.2.1+Int.toNat y.2.1.2.2.2.2.2.1+y.2.1.2.2.2.2.2.2.1.size+y.2.2.1.length+1000)
def zoD (x:ttTstatisticscolumn3) (y:ttTstatisticscolumn4):Nat:=(Int.toNat x.2.2.1+Int.toNat x.2.2.2.2.1+y.1.length+Int.toNat y.2.1.1+Int.toNat y.2.1.2.1+Int.toNat y.2.1.2.2.1+y.2.1.2.2.2.1.size+Int.toNat y.2.1.2.2.2.2.1+Int.toNat y.2.1.2.2.2.2.2.1+y.2.1.2.2.2.2.2.2.1.size+Int.toNat y.2.2.1.1+Int.toNat y.2.2.1.2.1+Int.toNat y.2.2.1.2.2.1+y.2.2.1.2.2.2.1.size+Int.toNat y.2.2.1.2.2.2.2.1+Int.toNat y.2.2.1.2.2.2.2.2.1+y.2.2.1.2.2.2.2.2.2.1.size+y.2.2.2.1.length+1000)
def zl5:Cx ty:=mkCx base 56 [(78,slices_SortFunc_Lapi_Value_api_Value_spec),(79,zcc)] [(78,[true,false])] [(7,[(0,.keep),(2,.keep),(3,.keep),(4,.keep),(17,.keep),(18,.keep),(19,.keep)]),(13,[(0,.keep),(2,.keep),(3,.keep),(7,.boxOwn [(7,40)]),(8,.keep)])] [(7,1,[(0,.keep),(2,.keep),(3,.keep),(4,.keep)]),(13,3,[(2,.keep),(7,.keep)])] [(7,spW zqY zqo (zlT) default zpV zpX),(13,spW zpq zpW (zk4) default zoJ zoD)] []
theorem zwC:z8 zl5 (lp (body Tryz.f36) 0):=zQ (id:=7) (V:=zqY) (B:=zqo) (W:=zlT) (z:=default) (tr:=zpV) (m:=zpX)
theorem zv2:z8 zl5 (lp (body Tryz.f36) 1):=zQ (id:=13) (V:=zpq) (B:=zpW) (W:=zk4) (z:=default) (tr:=zoJ) (m:=zoD)
def zrC (l:List Value):Wy0 (ColumnStats):=.i (Int.ofNat l.length==0) (.k (⟨0,(⟨0,0,ByteArray.mk #[]⟩:Value),(⟨0,0,ByteArray.mk #[]⟩:Value),[]⟩:ColumnStats)) (.bn (zfr l) fun r2=>.bn (zxZ ((Int.ofNat l.length).toNat +(Int.ofNat r2.length).toNat +Int.toNat 0+r2.length+Int.toNat 0+Int.toNat 0+Int.toNat 0+(ByteArray.mk #[]).size+Int.toNat 0+Int.toNat 0+(ByteArray.mk #[]).size+0+1000) (Int.ofNat l.length) (Int.ofNat r2.length) 0 r2 0 0 0 (ByteArray.mk #[]) 0 0 (ByteArray.mk #[]) []) fun r1=>.i (decide ((0:Int)≤(0:Int))&&decide (0<Int.ofNat r1.2.1.length)) (.i (decide (0≤IntKind.i64.wrap (r1.1 - 1))&&decide (IntKind.i64.wrap (r1.1 - 1)<Int.ofNat r1.2.1.length)) (.bn (zwv (r1.1.toNat +Int.toNat 1+r1.2.1.length+r1.2.2.1.toNat +r1.2.2.2.1.toNat +r1.2.2.2.2.1.toNat +r1.2.2.2.2.2.1.size+r1.2.2.2.2.2.2.1.toNat +r1.2.2.2.2.2.2.2.1.toNat +r1.2.2.2.2.2.2.2.2.1.size+(Int.ofNat r1.2.2.2.2.2.2.2.2.2.length).toNat +(r1.2.1.getD (Int.toNat 0) default).Kind.toNat +(r1.2.1.getD (Int.toNat 0) default).Int.toNat +(r1.2.1.getD (Int.toNat 0) default).Text.size+(r1.2.1.getD (IntKind.i64.wrap (r1.1 - 1)).toNat default).Kind.toNat +(r1.2.1.getD (IntKind.i64.wrap (r1.1 - 1)).toNat default).Int.toNat +(r1.2.1.getD (IntKind.i64.wrap (r1.1 - 1)).toNat default).Text.size+0+1000) r1.1 1 r1.2.1 r1.2.2.1 r1.2.2.2.1 r1.2.2.2.2.1 r1.2.2.2.2.2.1 r1.2.2.2.2.2.2.1 r1.2.2.2.2.2.2.2.1 r1.2.2.2.2.2.2.2.2.1 (Int.ofNat r1.2.2.2.2.2.2.2.2.2.length) (r1.2.1.getD (Int.toNat 0) default).Kind (r1.2.1.getD (Int.toNat 0) default).Int (r1.2.1.getD (Int.toNat 0) default).Text (r1.2.1.getD (IntKind.i64.wrap (r1.1 - 1)).toNat default).Kind (r1.2.1.getD (IntKind.i64.wrap (r1.1 - 1)).toNat default).Int (r1.2.1.getD (IntKind.i64.wrap (r1.1 - 1)).toNat default).Text []) fun r0=>.k (⟨r0.2.2.2.2.2.2.2.1,(⟨r0.2.2.2.2.2.2.2.2.1,r0.2.2.2.2.2.2.2.2.2.1,r0.2.2.2.2.2.2.2.2.2.2.1⟩:Value),(⟨r0.2.2.2.2.2.2.2.2.2.2.2.1,r0.2.2.2.2.2.2.2.2.2.2.2.2.1,r0.2.2.2.2.2.2.2.2.2.2.2.2.2.1⟩:Value),r0.2.2.2.2.2.2.2.2.2.2.2.2.2.2⟩:ColumnStats)) .d) .d)
def zog (l:List Value):Bool×ColumnStats:=(zrC l).fin default
def zpF (r:ColumnStats):ARes ty:=⟨[.pure (.agg (base.enc 43 r))],[none]⟩
def zrl:AL base (List Value×Unit):=zf (aOwn 40) aNil
def zoY:Ab.Spec ty:=zn zrl fun x=>((zog x.1).1,zpF (zog x.1).2)
theorem zu5:Sound Tryz.prog base 36 zoY:=
 zy (cx':=zl5) zG zr zC (zA ⟨zli,zcl,trivial⟩) Tryz.call36 Tryz.func36 (c:=body Tryz.f36) (by kernel_rfl) (zi (l:=[lp (body Tryz.f36) 0,lp (body Tryz.f36) 1]) (by kernel_rfl) ⟨zwC,zv2,trivial⟩) (sg:=⟨[.pure],[false]⟩) (A:=zrl) (res:=zpF) (W:=fun x=>zrC x.1) (z:=default)
abbrev ttTstatisticsGather0:=Unit×Unit×Unit×Int×Int×Unit
abbrev ttTstatisticsGather1:=Table×(Int×Int×Unit×Unit)×List Row×Unit
abbrev ttTstatisticsGather2:=(Int×Int)⊕(Table×Int×Int)
abbrev ttTstatisticsGather3:=Unit×Unit×Unit×Int×Unit×Int×Int×List Row×Int×Int×Unit
abbrev ttTstatisticsGather4:=Table×(Int×Int×Unit×Unit)×(Int×Int×Unit×Unit)×List Value×List ColumnStats×Unit
abbrev ttTstatisticsGather5:=Int×Int×Table×Int×Int×Int×Int×List Value×List ColumnStats
abbrev ttTstatisticsGather6:=Table×(Int×Int×Unit×Unit)×(Int×Int×Unit×Unit)×List ColumnStats×Unit
abbrev ttTstatisticsGather7:=Int×Int×Int×Int×List ColumnStats
def zxH (t23:Int) (t24:Int) (t:Table) (t2_0:Int) (t2_1:Int) (t22:List Row):Wy ttTstatisticsGather0 ttTstatisticsGather1 ttTstatisticsGather2:=.i (decide (t24<t23)) (.i (decide (0≤t24)&&decide (t24<Int.ofNat t22.length)) (.bn (zkm (Relation.mk t.Columns [Row.mk (t22.getD t24.toNat default).Values []])) fun r4=>.i (r4.2 != 0) (.k (.inl (0,0))) (.h ((),(),(),t23,(IntKind.i64.wrap (t24+1)),()) (t,(t2_0,t2_1,(),()),t22,()))) .d) (.k (.inr (t,t2_0,t2_1)))
def zl0 (x:ttTstatisticsGather0) (y:ttTstatisticsGather1):Wy ttTstatisticsGather0 ttTstatisticsGather1 ttTstatisticsGather2:=zxH x.2.2.2.1 x.2.2.2.2.1 y.1 y.2.1.1 y.2.1.2.1 y.2.2.1
def zxA (n:Nat) (t23:Int) (t24:Int) (t:Table) (t2_0:Int) (t2_1:Int) (t22:List Row):Bool×ttTstatisticsGather2:=zba (zl0) (.inl default) n ((),(),(),t23,t24,()) (t,(t2_0,t2_1,(),()),t22,())
def zpH (r:ttTstatisticsGather2):LTree ty:=.ite (isL r) (.done .ret [.ptr 360 0] [.box ([.lit (.int .i64 ((getL r).1)),.lit (.int .i64 ((getL r).2)),.lit (.slice none 0 0)]) false]) (.done (.exit 0) [.ptr 360 0,.ptr 361 0] [.box (base.enc 25 (getR r).1) false,.box ([.lit (.int .i64 (getR r).2.1),.lit (.int .i64 (getR r).2.2),.lit (.slice none 0 0)]) false])
def zqp:LL ty ttTstatisticsGather0:=za (zcS 360 0) (za (zcS 361 0) (za (lOwn 362) (za (lInt .i64) (za (lInt .i64) zF))))
def zqM:BL ty ttTstatisticsGather1:=bBox (zfM (fun x=>(⟨x.1,x.2.1,x.2.2.1,x.2.2.2.1⟩:Table)) (fun x=>(x.ID,x.Name,x.Columns,x.Rows,())) (fun _=>rfl) (za (lInt .i64) (za lStr (za (lSl 67) (za (lSl 38) zF))))) false (bBox (za (lInt .i64) (za (lInt .i64) (za lNil zF))) false (bArr 38 false (bNil)))
def zwl (i:Int) (t61:Int) (t62:Int) (t66:List Row) (t67:Int) (t68:Int) (t:Table) (t2_0:Int) (t2_1:Int) (s_0:Int) (s_1:Int) (l:List Value) (b4:List ColumnStats):Wy ttTstatisticsGather3 ttTstatisticsGather4 ttTstatisticsGather5:=.i (decide (t68<t67)) (.i (decide (0≤t68)&&decide (t68<Int.ofNat t66.length)) (.i (decide (0≤i)&&decide (i<Int.ofNat (t66.getD t68.toNat default).Values.length)) (.i (decide ((l.length+[(t66.getD t68.toNat default).Values.getD i.toNat default].length)*32≤zdv)) (.h ((),(),(),i,(),t61,t62,t66,t67,(IntKind.i64.wrap (t68+1)),()) (t,(t2_0,t2_1,(),()),(s_0,s_1,(),()),(l++[(t66.getD t68.toNat default).Values.getD i.toNat default]),b4,())) .d) .d) .d) (.k (t61,t62,t,t2_0,t2_1,s_0,s_1,l,b4))
def zk6 (x:ttTstatisticsGather3) (y:ttTstatisticsGather4):Wy ttTstatisticsGather3 ttTstatisticsGather4 ttTstatisticsGather5:=zwl x.2.2.2.1 x.2.2.2.2.2.1 x.2.2.2.2.2.2.1 x.2.2.2.2.2.2.2.1 x.2.2.2.2.2.2.2.2.1 x.2.2.2.2.2.2.2.2.2.1 y.1 y.2.1.1 y.2.1.2.1 y.2.2.1.1 y.2.2.1.2.1 y.2.2.2.1 y.2.2.2.2.1
def zwR (n:Nat) (i:Int) (t61:Int) (t62:Int) (t66:List Row) (t67:Int) (t68:Int) (t:Table) (t2_0:Int) (t2_1:Int) (s_0:Int) (s_1:Int) (l:List Value) (b4:List ColumnStats):Bool×ttTstatisticsGather5:=zba (zk6) default n ((),(),(),i,(),t61,t62,t66,t67,t68,()) (t,(t2_0,t2_1,(),()),(s_0,s_1,(),()),l,b4,())
def zou (r:ttTstatisticsGather5):LTree ty:=.done (.exit 4) [.ptr 360 0,.ptr 361 0,.ptr 362 0,.own 363,.lit (.int .i64 r.1),.lit (.int .i64 r.2.1)] [.box (base.enc 25 r.2.2.1) false,.box ([.lit (.int .i64 r.2.2.2.1),.lit (.int .i64 r.2.2.2.2.1),.lit (.slice none 0 0)]) false,.box ([.lit (.int .i64 r.2.2.2.2.2.1),.lit (.int .i64 r.2.2.2.2.2.2.1),.own 364]) false,.arr 40 r.2.2.2.2.2.2.2.1 false,.arr 43 r.2.2.2.2.2.2.2.2 false]
def zp6:LL ty ttTstatisticsGather3:=za (zcS 360 0) (za (zcS 361 0) (za (zcS 362 0) (za (lInt .i64) (za (lOwn 363) (za (lInt .i64) (za (lInt .i64) (za (lSl 38) (za (lInt .i64) (za (lInt .i64) zF)))))))))
def zpt:BL ty ttTstatisticsGather4:=bBox (zfM (fun x=>(⟨x.1,x.2.1,x.2.2.1,x.2.2.2.1⟩:Table)) (fun x=>(x.ID,x.Name,x.Columns,x.Rows,())) (fun _=>rfl) (za (lInt .i64) (za lStr (za (lSl 67) (za (lSl 38) zF))))) false (bBox (za (lInt .i64) (za (lInt .i64) (za lNil zF))) false (bBox (za (lInt .i64) (za (lInt .i64) (za (lOwn 364) zF))) false (bArr 40 false (bArr 43 false (bNil)))))
def zwI (t61:Int) (t62:Int) (t:Table) (t2_0:Int) (t2_1:Int) (s_0:Int) (s_1:Int) (b3:List ColumnStats):Wy ttTstatisticsGather0 ttTstatisticsGather6 ttTstatisticsGather7:=.i (decide (t62<t61)) (.bn (zwR (t62.toNat +t61.toNat +t62.toNat +t.Rows.length+(Int.ofNat t.Rows.length).toNat +Int.toNat 0+t.Columns.length+t.Rows.length+t2_0.toNat +t2_1.toNat +s_0.toNat +s_1.toNat +0+b3.length+1000) t62 t61 t62 t.Rows (Int.ofNat t.Rows.length) 0 t t2_0 t2_1 s_0 s_1 [] b3) fun r7=>.bn (zog r7.2.2.2.2.2.2.2.1) fun r6=>.i (decide ((r7.2.2.2.2.2.2.2.2.length+[r6].length)*96≤zdv)) (.h ((),(),(),(r7.1),(IntKind.i64.wrap (r7.2.1+1)),()) ((r7.2.2.1),((r7.2.2.2.1),(r7.2.2.2.2.1),(),()),((r7.2.2.2.2.2.1),(r7.2.2.2.2.2.2.1),(),()),(r7.2.2.2.2.2.2.2.2++[r6]),())) .d) (.k (t2_0,t2_1,s_0,s_1,b3))
def zkW (x:ttTstatisticsGather0) (y:ttTstatisticsGather6):Wy ttTstatisticsGather0 ttTstatisticsGather6 ttTstatisticsGather7:=zwI x.2.2.2.1 x.2.2.2.2.1 y.1 y.2.1.1 y.2.1.2.1 y.2.2.1.1 y.2.2.1.2.1 y.2.2.2.1
def zwD (n:Nat) (t61:Int) (t62:Int) (t:Table) (t2_0:Int) (t2_1:Int) (s_0:Int) (s_1:Int) (b3:List ColumnStats):Bool×ttTstatisticsGather7:=zba (zkW) default n ((),(),(),t61,t62,()) (t,(t2_0,t2_1,(),()),(s_0,s_1,(),()),b3,())
def zoL (r:ttTstatisticsGather7):LTree ty:=.done (.exit 2) [.ptr 360 0,.ptr 361 0] [.box ([.lit (.int .i64 r.1),.lit (.int .i64 r.2.1),.lit (.slice none 0 0)]) false,.box ([.lit (.int .i64 r.2.2.1),.lit (.int .i64 r.2.2.2.1),.own 362]) false,.arr 43 r.2.2.2.2 false]
def zpY:LL ty ttTstatisticsGather0:=za (zcS 360 0) (za (zcS 361 0) (za (zcS 362 0) (za (lInt .i64) (za (lInt .i64) zF))))
def zp7:BL ty ttTstatisticsGather6:=bBox (zfM (fun x=>(⟨x.1,x.2.1,x.2.2.1,x.2.2.2.1⟩:Table)) (fun x=>(x.ID,x.Name,x.Columns,x.Rows,())) (fun _=>rfl) (za (lInt .i64) (za lStr (za (lSl 67) (za (lSl 38) zF))))) false (bBox (za (lInt .i64) (za (lInt .i64) (za lNil zF))) false (bBox (za (lInt .i64) (za (lInt .i64) (za (lOwn 363) zF))) false (bArr 43 false (bNil))))
def zp9 (x:ttTstatisticsGather0) (y:ttTstatisticsGather1):Nat:=(Int.toNat x.2.2.2.1+Int.toNat x.2.2.2.2.1+y.1.Columns.length+y.1.Rows.length+Int.toNat y.2.1.1+Int.toNat y.2.1.2.1+y.2.2.1.length+1000)
def zo2 (x:ttTstatisticsGather3) (y:ttTstatisticsGather4):Nat:=(Int.toNat x.2.2.2.1+Int.toNat x.2.2.2.2.2.1+Int.toNat x.2.2.2.2.2.2.1+x.2.2.2.2.2.2.2.1.length+Int.toNat x.2.2.2.2.2.2.2.2.1+Int.toNat x.2.2.2.2.2.2.2.2.2.1+y.1.Columns.length+y.1.Rows.length+Int.toNat y.2.1.1+Int.toNat y.2.1.2.1+Int.toNat y.2.2.1.1+Int.toNat y.2.2.1.2.1+y.2.2.2.1.length+y.2.2.2.2.1.length+1000)
def zoR (x:ttTstatisticsGather0) (y:ttTstatisticsGather6):Nat:=(Int.toNat x.2.2.2.1+Int.toNat x.2.2.2.2.1+y.1.Columns.length+y.1.Rows.length+Int.toNat y.2.1.1+Int.toNat y.2.1.2.1+Int.toNat y.2.2.1.1+Int.toNat y.2.2.1.2.1+y.2.2.2.1.length+1000)
def zi7:Cx ty:=mkCx base 90 [(35,znS),(36,zoY)] [(36,[true])] [(4,[(1,.keep),(2,.keep),(22,.keep),(23,.keep),(24,.keep)]),(15,[(1,.keep),(2,.keep),(9,.boxOwn [(2,43)]),(61,.keep),(62,.keep)]),(19,[(1,.keep),(2,.keep),(9,.keep),(10,.keep),(11,.own 40),(61,.keep),(62,.keep),(66,.keep),(67,.keep),(68,.keep)])] [(4,1,[(1,.keep),(2,.keep)]),(4,0,[(2,.keep)]),(15,3,[(2,.keep),(9,.keep)]),(19,5,[(1,.keep),(2,.keep),(9,.keep),(11,.keep),(61,.keep),(62,.keep)])] [(4,spW zqp zqM (zl0) (.inl default) zpH zp9),(19,spW zp6 zpt (zk6) default zou zo2),(15,spW zpY zp7 (zkW) default zoL zoR)] []
theorem zwO:z8 zi7 (lp (body Tryz.f12) 0):=zQ (id:=4) (V:=zqp) (B:=zqM) (W:=zl0) (z:=.inl default) (tr:=zpH) (m:=zp9)
theorem zvX:z8 zi7 (lp (body Tryz.f12) 2):=zQ (id:=19) (V:=zp6) (B:=zpt) (W:=zk6) (z:=default) (tr:=zou) (m:=zo2)
theorem zvT:z8 zi7 (lp (body Tryz.f12) 1):=zQ (id:=15) (V:=zpY) (B:=zp7) (W:=zkW) (z:=default) (tr:=zoL) (m:=zoR)
def zrj (t:Table):Wy0 (Stats):=.i (decide (Int.ofNat t.Rows.length>1000000)) (.k (⟨0,0,[]⟩:Stats)) (.i (decide ((0+t.Rows.length)*48≤zdv)) (.bn (zxA ((Int.ofNat ([]++t.Rows).length).toNat +Int.toNat 0+t.Columns.length+t.Rows.length+Int.toNat 0+Int.toNat 0+([]++t.Rows).length+1000) (Int.ofNat ([]++t.Rows).length) 0 t 0 0 ([]++t.Rows)) fun r12=>.i (isL r12) (.k (⟨(getL r12).1,(getL r12).2,[]⟩:Stats)) (.bn (zkm (Relation.mk (getR r12).1.Columns [])) fun r11=>.i (r11.2 != 0) (.k (⟨0,0,[]⟩:Stats)) (.bn (zwD ((Int.ofNat (getR r12).1.Columns.length).toNat +Int.toNat 0+(getR r12).1.Columns.length+(getR r12).1.Rows.length+(getR r12).2.1.toNat +(getR r12).2.2.toNat +(getR r12).1.ID.toNat +(Int.ofNat (getR r12).1.Rows.length).toNat +0+1000) (Int.ofNat (getR r12).1.Columns.length) 0 (getR r12).1 (getR r12).2.1 (getR r12).2.2 (getR r12).1.ID (Int.ofNat (getR r12).1.Rows.length) []) fun r10=>.k (⟨r10.2.2.1,r10.2.2.2.1,r10.2.2.2.2⟩:Stats)))) .d)
def ztz (t:Table):Bool×Stats:=(zrj t).fin default
def zpy (r:Stats):ARes ty:=⟨[.pure (.agg (base.enc 30 r))],[]⟩
def zrk:AL base (Table×Unit):=zf (zg (vAgg 25)) aNil
def zoG:Ab.Spec ty:=zn zrk fun x=>((ztz x.1).1,zpy (ztz x.1).2)
theorem zuV:Sound Tryz.prog base 12 zoG:=
 zy (cx':=zi7) zG zr zC (zA ⟨zt1,zu5,trivial⟩) Tryz.call12 Tryz.func12 (c:=body Tryz.f12) (by kernel_rfl) (zi (l:=[lp (body Tryz.f12) 0,lp (body Tryz.f12) 1,lp (body Tryz.f12) 2]) (by kernel_rfl) ⟨zwO,zvT,zvX,trivial⟩) (sg:=⟨[.pure],[]⟩) (A:=zrk) (res:=zpy) (W:=fun x=>zrj x.1) (z:=default)
def zkM (r:Int):ARes ty:=⟨[.pure (.lit (.int .i64 r))],[]⟩
def zlt:AL base (estimator×Scalar×Unit):=zf (zg (vAgg 88)) (zf (zg (vAgg 47)) aNil)
def zdV (F:estimator→Scalar→Bool×Int):Ab.Spec ty:=zn zlt fun x=>((F x.1 x.2.1).1,zkM (F x.1 x.2.1).2)
def zql:Cx ty:=mkCx base 39 [] [] [] [] [] []
def zhq (x_:estimator) (op:Int) (i:Int) (k:Int):Wy0 (Int):=.i (decide (x_.s.Rows>0)) (.i (decide (0≤i)&&decide (i<Int.ofNat x_.s.Columns.length)) (.i (decide (0≤k)&&decide (k<Int.ofNat x_.s.Columns.length)) (.i (!decide ((if (x_.s.Columns.getD k.toNat default).Distinct>(x_.s.Columns.getD i.toNat default).Distinct then (x_.s.Columns.getD k.toNat default).Distinct else (x_.s.Columns.getD i.toNat default).Distinct)=0)) (.i (op==5) (.k (if IntKind.i64.wrap (Int.tdiv 1000 (if (x_.s.Columns.getD k.toNat default).Distinct>(x_.s.Columns.getD i.toNat default).Distinct then (x_.s.Columns.getD k.toNat default).Distinct else (x_.s.Columns.getD i.toNat default).Distinct))>1 then IntKind.i64.wrap (Int.tdiv 1000 (if (x_.s.Columns.getD k.toNat default).Distinct>(x_.s.Columns.getD i.toNat default).Distinct then (x_.s.Columns.getD k.toNat default).Distinct else (x_.s.Columns.getD i.toNat default).Distinct)) else 1)) (.i (op==6) (.k (IntKind.i64.wrap (1000 - if IntKind.i64.wrap (Int.tdiv 1000 (if (x_.s.Columns.getD k.toNat default).Distinct>(x_.s.Columns.getD i.toNat default).Distinct then (x_.s.Columns.getD k.toNat default).Distinct else (x_.s.Columns.getD i.toNat default).Distinct))>1 then IntKind.i64.wrap (Int.tdiv 1000 (if (x_.s.Columns.getD k.toNat default).Distinct>(x_.s.Columns.getD i.toNat default).Distinct then (x_.s.Columns.getD k.toNat default).Distinct else (x_.s.Columns.getD i.toNat default).Distinct)) else 1))) (.k 333))) .d) .d) .d) (.i (op==5) (.k 0) (.i (op==6) (.k (IntKind.i64.wrap (1000 - 0))) (.k 333)))
def zbF (x_:estimator) (op:Int) (i:Int) (k:Int):Bool×Int:=(zhq x_ op i k).fin default
def zjF (r:Int):ARes ty:=⟨[.pure (.lit (.int .i64 r))],[]⟩
def zj6:AL base (estimator×Int×Int×Int×Unit):=zf (zg (vAgg 88)) (zf (zg (vInt .i64)) (zf (zg (vInt .i64)) (zf (zg (vInt .i64)) aNil)))
def zjj:Ab.Spec ty:=zn zj6 fun x=>((zbF x.1 x.2.1 x.2.2.1 x.2.2.2.1).1,zjF (zbF x.1 x.2.1 x.2.2.1 x.2.2.2.1).2)
theorem zok:Sound Tryz.prog base 127 zjj:=
 zy (cx':=zql) zG zr zC (zA trivial) Tryz.call127 Tryz.func127 (c:=body Tryz.f127) (by kernel_rfl) (zi (l:=[]) (by kernel_rfl) trivial) (sg:=⟨[.pure],[]⟩) (A:=zj6) (res:=zjF) (W:=fun x=>zhq x.1 x.2.1 x.2.2.1 x.2.2.2.1) (z:=default)
def zsY:Cx ty:=mkCx base 36 [(79,zcc)] [] [] [] [] []
def zjf (x_:estimator) (i:Int) (v:Value):Wy0 (Int):=.i (decide (0≤i)&&decide (i<Int.ofNat x_.s.Columns.length)) (.i (x_.s.Rows==0) (.k 0) (.bn (zbK v (x_.s.Columns.getD i.toNat default).Min) fun r1=>.i (decide (r1<0)) (.k 0) (.bn (zbK v (x_.s.Columns.getD i.toNat default).Max) fun r0=>.i (decide (r0>0)) (.k 0) (.i (!decide ((x_.s.Columns.getD i.toNat default).Distinct=0)) (.k (if IntKind.i64.wrap (Int.tdiv 1000 (x_.s.Columns.getD i.toNat default).Distinct)>1 then IntKind.i64.wrap (Int.tdiv 1000 (x_.s.Columns.getD i.toNat default).Distinct) else 1)) .d)))) .d
def zcn (x_:estimator) (i:Int) (v:Value):Bool×Int:=(zjf x_ i v).fin default
def zlN (r:Int):ARes ty:=⟨[.pure (.lit (.int .i64 r))],[]⟩
def zmY:AL base (estimator×Int×Value×Unit):=zf (zg (vAgg 88)) (zf (zg (vInt .i64)) (zf (zg (vAgg 40)) aNil))
def zfR:Ab.Spec ty:=zn zmY fun x=>((zcn x.1 x.2.1 x.2.2.1).1,zlN (zcn x.1 x.2.1 x.2.2.1).2)
theorem zhC:Sound Tryz.prog base 87 zfR:=
 zy (cx':=zsY) zG zr zC (zA ⟨zcl,trivial⟩) Tryz.call87 Tryz.func87 (c:=body Tryz.f87) (by kernel_rfl) (zi (l:=[]) (by kernel_rfl) trivial) (sg:=⟨[.pure],[]⟩) (A:=zmY) (res:=zlN) (W:=fun x=>zjf x.1 x.2.1 x.2.2.1) (z:=default)
abbrev ttTstatisticsestimatorlt0:=Unit×Int×List Value×Int×Int×Unit
def ziH (n_:Int) (t16:List Value) (t17:Int) (t18:Int) (v:Value):Wy ttTstatisticsestimatorlt0 (Value×Unit) (Int):=.i (decide (t18<t17)) (.i (decide (0≤t18)&&decide (t18<Int.ofNat t16.length)) (.bn (zbK (t16.getD t18.toNat default) v) fun r0=>.i (decide (r0<0)) (.h ((),(IntKind.i64.wrap (n_+125)),t16,t17,(IntKind.i64.wrap (t18+1)),()) (v,())) (.h ((),n_,t16,t17,(IntKind.i64.wrap (t18+1)),()) (v,()))) .d) (.k n_)
def ziF (x:ttTstatisticsestimatorlt0) (y:Value×Unit):Wy ttTstatisticsestimatorlt0 (Value×Unit) (Int):=ziH x.2.1 x.2.2.1 x.2.2.2.1 x.2.2.2.2.1 y.1
def zgN (n:Nat) (n_:Int) (t16:List Value) (t17:Int) (t18:Int) (v:Value):Bool×Int:=zba (ziF) default n ((),n_,t16,t17,t18,()) (v,())
def zlC (r:Int):LTree ty:=.done (.exit 0) [.lit (.int .i64 r)] []
def zmf:LL ty ttTstatisticsestimatorlt0:=za (zcS 120 0) (za (lInt .i64) (za (lSl 40) (za (lInt .i64) (za (lInt .i64) zF))))
def zml:BL ty (Value×Unit):=bBox (zfM (fun x=>(⟨x.1,x.2.1,x.2.2.1⟩:Value)) (fun x=>(x.Kind,x.Int,x.Text,())) (fun _=>rfl) (za (lInt .i64) (za (lInt .i64) (za lStr zF)))) false (bNil)
def zlB (x:ttTstatisticsestimatorlt0) (y:Value×Unit):Nat:=(Int.toNat x.2.1+x.2.2.1.length+Int.toNat x.2.2.2.1+Int.toNat x.2.2.2.2.1+1000)
def zmi:Cx ty:=mkCx base 30 [(79,zcc)] [] [(3,[(5,.keep),(7,.keep),(16,.keep),(17,.keep),(18,.keep)])] [(3,1,[(7,.keep)])] [(3,spW zmf zml (ziF) default zlC zlB)] []
theorem zsf:z8 zmi (lp (body Tryz.f60) 0):=zQ (id:=3) (V:=zmf) (B:=zml) (W:=ziF) (z:=default) (tr:=zlC) (m:=zlB)
def zi2 (x_:estimator) (i:Int) (v:Value):Wy0 (Int):=.i (decide (0≤i)&&decide (i<Int.ofNat x_.s.Columns.length)) (.bn (zgN (Int.toNat 0+(x_.s.Columns.getD i.toNat default).Bounds.length+(Int.ofNat (x_.s.Columns.getD i.toNat default).Bounds.length).toNat +Int.toNat 0+1000) 0 (x_.s.Columns.getD i.toNat default).Bounds (Int.ofNat (x_.s.Columns.getD i.toNat default).Bounds.length) 0 v) fun r2=>.k r2) .d
def zcT (x_:estimator) (i:Int) (v:Value):Bool×Int:=(zi2 x_ i v).fin default
def zlE (r:Int):ARes ty:=⟨[.pure (.lit (.int .i64 r))],[]⟩
def zmK:AL base (estimator×Int×Value×Unit):=zf (zg (vAgg 88)) (zf (zg (vInt .i64)) (zf (zg (vAgg 40)) aNil))
def zh2:Ab.Spec ty:=zn zmK fun x=>((zcT x.1 x.2.1 x.2.2.1).1,zlE (zcT x.1 x.2.1 x.2.2.1).2)
theorem zkL:Sound Tryz.prog base 60 zh2:=
 zy (cx':=zmi) zG zr zC (zA ⟨zcl,trivial⟩) Tryz.call60 Tryz.func60 (c:=body Tryz.f60) (by kernel_rfl) (zi (l:=[lp (body Tryz.f60) 0]) (by kernel_rfl) ⟨zsf,trivial⟩) (sg:=⟨[.pure],[]⟩) (A:=zmK) (res:=zlE) (W:=fun x=>zi2 x.1 x.2.1 x.2.2.1) (z:=default)
def zs7:Cx ty:=mkCx base 17 [(60,zh2),(87,zfR)] [] [] [] [] []
def zi5 (x_:estimator) (i:Int) (v:Value):Wy0 (Int):=.bn (zcT x_ i v) fun r1=>.bn (zcn x_ i v) fun r0=>.k (if IntKind.i64.wrap (r1+r0)<1000 then IntKind.i64.wrap (r1+r0) else 1000)
def zd4 (x_:estimator) (i:Int) (v:Value):Bool×Int:=(zi5 x_ i v).fin default
def zlA (r:Int):ARes ty:=⟨[.pure (.lit (.int .i64 r))],[]⟩
def zmN:AL base (estimator×Int×Value×Unit):=zf (zg (vAgg 88)) (zf (zg (vInt .i64)) (zf (zg (vAgg 40)) aNil))
def zkU:Ab.Spec ty:=zn zmN fun x=>((zd4 x.1 x.2.1 x.2.2.1).1,zlA (zd4 x.1 x.2.1 x.2.2.1).2)
theorem zre:Sound Tryz.prog base 61 zkU:=
 zy (cx':=zs7) zG zr zC (zA ⟨zkL,zhC,trivial⟩) Tryz.call61 Tryz.func61 (c:=body Tryz.f61) (by kernel_rfl) (zi (l:=[]) (by kernel_rfl) trivial) (sg:=⟨[.pure],[]⟩) (A:=zmN) (res:=zlA) (W:=fun x=>zi5 x.1 x.2.1 x.2.2.1) (z:=default)
def zqf:Cx ty:=mkCx base 47 [(60,zh2),(61,zkU),(87,zfR)] [] [] [] [] []
def zhn (x_:estimator) (op:Int) (i:Int) (v:Value):Wy0 (Int):=.i (op==5) (.bn (zcn x_ i v) fun r0=>.k r0) (.i (op==6) (.bn (zcn x_ i v) fun r1=>.k (IntKind.i64.wrap (1000 - r1))) (.i (op==7) (.bn (zcT x_ i v) fun r2=>.k r2) (.i (op==8) (.bn (zd4 x_ i v) fun r3=>.k r3) (.i (op==9) (.bn (zd4 x_ i v) fun r4=>.k (IntKind.i64.wrap (1000 - r4))) (.bn (zcT x_ i v) fun r5=>.k (IntKind.i64.wrap (1000 - r5)))))))
def zbH (x_:estimator) (op:Int) (i:Int) (v:Value):Bool×Int:=(zhn x_ op i v).fin default
def zjG (r:Int):ARes ty:=⟨[.pure (.lit (.int .i64 r))],[]⟩
def zke:AL base (estimator×Int×Int×Value×Unit):=zf (zg (vAgg 88)) (zf (zg (vInt .i64)) (zf (zg (vInt .i64)) (zf (zg (vAgg 40)) aNil)))
def zji:Ab.Spec ty:=zn zke fun x=>((zbH x.1 x.2.1 x.2.2.1 x.2.2.2.1).1,zjG (zbH x.1 x.2.1 x.2.2.1 x.2.2.2.1).2)
theorem zod:Sound Tryz.prog base 128 zji:=
 zy (cx':=zqf) zG zr zC (zA ⟨zkL,zre,zhC,trivial⟩) Tryz.call128 Tryz.func128 (c:=body Tryz.f128) (by kernel_rfl) (zi (l:=[]) (by kernel_rfl) trivial) (sg:=⟨[.pure],[]⟩) (A:=zke) (res:=zjG) (W:=fun x=>zhn x.1 x.2.1 x.2.2.1 x.2.2.2.1) (z:=default)
def zsH:Cx ty:=mkCx base 15 [] [] [] [] [] []
def ziJ (x_:estimator) (i:Int):Wy0 (Bool):=.i (decide (i≥0)) (.k (decide (i<Int.ofNat x_.s.Columns.length))) (.k false)
def zbQ (x_:estimator) (i:Int):Bool×Bool:=(ziJ x_ i).fin default
def zlh (r:Bool):ARes ty:=⟨[.pure (.lit (.bool r))],[]⟩
def zmc:AL base (estimator×Int×Unit):=zf (zg (vAgg 88)) (zf (zg (vInt .i64)) aNil)
def zhK:Ab.Spec ty:=zn zmc fun x=>((zbQ x.1 x.2.1).1,zlh (zbQ x.1 x.2.1).2)
theorem zkk:Sound Tryz.prog base 59 zhK:=
 zy (cx':=zsH) zG zr zC (zA trivial) Tryz.call59 Tryz.func59 (c:=body Tryz.f59) (by kernel_rfl) (zi (l:=[]) (by kernel_rfl) trivial) (sg:=⟨[.pure],[]⟩) (A:=zmc) (res:=zlh) (W:=fun x=>ziJ x.1 x.2.1) (z:=default)
def zv7:Cx ty:=mkCx base 17 [] [] [] [] [] []
def zlm (op:Int):Wy0 (Int):=.i (zG8 (Value.int IntKind.i64 op) (ztE (Value.int IntKind.i64 10) 8 (ztE (Value.int IntKind.i64 8) 10 (ztE (Value.int IntKind.i64 9) 7 (ztE (Value.int IntKind.i64 7) 9 []))))) (.k ((zHb (Value.int IntKind.i64 op) (ztE (Value.int IntKind.i64 10) 8 (ztE (Value.int IntKind.i64 8) 10 (ztE (Value.int IntKind.i64 9) 7 (ztE (Value.int IntKind.i64 7) 9 []))))).getD 0)) (.k op)
def zhQ (op:Int):Bool×Int:=(zlm op).fin default
def znU (r:Int):ARes ty:=⟨[.pure (.lit (.int .i64 r))],[]⟩
def zp3:AL base (Int×Unit):=zf (zg (vInt .i64)) aNil
def zns:Ab.Spec ty:=zn zp3 fun x=>((zhQ x.1).1,znU (zhQ x.1).2)
theorem ztL:Sound Tryz.prog base 126 zns:=
 zy (cx':=zv7) zG zr zC (zA trivial) Tryz.call126 Tryz.func126 (c:=body Tryz.f126) (by kernel_rfl) (zi (l:=[]) (by kernel_rfl) trivial) (sg:=⟨[.pure],[]⟩) (A:=zp3) (res:=znU) (W:=fun x=>zlm x.1) (z:=default)
def zol:Cx ty:=mkCx base 63 [(59,zhK),(126,zns),(127,zjj),(128,zji)] [] [] [] [] []
def zgw (x_:estimator) (op:Int) (a:Scalar) (b:Scalar):Wy0 (Int):=.i (a.Kind==0) (.bn (zhQ op) fun r6=>.i (b.Kind != 1) (.k 333) (.i (a.Kind==2) (.k 333) (.bn (zbQ x_ b.Column) fun r5=>.i (!r5) (.k 333) (.i (a.Kind==1) (.bn (zbQ x_ a.Column) fun r2=>.i (!r2) (.k 333) (.i (a.Kind==1) (.bn (zbF x_ r6 b.Column a.Column) fun r0=>.k r0) (.i (a.Kind==0) (.bn (zbH x_ r6 b.Column a.Value) fun r1=>.k r1) (.k 333)))) (.i (a.Kind==1) (.bn (zbF x_ r6 b.Column a.Column) fun r3=>.k r3) (.i (a.Kind==0) (.bn (zbH x_ r6 b.Column a.Value) fun r4=>.k r4) (.k 333))))))) (.i (a.Kind != 1) (.k 333) (.i (b.Kind==2) (.k 333) (.bn (zbQ x_ a.Column) fun r12=>.i (!r12) (.k 333) (.i (b.Kind==1) (.bn (zbQ x_ b.Column) fun r9=>.i (!r9) (.k 333) (.i (b.Kind==1) (.bn (zbF x_ op a.Column b.Column) fun r7=>.k r7) (.i (b.Kind==0) (.bn (zbH x_ op a.Column b.Value) fun r8=>.k r8) (.k 333)))) (.i (b.Kind==1) (.bn (zbF x_ op a.Column b.Column) fun r10=>.k r10) (.i (b.Kind==0) (.bn (zbH x_ op a.Column b.Value) fun r11=>.k r11) (.k 333)))))))
def zbn (x_:estimator) (op:Int) (a:Scalar) (b:Scalar):Bool×Int:=(zgw x_ op a b).fin default
def ziC (r:Int):ARes ty:=⟨[.pure (.lit (.int .i64 r))],[]⟩
def zjg:AL base (estimator×Int×Scalar×Scalar×Unit):=zf (zg (vAgg 88)) (zf (zg (vInt .i64)) (zf (zg (vAgg 47)) (zf (zg (vAgg 47)) aNil)))
def zis:Ab.Spec ty:=zn zjg fun x=>((zbn x.1 x.2.1 x.2.2.1 x.2.2.2.1).1,ziC (zbn x.1 x.2.1 x.2.2.1 x.2.2.2.1).2)
theorem zm8:Sound Tryz.prog base 88 zis:=
 zy (cx':=zol) zG zr zC (zA ⟨zkk,ztL,zok,zod,trivial⟩) Tryz.call88 Tryz.func88 (c:=body Tryz.f88) (by kernel_rfl) (zi (l:=[]) (by kernel_rfl) trivial) (sg:=⟨[.pure],[]⟩) (A:=zjg) (res:=ziC) (W:=fun x=>zgw x.1 x.2.1 x.2.2.1 x.2.2.2.1) (z:=default)
def zqt (zt:estimator→Scalar→Bool×Int):Cx ty:=mkCx base 121 [(46,(zdV zt)),(59,zhK),(87,zfR),(88,zis)] [] [] [] [] []
def zhO (zt:estimator→Scalar→Bool×Int) (x_:estimator) (e:Scalar):Wy0 (Int):=.i (e.Kind==0) (.i (e.Value.Kind==2&&(e.Value.Int==1&&(e.Value.Text.toList==(ByteArray.mk #[]).toList&&true))) (.k 1000) (.k 0)) (.i (e.Kind==1) (.bn (zbQ x_ e.Column) fun r12=>.i (r12) (.bn (zcn x_ e.Column (Value.mk 2 1 (ByteArray.mk #[]))) fun r0=>.k r0) (.i (e.Kind != 2) (.k 333) (.i (e.Op==13) (.i (Int.ofNat e.Args.length==1) (.i (decide ((0:Int)≤(0:Int))&&decide (0<Int.ofNat e.Args.length)) (.bn (zt x_ (Scalar.mk (e.Args.getD (Int.toNat 0) default).Kind (e.Args.getD (Int.toNat 0) default).Column (e.Args.getD (Int.toNat 0) default).Value (e.Args.getD (Int.toNat 0) default).Op (e.Args.getD (Int.toNat 0) default).Args)) fun r1=>.k (IntKind.i64.wrap (1000 - r1))) .d) (.i (Int.ofNat e.Args.length != 2) (.k 333) (.i (e.Op==11) (.i (decide ((0:Int)≤(0:Int))&&decide (0<Int.ofNat e.Args.length)) (.bn (zt x_ (Scalar.mk (e.Args.getD (Int.toNat 0) default).Kind (e.Args.getD (Int.toNat 0) default).Column (e.Args.getD (Int.toNat 0) default).Value (e.Args.getD (Int.toNat 0) default).Op (e.Args.getD (Int.toNat 0) default).Args)) fun r3=>.i (decide ((0:Int)≤(1:Int))&&decide (1<Int.ofNat e.Args.length)) (.bn (zt x_ (Scalar.mk (e.Args.getD (Int.toNat 1) default).Kind (e.Args.getD (Int.toNat 1) default).Column (e.Args.getD (Int.toNat 1) default).Value (e.Args.getD (Int.toNat 1) default).Op (e.Args.getD (Int.toNat 1) default).Args)) fun r2=>.k (IntKind.i64.wrap ((IntKind.i64.wrap (r3*r2)).tdiv 1000))) .d) .d) (.i (e.Op==12) (.i (decide ((0:Int)≤(0:Int))&&decide (0<Int.ofNat e.Args.length)) (.bn (zt x_ (Scalar.mk (e.Args.getD (Int.toNat 0) default).Kind (e.Args.getD (Int.toNat 0) default).Column (e.Args.getD (Int.toNat 0) default).Value (e.Args.getD (Int.toNat 0) default).Op (e.Args.getD (Int.toNat 0) default).Args)) fun r5=>.i (decide ((0:Int)≤(1:Int))&&decide (1<Int.ofNat e.Args.length)) (.bn (zt x_ (Scalar.mk (e.Args.getD (Int.toNat 1) default).Kind (e.Args.getD (Int.toNat 1) default).Column (e.Args.getD (Int.toNat 1) default).Value (e.Args.getD (Int.toNat 1) default).Op (e.Args.getD (Int.toNat 1) default).Args)) fun r4=>.k (IntKind.i64.wrap (IntKind.i64.wrap (r5+r4) - IntKind.i64.wrap ((IntKind.i64.wrap (r5*r4)).tdiv 1000)))) .d) .d) (.i (decide (e.Op≥5)) (.i (decide (e.Op≤10)) (.i (decide ((0:Int)≤(0:Int))&&decide (0<Int.ofNat e.Args.length)) (.i (decide ((0:Int)≤(1:Int))&&decide (1<Int.ofNat e.Args.length)) (.bn (zbn x_ e.Op (Scalar.mk (e.Args.getD (Int.toNat 0) default).Kind (e.Args.getD (Int.toNat 0) default).Column (e.Args.getD (Int.toNat 0) default).Value (e.Args.getD (Int.toNat 0) default).Op (e.Args.getD (Int.toNat 0) default).Args) (Scalar.mk (e.Args.getD (Int.toNat 1) default).Kind (e.Args.getD (Int.toNat 1) default).Column (e.Args.getD (Int.toNat 1) default).Value (e.Args.getD (Int.toNat 1) default).Op (e.Args.getD (Int.toNat 1) default).Args)) fun r6=>.k r6) .d) .d) (.k 333)) (.k 333)))))) (.i (Int.ofNat e.Args.length != 2) (.k 333) (.i (e.Op==11) (.i (decide ((0:Int)≤(0:Int))&&decide (0<Int.ofNat e.Args.length)) (.bn (zt x_ (Scalar.mk (e.Args.getD (Int.toNat 0) default).Kind (e.Args.getD (Int.toNat 0) default).Column (e.Args.getD (Int.toNat 0) default).Value (e.Args.getD (Int.toNat 0) default).Op (e.Args.getD (Int.toNat 0) default).Args)) fun r8=>.i (decide ((0:Int)≤(1:Int))&&decide (1<Int.ofNat e.Args.length)) (.bn (zt x_ (Scalar.mk (e.Args.getD (Int.toNat 1) default).Kind (e.Args.getD (Int.toNat 1) default).Column (e.Args.getD (Int.toNat 1) default).Value (e.Args.getD (Int.toNat 1) default).Op (e.Args.getD (Int.toNat 1) default).Args)) fun r7=>.k (IntKind.i64.wrap ((IntKind.i64.wrap (r8*r7)).tdiv 1000))) .d) .d) (.i (e.Op==12) (.i (decide ((0:Int)≤(0:Int))&&decide (0<Int.ofNat e.Args.length)) (.bn (zt x_ (Scalar.mk (e.Args.getD (Int.toNat 0) default).Kind (e.Args.getD (Int.toNat 0) default).Column (e.Args.getD (Int.toNat 0) default).Value (e.Args.getD (Int.toNat 0) default).Op (e.Args.getD (Int.toNat 0) default).Args)) fun r10=>.i (decide ((0:Int)≤(1:Int))&&decide (1<Int.ofNat e.Args.length)) (.bn (zt x_ (Scalar.mk (e.Args.getD (Int.toNat 1) default).Kind (e.Args.getD (Int.toNat 1) default).Column (e.Args.getD (Int.toNat 1) default).Value (e.Args.getD (Int.toNat 1) default).Op (e.Args.getD (Int.toNat 1) default).Args)) fun r9=>.k (IntKind.i64.wrap (IntKind.i64.wrap (r10+r9) - IntKind.i64.wrap ((IntKind.i64.wrap (r10*r9)).tdiv 1000)))) .d) .d) (.i (decide (e.Op≥5)) (.i (decide (e.Op≤10)) (.i (decide ((0:Int)≤(0:Int))&&decide (0<Int.ofNat e.Args.length)) (.i (decide ((0:Int)≤(1:Int))&&decide (1<Int.ofNat e.Args.length)) (.bn (zbn x_ e.Op (Scalar.mk (e.Args.getD (Int.toNat 0) default).Kind (e.Args.getD (Int.toNat 0) default).Column (e.Args.getD (Int.toNat 0) default).Value (e.Args.getD (Int.toNat 0) default).Op (e.Args.getD (Int.toNat 0) default).Args) (Scalar.mk (e.Args.getD (Int.toNat 1) default).Kind (e.Args.getD (Int.toNat 1) default).Column (e.Args.getD (Int.toNat 1) default).Value (e.Args.getD (Int.toNat 1) default).Op (e.Args.getD (Int.toNat 1) default).Args)) fun r11=>.k r11) .d) .d) (.k 333)) (.k 333)))))))) (.i (e.Kind != 2) (.k 333) (.i (e.Op==13) (.i (Int.ofNat e.Args.length==1) (.i (decide ((0:Int)≤(0:Int))&&decide (0<Int.ofNat e.Args.length)) (.bn (zt x_ (Scalar.mk (e.Args.getD (Int.toNat 0) default).Kind (e.Args.getD (Int.toNat 0) default).Column (e.Args.getD (Int.toNat 0) default).Value (e.Args.getD (Int.toNat 0) default).Op (e.Args.getD (Int.toNat 0) default).Args)) fun r13=>.k (IntKind.i64.wrap (1000 - r13))) .d) (.i (Int.ofNat e.Args.length != 2) (.k 333) (.i (e.Op==11) (.i (decide ((0:Int)≤(0:Int))&&decide (0<Int.ofNat e.Args.length)) (.bn (zt x_ (Scalar.mk (e.Args.getD (Int.toNat 0) default).Kind (e.Args.getD (Int.toNat 0) default).Column (e.Args.getD (Int.toNat 0) default).Value (e.Args.getD (Int.toNat 0) default).Op (e.Args.getD (Int.toNat 0) default).Args)) fun r15=>.i (decide ((0:Int)≤(1:Int))&&decide (1<Int.ofNat e.Args.length)) (.bn (zt x_ (Scalar.mk (e.Args.getD (Int.toNat 1) default).Kind (e.Args.getD (Int.toNat 1) default).Column (e.Args.getD (Int.toNat 1) default).Value (e.Args.getD (Int.toNat 1) default).Op (e.Args.getD (Int.toNat 1) default).Args)) fun r14=>.k (IntKind.i64.wrap ((IntKind.i64.wrap (r15*r14)).tdiv 1000))) .d) .d) (.i (e.Op==12) (.i (decide ((0:Int)≤(0:Int))&&decide (0<Int.ofNat e.Args.length)) (.bn (zt x_ (Scalar.mk (e.Args.getD (Int.toNat 0) default).Kind (e.Args.getD (Int.toNat 0) default).Column (e.Args.getD (Int.toNat 0) default).Value (e.Args.getD (Int.toNat 0) default).Op (e.Args.getD (Int.toNat 0) default).Args)) fun r17=>.i (decide ((0:Int)≤(1:Int))&&decide (1<Int.ofNat e.Args.length)) (.bn (zt x_ (Scalar.mk (e.Args.getD (Int.toNat 1) default).Kind (e.Args.getD (Int.toNat 1) default).Column (e.Args.getD (Int.toNat 1) default).Value (e.Args.getD (Int.toNat 1) default).Op (e.Args.getD (Int.toNat 1) default).Args)) fun r16=>.k (IntKind.i64.wrap (IntKind.i64.wrap (r17+r16) - IntKind.i64.wrap ((IntKind.i64.wrap (r17*r16)).tdiv 1000)))) .d) .d) (.i (decide (e.Op≥5)) (.i (decide (e.Op≤10)) (.i (decide ((0:Int)≤(0:Int))&&decide (0<Int.ofNat e.Args.length)) (.i (decide ((0:Int)≤(1:Int))&&decide (1<Int.ofNat e.Args.length)) (.bn (zbn x_ e.Op (Scalar.mk (e.Args.getD (Int.toNat 0) default).Kind (e.Args.getD (Int.toNat 0) default).Column (e.Args.getD (Int.toNat 0) default).Value (e.Args.getD (Int.toNat 0) default).Op (e.Args.getD (Int.toNat 0) default).Args) (Scalar.mk (e.Args.getD (Int.toNat 1) default).Kind (e.Args.getD (Int.toNat 1) default).Column (e.Args.getD (Int.toNat 1) default).Value (e.Args.getD (Int.toNat 1) default).Op (e.Args.getD (Int.toNat 1) default).Args)) fun r18=>.k r18) .d) .d) (.k 333)) (.k 333)))))) (.i (Int.ofNat e.Args.length != 2) (.k 333) (.i (e.Op==11) (.i (decide ((0:Int)≤(0:Int))&&decide (0<Int.ofNat e.Args.length)) (.bn (zt x_ (Scalar.mk (e.Args.getD (Int.toNat 0) default).Kind (e.Args.getD (Int.toNat 0) default).Column (e.Args.getD (Int.toNat 0) default).Value (e.Args.getD (Int.toNat 0) default).Op (e.Args.getD (Int.toNat 0) default).Args)) fun r20=>.i (decide ((0:Int)≤(1:Int))&&decide (1<Int.ofNat e.Args.length)) (.bn (zt x_ (Scalar.mk (e.Args.getD (Int.toNat 1) default).Kind (e.Args.getD (Int.toNat 1) default).Column (e.Args.getD (Int.toNat 1) default).Value (e.Args.getD (Int.toNat 1) default).Op (e.Args.getD (Int.toNat 1) default).Args)) fun r19=>.k (IntKind.i64.wrap ((IntKind.i64.wrap (r20*r19)).tdiv 1000))) .d) .d) (.i (e.Op==12) (.i (decide ((0:Int)≤(0:Int))&&decide (0<Int.ofNat e.Args.length)) (.bn (zt x_ (Scalar.mk (e.Args.getD (Int.toNat 0) default).Kind (e.Args.getD (Int.toNat 0) default).Column (e.Args.getD (Int.toNat 0) default).Value (e.Args.getD (Int.toNat 0) default).Op (e.Args.getD (Int.toNat 0) default).Args)) fun r22=>.i (decide ((0:Int)≤(1:Int))&&decide (1<Int.ofNat e.Args.length)) (.bn (zt x_ (Scalar.mk (e.Args.getD (Int.toNat 1) default).Kind (e.Args.getD (Int.toNat 1) default).Column (e.Args.getD (Int.toNat 1) default).Value (e.Args.getD (Int.toNat 1) default).Op (e.Args.getD (Int.toNat 1) default).Args)) fun r21=>.k (IntKind.i64.wrap (IntKind.i64.wrap (r22+r21) - IntKind.i64.wrap ((IntKind.i64.wrap (r22*r21)).tdiv 1000)))) .d) .d) (.i (decide (e.Op≥5)) (.i (decide (e.Op≤10)) (.i (decide ((0:Int)≤(0:Int))&&decide (0<Int.ofNat e.Args.length)) (.i (decide ((0:Int)≤(1:Int))&&decide (1<Int.ofNat e.Args.length)) (.bn (zbn x_ e.Op (Scalar.mk (e.Args.getD (Int.toNat 0) default).Kind (e.Args.getD (Int.toNat 0) default).Column (e.Args.getD (Int.toNat 0) default).Value (e.Args.getD (Int.toNat 0) default).Op (e.Args.getD (Int.toNat 0) default).Args) (Scalar.mk (e.Args.getD (Int.toNat 1) default).Kind (e.Args.getD (Int.toNat 1) default).Column (e.Args.getD (Int.toNat 1) default).Value (e.Args.getD (Int.toNat 1) default).Op (e.Args.getD (Int.toNat 1) default).Args)) fun r23=>.k r23) .d) .d) (.k 333)) (.k 333))))))))
def zd1 (zt:estimator→Scalar→Bool×Int) (x_:estimator) (e:Scalar):Bool×Int:=(zhO zt x_ e).fin default
theorem zoq (zt:estimator→Scalar→Bool×Int) (zrf:Sound Tryz.prog base 46 (zdV zt)):Sound Tryz.prog base 46 (zdV (zd1 zt)):=
 zy (cx':=(zqt zt)) zG zr zC (zA ⟨zrf,zkk,zhC,zm8,trivial⟩) Tryz.call46 Tryz.func46 (c:=body Tryz.f46) (by kernel_rfl) (zi (l:=[]) (by kernel_rfl) trivial) (sg:=⟨[.pure],[]⟩) (A:=zlt) (res:=zkM) (W:=fun x=>zhO zt x.1 x.2.1) (z:=default)
def zD5:Nat→(estimator→Scalar→Bool×Int)
 | 0=>fun _ _=>(false,default)
 | n+1=>zd1 (zD5 n)
def zcN (n:Nat):estimator→Scalar→Bool×Int:=zD5 n
theorem zq2 (n:Nat):zcN (n+1)=zd1 (zcN n):=rfl
theorem zBG:∀ n,Sound Tryz.prog base 46 (zdV (zcN n))
 | 0=>zbi Tryz.call46 (fun _=>rfl)
 | n+1=>by
  have ih:=zBG n
  exact zoq _ (ih)
def zi4:estimator→Scalar→Bool×Int:=zcN 1000
def statistics_estimator_cond_spec:Ab.Spec ty:=zdV zi4
theorem zqe:Sound Tryz.prog base 46 statistics_estimator_cond_spec:=(zBG 1000)
def ztP:Cx ty:=mkCx base 12 [(15,zg0),(46,statistics_estimator_cond_spec)] [] [] [] [] []
def zjD (s:Stats) (cond:Scalar):Wy0 (Int):=.bn (zgX s) fun r1=>.i (!r1) (.k 0) (.bn (zi4 (estimator.mk s) (Scalar.mk cond.Kind cond.Column cond.Value cond.Op cond.Args)) fun r0=>.k r0)
def zbf (s:Stats) (cond:Scalar):Bool×Int:=(zjD s cond).fin default
def zmo (r:Int):ARes ty:=⟨[.pure (.lit (.int .i64 r))],[]⟩
def znn:AL base (Stats×Scalar×Unit):=zf (zg (vAgg 30)) (zf (zg (vAgg 47)) aNil)
def zir:Ab.Spec ty:=zn znn fun x=>((zbf x.1 x.2.1).1,zmo (zbf x.1 x.2.1).2)
theorem zk7:Sound Tryz.prog base 19 zir:=
 zy (cx':=ztP) zG zr zC (zA ⟨zh8,zqe,trivial⟩) Tryz.call19 Tryz.func19 (c:=body Tryz.f19) (by kernel_rfl) (zi (l:=[]) (by kernel_rfl) trivial) (sg:=⟨[.pure],[]⟩) (A:=znn) (res:=zmo) (W:=fun x=>zjD x.1 x.2.1) (z:=default)
abbrev ttTlaw37awake0:=Unit×Unit×Int×Int×Unit
abbrev ttTlaw37awake1:=(Int×ByteArray×Unit×Unit×Unit)×List Int×List Column×List Row×Unit
abbrev ttTlaw37awake2:=Int×ByteArray×List Column×List Row
def zCh (t10:Int) (t11:Int) (t_0:Int) (t_1:ByteArray) (t9:List Int) (b2:List Column) (b3:List Row):Wy ttTlaw37awake0 ttTlaw37awake1 ttTlaw37awake2:=.i (decide (t11<t10)) (.i (decide (0≤t11)&&decide (t11<Int.ofNat t9.length)) (.i (decide ((b3.length+[Row.mk [(zpa (t9.getD t11.toNat default)).2] []].length)*48≤zdv)) (.h ((),(),t10,(IntKind.i64.wrap (t11+1)),()) ((t_0,t_1,(),(),()),t9,b2,(b3++[Row.mk [(zpa (t9.getD t11.toNat default)).2] []]),())) .d) .d) (.k (t_0,t_1,b2,b3))
def zwx (x:ttTlaw37awake0) (y:ttTlaw37awake1):Wy ttTlaw37awake0 ttTlaw37awake1 ttTlaw37awake2:=zCh x.2.2.1 x.2.2.2.1 y.1.1 y.1.2.1 y.2.1 y.2.2.1 y.2.2.2.1
def zvB (r:ttTlaw37awake2):LTree ty:=.done (.exit 0) [.ptr 368 0] [.box ([.lit (.int .i64 r.1),.lit (.string r.2.1),.own 369,.own 370]) false,.arr 67 r.2.2.1 false,.arr 38 r.2.2.2 false]
def zwM:LL ty ttTlaw37awake0:=za (zcS 368 0) (za (lOwn 369) (za (lInt .i64) (za (lInt .i64) zF)))
def zwq:BL ty ttTlaw37awake1:=bBox (za (lInt .i64) (za lStr (za (lOwn 370) (za (lOwn 371) zF)))) false (bArr 2 false (bArr 67 false (bArr 38 false (bNil))))
def zvq (x:ttTlaw37awake0) (y:ttTlaw37awake1):Nat:=(Int.toNat x.2.2.1+Int.toNat x.2.2.2.1+Int.toNat y.1.1+y.1.2.1.size+y.2.1.length+y.2.2.1.length+y.2.2.2.1.length+1000)
def zxm:Cx ty:=mkCx base0 92 [(12,zoG),(15,zg0),(19,zir),(21,znq),(24,zoW),(32,zsA),(33,zvi)] [] [(3,[(1,.boxOwn [(3,38)]),(9,.keep),(10,.keep),(11,.keep)])] [(3,1,[(1,.keep)])] [(3,spW zwM zwq (zwx) default zvB zvq)] []
theorem zB2:z8 zxm (lp (body Tryz.f10) 0):=zQ (id:=3) (V:=zwM) (B:=zwq) (W:=zwx) (z:=default) (tr:=zvB) (m:=zvq)
def zyw:Wy0 (Bool):=.k true
def zAp:Bool×Bool:=(zyw).fin default
def zvn (r:Bool):ARes ty:=⟨[.pure (.lit (.bool r))],[]⟩
def zye:AL base0 (Unit):=aNil
def zuu:Ab.Spec ty:=zn zye fun x=>((zAp ).1,zvn (zAp ).2)
theorem zzV:Sound Tryz.prog base0 10 zuu:=
 zy (cx':=zxm) zG zrK zC (zA ⟨zuV.nodr,zh8.nodr,zk7.nodr,zrp.nodr,zuW,zyI.nodr,zAV.nodr,trivial⟩) Tryz.call10 Tryz.func10 (c:=body Tryz.f10) (by kernel_rfl) (zi (l:=[lp (body Tryz.f10) 0]) (by kernel_rfl) ⟨zB2,trivial⟩) (sg:=⟨[.pure],[]⟩) (A:=zye) (res:=zvn) (W:=fun x=>zyw ) (z:=default)
abbrev ttTref01Short0:=List Value×Int×Int×Unit
abbrev ttTref01Short1:=Bool⊕(List Value×Int)
def zrI (l:List Value) (n_:Int) (i:Int):Wy ttTref01Short0 (Unit) ttTref01Short1:=.i (decide (i<Int.ofNat l.length)) (.i (decide (0≤i)&&decide (i<Int.ofNat l.length)) (.i (decide (Int.ofNat (l.getD i.toNat default).Text.size>300)) (.k (.inl false)) (.h (l,n_,(IntKind.i64.wrap (i+1)),()) ())) .d) (.k (.inr (l,n_)))
def zrO (x:ttTref01Short0) (y:Unit):Wy ttTref01Short0 (Unit) ttTref01Short1:=zrI x.1 x.2.1 x.2.2.1
def zrF (n:Nat) (l:List Value) (n_:Int) (i:Int):Bool×ttTref01Short1:=zba (zrO) (.inl default) n (l,n_,i,()) ()
def zvw (r:ttTref01Short1):LTree ty:=.ite (isL r) (.done .ret [.lit (.bool (getL r))] []) (.done (.exit 0) [.sl 40 (getR r).1,.lit (.int .i64 (getR r).2)] [])
def zwY:LL ty ttTref01Short0:=za (lSl 40) (za (lInt .i64) (za (lInt .i64) zF))
def zwX:BL ty (Unit):=bNil
def zvh (x:ttTref01Short0) (y:Unit):Nat:=(x.1.length+Int.toNat x.2.1+Int.toNat x.2.2.1+1)
def zxo:Cx ty:=mkCx base 23 [] [] [(2,[(0,.keep),(1,.keep),(5,.keep)])] [(2,1,[(0,.keep),(1,.keep)]),(2,0,[(4,.keep)])] [(2,spW zwY zwX (zrO) (.inl default) zvw zvh)] []
theorem zBk:z8 zxo (lp (body Tryz.f27) 0):=zQ (id:=2) (V:=zwY) (B:=zwX) (W:=zrO) (z:=.inl default) (tr:=zvw) (m:=zvh)
def ztd (l:List Value) (n_:Int):Wy0 (Bool):=.bn (zrF (l.length+n_.toNat +Int.toNat 0+1) l n_ 0) fun r0=>.i (isL r0) (.k (getL r0)) (.k (decide (Int.ofNat (getR r0).1.length≤(getR r0).2)))
def zmv (l:List Value) (n_:Int):Bool×Bool:=(ztd l n_).fin default
def zvu (r:Bool):ARes ty:=⟨[.pure (.lit (.bool r))],[]⟩
def zyh:AL base (List Value×Int×Unit):=zf (zg (vSl 40)) (zf (zg (vInt .i64)) aNil)
def zup:Ab.Spec ty:=zn zyh fun x=>((zmv x.1 x.2.1).1,zvu (zmv x.1 x.2.1).2)
theorem zzW:Sound Tryz.prog base 27 zup:=
 zy (cx':=zxo) zG zr zC (zA trivial) Tryz.call27 Tryz.func27 (c:=body Tryz.f27) (by kernel_rfl) (zi (l:=[lp (body Tryz.f27) 0]) (by kernel_rfl) ⟨zBk,trivial⟩) (sg:=⟨[.pure],[]⟩) (A:=zyh) (res:=zvu) (W:=fun x=>ztd x.1 x.2.1) (z:=default)
abbrev ttTref37Few0:=Unit×Int×Unit
def zut (i:Int) (s:Stats):Wy ttTref37Few0 (Stats×Unit) (Bool⊕Stats):=.i (decide (i<Int.ofNat s.Columns.length)) (.i (decide (0≤i)&&decide (i<Int.ofNat s.Columns.length)) (.bn (zmv (s.Columns.getD i.toNat default).Bounds 20) fun r0=>.i (!r0) (.k (.inl false)) (.i (decide (0≤i)&&decide (i<Int.ofNat s.Columns.length)) (.i (decide (0≤i)&&decide (i<Int.ofNat s.Columns.length)) (.i (decide (IntKind.i64.wrap (Int.ofNat (s.Columns.getD i.toNat default).Min.Text.size+Int.ofNat (s.Columns.getD i.toNat default).Max.Text.size)>600)) (.k (.inl false)) (.h ((),(IntKind.i64.wrap (i+1)),()) (s,()))) .d) .d)) .d) (.k (.inr s))
def zuJ (x:ttTref37Few0) (y:Stats×Unit):Wy ttTref37Few0 (Stats×Unit) (Bool⊕Stats):=zut x.2.1 y.1
def zuf (n:Nat) (i:Int) (s:Stats):Bool×(Bool⊕Stats):=zba (zuJ) (.inl default) n ((),i,()) (s,())
def zyg (r:Bool⊕Stats):LTree ty:=.ite (isL r) (.done .ret [.lit (.bool (getL r))] []) (.done (.exit 0) [.ptr 172 0] [.box (base.enc 30 (getR r)) false])
def zzb:LL ty ttTref37Few0:=za (zcS 172 0) (za (lInt .i64) zF)
def zyY:BL ty (Stats×Unit):=bBox (zfM (fun x=>(⟨x.1,x.2.1,x.2.2.1⟩:Stats)) (fun x=>(x.Table,x.Rows,x.Columns,())) (fun _=>rfl) (za (lInt .i64) (za (lInt .i64) (za (lSl 43) zF)))) false (bNil)
def zyx (x:ttTref37Few0) (y:Stats×Unit):Nat:=(Int.toNat x.2.1+y.1.Columns.length+1)
def zzd:Cx ty:=mkCx base 43 [(27,zup)] [] [(2,[(1,.keep),(3,.keep)])] [(2,1,[(1,.keep)]),(2,0,[(2,.keep)])] [(2,spW zzb zyY (zuJ) (.inl default) zyg zyx)] []
theorem zCY:z8 zzd (lp (body Tryz.f17) 0):=zQ (id:=2) (V:=zzb) (B:=zyY) (W:=zuJ) (z:=.inl default) (tr:=zyg) (m:=zyx)
def zvW (s:Stats):Wy0 (Bool):=.bn (zuf (Int.toNat 0+s.Columns.length+1) 0 s) fun r2=>.i (isL r2) (.k (getL r2)) (.k (decide (Int.ofNat (getR r2).Columns.length≤20)))
def zsE (s:Stats):Bool×Bool:=(zvW s).fin default
def zyq (r:Bool):ARes ty:=⟨[.pure (.lit (.bool r))],[]⟩
def zAr:AL base (Stats×Unit):=zf (zg (vAgg 30)) aNil
def zxh:Ab.Spec ty:=zn zAr fun x=>((zsE x.1).1,zyq (zsE x.1).2)
theorem zBF:Sound Tryz.prog base 17 zxh:=
 zy (cx':=zzd) zG zr zC (zA ⟨zzW,trivial⟩) Tryz.call17 Tryz.func17 (c:=body Tryz.f17) (by kernel_rfl) (zi (l:=[lp (body Tryz.f17) 0]) (by kernel_rfl) ⟨zCY,trivial⟩) (sg:=⟨[.pure],[]⟩) (A:=zAr) (res:=zyq) (W:=fun x=>zvW x.1) (z:=default)
abbrev ttTlaw37StatisticsComplement0:=Unit×Unit×Unit×Unit×Int×Unit
abbrev ttTlaw37StatisticsComplement1:=Stats×Value×List Int×List Int×Unit
abbrev ttTlaw37StatisticsComplement2:=Unit×Unit×Unit
abbrev ttTlaw37StatisticsComplement3:=Stats×Value×Unit
abbrev ttTlaw37StatisticsComplement4:=Unit×Unit×Unit×Unit
abbrev ttTlaw37StatisticsComplement5:=Stats×Scalar×Value×Unit
def zhi (i:Int) (s:Stats) (v:Value) (pairs:List Int) (mirrored:List Int):Wy ttTlaw37StatisticsComplement0 ttTlaw37StatisticsComplement1 (Bool⊕Unit):=.i (decide (i<Int.ofNat pairs.length)) (.i (decide (0≤i)&&decide (i<Int.ofNat pairs.length)) (.i (decide (0≤i)&&decide (i<Int.ofNat mirrored.length)) (.bn (zbf s (Scalar.mk (zS (pairs.getD i.toNat default) v).2.Kind (zS (pairs.getD i.toNat default) v).2.Column (zS (pairs.getD i.toNat default) v).2.Value (zS (pairs.getD i.toNat default) v).2.Op (zS (pairs.getD i.toNat default) v).2.Args)) fun r3=>.bn (zbf s (Scalar.mk 2 0 (Value.mk 0 0 (ByteArray.mk #[])) (mirrored.getD i.toNat default) [Scalar.mk ((zS (pairs.getD i.toNat default) v).2.Args.getD (Int.toNat 1) default).Kind ((zS (pairs.getD i.toNat default) v).2.Args.getD (Int.toNat 1) default).Column ((zS (pairs.getD i.toNat default) v).2.Args.getD (Int.toNat 1) default).Value ((zS (pairs.getD i.toNat default) v).2.Args.getD (Int.toNat 1) default).Op ((zS (pairs.getD i.toNat default) v).2.Args.getD (Int.toNat 1) default).Args,Scalar.mk ((zS (pairs.getD i.toNat default) v).2.Args.getD (Int.toNat 0) default).Kind ((zS (pairs.getD i.toNat default) v).2.Args.getD (Int.toNat 0) default).Column ((zS (pairs.getD i.toNat default) v).2.Args.getD (Int.toNat 0) default).Value ((zS (pairs.getD i.toNat default) v).2.Args.getD (Int.toNat 0) default).Op ((zS (pairs.getD i.toNat default) v).2.Args.getD (Int.toNat 0) default).Args])) fun r2=>.i (r3 != r2) (.k (.inl false)) (.i (i.tmod (2:Int)==(1:Int)) (.bn (zbf s (Scalar.mk (zS (pairs.getD i.toNat default) v).2.Kind (zS (pairs.getD i.toNat default) v).2.Column (zS (pairs.getD i.toNat default) v).2.Value (zS (pairs.getD i.toNat default) v).2.Op (zS (pairs.getD i.toNat default) v).2.Args)) fun r1=>.i (decide (0≤IntKind.i64.wrap (i - 1))&&decide (IntKind.i64.wrap (i - 1)<Int.ofNat pairs.length)) (.bn (zbf s (Scalar.mk (zS (pairs.getD (IntKind.i64.wrap (i - 1)).toNat default) v).2.Kind (zS (pairs.getD (IntKind.i64.wrap (i - 1)).toNat default) v).2.Column (zS (pairs.getD (IntKind.i64.wrap (i - 1)).toNat default) v).2.Value (zS (pairs.getD (IntKind.i64.wrap (i - 1)).toNat default) v).2.Op (zS (pairs.getD (IntKind.i64.wrap (i - 1)).toNat default) v).2.Args)) fun r0=>.i (IntKind.i64.wrap (r1+r0) != 1000) (.k (.inl false)) (.h ((),(),(),(),(IntKind.i64.wrap (i+1)),()) (s,v,pairs,mirrored,()))) .d) (.h ((),(),(),(),(IntKind.i64.wrap (i+1)),()) (s,v,pairs,mirrored,())))) .d) .d) (.k (.inr ()))
def zeG (x:ttTlaw37StatisticsComplement0) (y:ttTlaw37StatisticsComplement1):Wy ttTlaw37StatisticsComplement0 ttTlaw37StatisticsComplement1 (Bool⊕Unit):=zhi x.2.2.2.2.1 y.1 y.2.1 y.2.2.1 y.2.2.2.1
def zda (n:Nat) (i:Int) (s:Stats) (v:Value) (pairs:List Int) (mirrored:List Int):Bool×(Bool⊕Unit):=zba (zeG) (.inl default) n ((),(),(),(),i,()) (s,v,pairs,mirrored,())
def zjL (r:Bool⊕Unit):LTree ty:=.ite (isL r) (.done .ret [.lit (.bool (getL r))] []) (.done (.exit 0) [] [])
def zj5:LL ty ttTlaw37StatisticsComplement0:=za (zcS 420 0) (za (zcS 421 0) (za (lOwn 422) (za (lOwn 423) (za (lInt .i64) zF))))
def zj7:BL ty ttTlaw37StatisticsComplement1:=bBox (zfM (fun x=>(⟨x.1,x.2.1,x.2.2.1⟩:Stats)) (fun x=>(x.Table,x.Rows,x.Columns,())) (fun _=>rfl) (za (lInt .i64) (za (lInt .i64) (za (lSl 43) zF)))) false (bBox (zfM (fun x=>(⟨x.1,x.2.1,x.2.2.1⟩:Value)) (fun x=>(x.Kind,x.Int,x.Text,())) (fun _=>rfl) (za (lInt .i64) (za (lInt .i64) (za lStr zF)))) false (bArr 3 false (bArr 3 false (bNil))))
def zhM (s:Stats) (v:Value):Wy ttTlaw37StatisticsComplement2 ttTlaw37StatisticsComplement3 (Bool):=.bn (zda (Int.toNat 0+s.Columns.length+[5,6,7,10,9,8].length+[5,6,9,8,7,10].length+1000) 0 s v [5,6,7,10,9,8] [5,6,9,8,7,10]) fun r8=>.i (isL r8) (.k (getL r8)) (.k true)
def zfb (x:ttTlaw37StatisticsComplement2) (y:ttTlaw37StatisticsComplement3):Wy ttTlaw37StatisticsComplement2 ttTlaw37StatisticsComplement3 (Bool):=zhM y.1 y.2.1
def zkx (n:Nat) (s:Stats) (v:Value):Bool×Bool:=zba (zfb) default n ((),(),()) (s,v,())
def zkb (r:Bool):LTree ty:=.done .ret [.lit (.bool r)] []
def zkz:LL ty ttTlaw37StatisticsComplement2:=za (zcS 420 0) (za (zcS 421 0) zF)
def zkA:BL ty ttTlaw37StatisticsComplement3:=bBox (zfM (fun x=>(⟨x.1,x.2.1,x.2.2.1⟩:Stats)) (fun x=>(x.Table,x.Rows,x.Columns,())) (fun _=>rfl) (za (lInt .i64) (za (lInt .i64) (za (lSl 43) zF)))) false (bBox (zfM (fun x=>(⟨x.1,x.2.1,x.2.2.1⟩:Value)) (fun x=>(x.Kind,x.Int,x.Text,())) (fun _=>rfl) (za (lInt .i64) (za (lInt .i64) (za lStr zF)))) false (bNil))
def zhJ (s:Stats) (cond:Scalar) (v:Value):Wy ttTlaw37StatisticsComplement4 ttTlaw37StatisticsComplement5 (Bool):=.bn (zbf s (Scalar.mk cond.Kind cond.Column cond.Value cond.Op cond.Args)) fun r12=>.bn (zbf s (Scalar.mk 2 0 (Value.mk 0 0 (ByteArray.mk #[])) 13 [Scalar.mk cond.Kind cond.Column cond.Value cond.Op cond.Args])) fun r11=>.i (IntKind.i64.wrap (r12+r11) != 1000) (.k false) (.bn (zkx 1 s v) fun r10=>.k r10)
def zfa (x:ttTlaw37StatisticsComplement4) (y:ttTlaw37StatisticsComplement5):Wy ttTlaw37StatisticsComplement4 ttTlaw37StatisticsComplement5 (Bool):=zhJ y.1 y.2.1 y.2.2.1
def zkE (n:Nat) (s:Stats) (cond:Scalar) (v:Value):Bool×Bool:=zba (zfa) default n ((),(),(),()) (s,cond,v,())
def zka (r:Bool):LTree ty:=.done .ret [.lit (.bool r)] []
def zkG:LL ty ttTlaw37StatisticsComplement4:=za (zcS 420 0) (za (zcS 421 0) (za (zcS 422 0) zF))
def zkJ:BL ty ttTlaw37StatisticsComplement5:=bBox (zfM (fun x=>(⟨x.1,x.2.1,x.2.2.1⟩:Stats)) (fun x=>(x.Table,x.Rows,x.Columns,())) (fun _=>rfl) (za (lInt .i64) (za (lInt .i64) (za (lSl 43) zF)))) false (bBox (zfM (fun x=>(⟨x.1,x.2.1,⟨x.2.2.1,x.2.2.2.1,x.2.2.2.2.1⟩,x.2.2.2.2.2.1,x.2.2.2.2.2.2.1⟩:Scalar)) (fun x=>(x.Kind,x.Column,x.Value.Kind,x.Value.Int,x.Value.Text,x.Op,x.Args,())) (fun _=>rfl) (za (lInt .i64) (za (lInt .i64) (za (lInt .i64) (za (lInt .i64) (za lStr (za (lInt .i64) (za (lSl 47) zF)))))))) false (bBox (zfM (fun x=>(⟨x.1,x.2.1,x.2.2.1⟩:Value)) (fun x=>(x.Kind,x.Int,x.Text,())) (fun _=>rfl) (za (lInt .i64) (za (lInt .i64) (za lStr zF)))) false (bNil)))
def zhH (s:Stats) (cond:Scalar) (v:Value):Wy ttTlaw37StatisticsComplement4 ttTlaw37StatisticsComplement5 (Bool):=.bn (zsE s) fun r19=>.i (!r19) (.k true) (.bn (zzr (Scalar.mk cond.Kind cond.Column cond.Value cond.Op cond.Args) 30) fun r18=>.i (!r18) (.k true) (.i (decide (Int.ofNat v.Text.size>300)) (.k true) (.bn (zgX s) fun r17=>.i (!r17) (.k true) (.i (Int.ofNat s.Columns.length==0) (.k true) (.bn (zkE 1 s (Scalar.mk cond.Kind cond.Column cond.Value cond.Op cond.Args) v) fun r16=>.k r16)))))
def ze9 (x:ttTlaw37StatisticsComplement4) (y:ttTlaw37StatisticsComplement5):Wy ttTlaw37StatisticsComplement4 ttTlaw37StatisticsComplement5 (Bool):=zhH y.1 y.2.1 y.2.2.1
def zkD (n:Nat) (s:Stats) (cond:Scalar) (v:Value):Bool×Bool:=zba (ze9) default n ((),(),(),()) (s,cond,v,())
def zkd (r:Bool):LTree ty:=.done .ret [.lit (.bool r)] []
def zkC:LL ty ttTlaw37StatisticsComplement4:=za (zcS 420 0) (za (zcS 421 0) (za (zcS 422 0) zF))
def zkK:BL ty ttTlaw37StatisticsComplement5:=bBox (zfM (fun x=>(⟨x.1,x.2.1,x.2.2.1⟩:Stats)) (fun x=>(x.Table,x.Rows,x.Columns,())) (fun _=>rfl) (za (lInt .i64) (za (lInt .i64) (za (lSl 43) zF)))) false (bBox (zfM (fun x=>(⟨x.1,x.2.1,⟨x.2.2.1,x.2.2.2.1,x.2.2.2.2.1⟩,x.2.2.2.2.2.1,x.2.2.2.2.2.2.1⟩:Scalar)) (fun x=>(x.Kind,x.Column,x.Value.Kind,x.Value.Int,x.Value.Text,x.Op,x.Args,())) (fun _=>rfl) (za (lInt .i64) (za (lInt .i64) (za (lInt .i64) (za (lInt .i64) (za lStr (za (lInt .i64) (za (lSl 47) zF)))))))) false (bBox (zfM (fun x=>(⟨x.1,x.2.1,x.2.2.1⟩:Value)) (fun x=>(x.Kind,x.Int,x.Text,())) (fun _=>rfl) (za (lInt .i64) (za (lInt .i64) (za lStr zF)))) false (bNil)))
def zjM (x:ttTlaw37StatisticsComplement0) (y:ttTlaw37StatisticsComplement1):Nat:=(Int.toNat x.2.2.2.2.1+y.1.Columns.length+y.2.2.1.length+y.2.2.2.1.length+1000)
def zdf:Cx ty:=zFe base0 105 [(10,zuu),(15,zg0),(17,zxh),(18,ref26_Few_spec),(19,zir),(21,znq)] [] [(11,[(3,.keep),(5,.keep),(8,.keep),(9,.keep),(10,.keep)]),(3,[(3,.keep),(4,.keep),(5,.keep)]),(5,[(3,.keep),(4,.keep),(5,.keep)]),(8,[(3,.keep),(5,.keep)])] [(11,1,[]),(11,0,[(6,.keep)]),(3,0,[(6,.keep)]),(5,0,[(6,.keep)]),(8,0,[(6,.keep)])] [(11,spW zj5 zj7 (zeG) (.inl default) zjL zjM)] [] [(8,spW zkz zkA (zfb) default zkb fun x y=>(1)),(5,spW zkG zkJ (zfa) default zka fun x y=>(1)),(3,spW zkC zkK (ze9) default zkd fun x y=>(1))]
theorem zqd:z8 zdf (lp (body Tryz.f7) 0):=zQ (id:=11) (V:=zj5) (B:=zj7) (W:=zeG) (z:=.inl default) (tr:=zjL) (m:=zjM)
theorem zq7:zwm zdf (jn (body Tryz.f7) 8):=zAH (id:=8) (V:=zkz) (B:=zkA) (W:=zfb) (z:=default) (tr:=zkb) (m:=fun x y=>(1))
theorem zqA:zwm zdf (jn (body Tryz.f7) 5):=zAH (id:=5) (V:=zkG) (B:=zkJ) (W:=zfa) (z:=default) (tr:=zka) (m:=fun x y=>(1))
theorem zqr:zwm zdf (jn (body Tryz.f7) 3):=zAH (id:=3) (V:=zkC) (B:=zkK) (W:=ze9) (z:=default) (tr:=zkd) (m:=fun x y=>(1))
def zh4 (s:Stats) (cond:Scalar) (v:Value):Wy0 (Bool):=.bn (zkD 1 s (Scalar.mk cond.Kind cond.Column cond.Value cond.Op cond.Args) v) fun r24=>.k r24
def zc0 (s:Stats) (cond:Scalar) (v:Value):Bool×Bool:=(zh4 s cond v).fin default
def zho (r:Bool):ARes ty:=⟨[.pure (.lit (.bool r))],[]⟩
def zlb:AL base0 ttTlaw37StatisticsComplement5:=zf (zg (vAgg 30)) (zf (zg (vAgg 47)) (zf (zg (vAgg 40)) aNil))
def zha:Ab.Spec ty:=zn zlb fun x=>((zc0 x.1 x.2.1 x.2.2.1).1,zho (zc0 x.1 x.2.1 x.2.2.1).2)
theorem zpf:Sound Tryz.prog base0 7 zha:=
 zy (cx':=zdf) zG zrK zHF (zGt ⟨zzV,zh8.nodr,zBF.nodr,zBZ.nodr,zk7.nodr,zrp.nodr,trivial⟩) Tryz.call7 Tryz.func7 (c:=body Tryz.f7) (by kernel_rfl) (zC4 (l:=[lp (body Tryz.f7) 0]) (by kernel_rfl) ⟨zqd,trivial⟩ (js:=[jn (body Tryz.f7) 3,jn (body Tryz.f7) 5,jn (body Tryz.f7) 8]) (by kernel_rfl) ⟨zqr,zqA,zq7,trivial⟩) (sg:=⟨[.pure],[]⟩) (A:=zlb) (res:=zho) (W:=fun x=>zh4 x.1 x.2.1 x.2.2.1) (z:=default)
def trV (v:Value):TT:=.l [.i v.Kind,.i v.Int,trB v.Text]
mutual
def zBv:Atom→TT
 | ⟨k,r,a,f,i,o,b⟩=>.l [.i k,.i r.Table,.i r.Seq,.l (zuh a),.i f,.l (zrQ i),.i o,trV b]
def zxP:Factor→TT
 | ⟨x,e⟩=>.l [zBv x,.i e]
def znp:List Factor→List TT
 | []=>[]
 | x::r=>zxP x::znp r
def zBo:Term→TT
 | ⟨c,fs⟩=>.l [.l (znp fs),.i c]
def zvs:List Term→List TT
 | []=>[]
 | x::r=>zBo x::zvs r
def zuh:List (List Term)→List TT
 | []=>[]
 | x::r=>.l (zvs x)::zuh r
def zA4:Weighted→TT
 | ⟨v,a⟩=>.l [trV v,.l (zvs a)]
def zrQ:List Weighted→List TT
 | []=>[]
 | x::r=>zA4 x::zrQ r
end
theorem ztf:∀ a b:List UInt8,(a.map fun x=>TT.i (x.toNat:Int))=(b.map fun x=>TT.i (x.toNat:Int))→a=b
 | [],[]=>fun _=>rfl
 | [],_::_=>fun h=>by simp at h
 | _::_,[]=>fun h=>by simp at h
 | x::a,y::b=>fun h=>by
  simp only [List.map,List.cons.injEq,TT.i.injEq] at h
  rw [ztf a b h.2,UInt8.toNat_inj.1 (Int.ofNat.inj h.1)]
theorem zED {a b:Value} (h:trV a=trV b):a=b:=by
 obtain ⟨k,n,s⟩:=a; obtain ⟨k',n',s'⟩:=b
 simp only [trV,trB,TT.l.injEq,List.cons.injEq,TT.i.injEq,and_true] at h
 obtain ⟨rfl,rfl,h⟩:=h
 have:=ztf _ _ h
 obtain ⟨⟨l⟩⟩:=s; obtain ⟨⟨l'⟩⟩:=s'
 simp only at this; subst this; rfl
mutual
theorem zFc:∀ a b:Atom,zBv a=zBv b→a=b
 | ⟨k,r,a,f,i,o,v⟩,⟨k',r',a',f',i',o',v'⟩=>fun h=>by
  simp only [zBv,TT.l.injEq,List.cons.injEq,TT.i.injEq,and_true] at h
  obtain ⟨rfl,h1,h2,h3,rfl,h4,rfl,h5⟩:=h
  obtain ⟨t,s⟩:=r; obtain ⟨t',s'⟩:=r'
  simp only at h1 h2; subst h1 h2
  rw [zBy a a' h3,zz7 i i' h4,zED h5]
theorem zDD:∀ a b:Factor,zxP a=zxP b→a=b
 | ⟨x,e⟩,⟨x',e'⟩=>fun h=>by
  simp only [zxP,TT.l.injEq,List.cons.injEq,TT.i.injEq,and_true] at h
  rw [zFc x x' h.1,h.2]
theorem zyu:∀ a b:List Factor,znp a=znp b→a=b
 | [],[]=>fun _=>rfl
 | [],_::_=>fun h=>by simp [znp] at h
 | _::_,[]=>fun h=>by simp [znp] at h
 | x::a,y::b=>fun h=>by
  simp only [znp,List.cons.injEq] at h
  rw [zDD x y h.1,zyu a b h.2]
theorem zFl:∀ a b:Term,zBo a=zBo b→a=b
 | ⟨c,l⟩,⟨c',l'⟩=>fun h=>by
  simp only [zBo,TT.l.injEq,List.cons.injEq,TT.i.injEq,and_true] at h
  rw [zyu l l' h.1,h.2]
theorem zzf:∀ a b:List Term,zvs a=zvs b→a=b
 | [],[]=>fun _=>rfl
 | [],_::_=>fun h=>by simp [zvs] at h
 | _::_,[]=>fun h=>by simp [zvs] at h
 | x::a,y::b=>fun h=>by
  simp only [zvs,List.cons.injEq] at h
  rw [zFl x y h.1,zzf a b h.2]
theorem zBy:∀ a b:List (List Term),zuh a=zuh b→a=b
 | [],[]=>fun _=>rfl
 | [],_::_=>fun h=>by simp [zuh] at h
 | _::_,[]=>fun h=>by simp [zuh] at h
 | x::a,y::b=>fun h=>by
  simp only [zuh,List.cons.injEq,TT.l.injEq] at h
  rw [zzf x y h.1,zBy a b h.2]
theorem zFp:∀ a b:Weighted,zA4 a=zA4 b→a=b
 | ⟨c,l⟩,⟨c',l'⟩=>fun h=>by
  simp only [zA4,TT.l.injEq,List.cons.injEq,and_true] at h
  rw [zED h.1,zzf l l' h.2]
theorem zz7:∀ a b:List Weighted,zrQ a=zrQ b→a=b
 | [],[]=>fun _=>rfl
 | [],_::_=>fun h=>by simp [zrQ] at h
 | _::_,[]=>fun h=>by simp [zrQ] at h
 | x::a,y::b=>fun h=>by
  simp only [zrQ,List.cons.injEq] at h
  rw [zFp x y h.1,zz7 a b h.2]
end
def zxt (P:List Term→Prop) (x:Atom):Prop:=
 (x.Args.length≤1000000∧x.Items.length≤1000000∧x.Bound.Text.size≤1000000000000)∧(∀ a∈x.Args,P a)∧∀ w∈x.Items,w.Value.Text.size≤1000000000000∧P w.Ann
def zEh (P:List Term→Prop) (l:List Factor):Prop:=l.length≤1000000∧∀ f∈l,zxt P f.Atom
def znE:Nat→List Term→Prop
 | 0,_=>False
 | n+1,a=>a.length≤1000000∧∀ t∈a,zEh (znE n) t.Factors
theorem zxt.imp {P Q:List Term→Prop} (h:∀ a,P a→Q a) {x:Atom} (hx:zxt P x):zxt Q x:=⟨hx.1,fun a ha=>h a (hx.2.1 a ha),fun w hw=>⟨(hx.2.2 w hw).1,h _ (hx.2.2 w hw).2⟩⟩
theorem znE.succ:∀ (n:Nat) (a:List Term),znE n a→znE (n+1) a
 | 0,_,h=>h.elim
 | n+1,a,h=>⟨h.1,fun t ht=>⟨(h.2 t ht).1,fun f hf=>((h.2 t ht).2 f hf).imp (znE.succ n)⟩⟩
theorem znE.mono {n m:Nat} {a:List Term} (h:znE n a) (hm:n≤m):znE m a:=by
 obtain ⟨k,rfl⟩:=Nat.exists_eq_add_of_le hm
 clear hm
 induction k with
 | zero=>exact h
 | succ k ih=>exact znE.succ _ _ ih
end Go.Proofs.YtddkaehkimnklaaGreatDoor
end
