/- Texts of this claim, joined (the program, its functions in plain words, and what they compute). -/
import Derived.Test.YtljlfiomikifjaaGreatDoorGC3
set_option autoImplicit false
set_option linter.unusedVariables false
set_option linter.unusedSectionVars false
set_option linter.unusedSimpArgs false
set_option maxRecDepth 1000000
set_option maxHeartbeats 0
noncomputable section
namespace Go.Proofs.YtljlfiomikifjaaGreatDoor
open Go Go.Ab
open Go.Proofs Go.RowKit
def zcx (x:yE) (m:Int):Bool×yE:=(decide (SortOK zbd x)&&(decide (m=x.length)&&decide (m<20)),ziu zbd x)
def zmg:Ab.Spec ty:=zh (cx:=base) (zd (aOwn 100) (zd (ze (vInt .i64)) (zd (ze (vFn 124 vNil)) aNil))) fun x=>((zcx x.1 x.2.1).1,⟨[],[some ⟨100,(zcx x.1 x.2.1).2⟩]⟩)
set_option maxHeartbeats 1000000 in
theorem zxV:SdP 262 zmg where
 enters:=Tryz.call262
 calls:=fun avs r hsp w F vs hF ha hsep=>by
  unfold zmg zh at hsp;split at hsp
  ·rename_i x hx;simp only [qa,qb] at hsp;obtain ⟨hpre,rfl⟩:=hsp;have hk:=(zd (aOwn 100) (zd (ze (vInt .i64)) (zd (ze (vFn 124 vNil)) aNil)):AL base _).kind vs avs x hx;have ha':=(zd (aOwn 100) (zd (ze (vInt .i64)) (zd (ze (vFn 124 vNil)) aNil)):AL base _).ok Tryz.prog zi F w vs avs x hx ha;rw [hk] at hsep ⊢;clear hk hx ha;obtain ⟨l0,m,c,u0⟩:=x;obtain ⟨l,rfl⟩:∃ l:yE,l=l0:=⟨l0,rfl⟩;obtain ⟨v,vs',rfl,hv,hv'⟩:=ha'.inv;obtain ⟨mv,vs1,rfl,hm,hv1⟩:=hv'.inv;obtain ⟨fv,vs'',rfl,hfv,h0⟩:=hv1.inv;obtain rfl:=h0.nil_left.1;have hm:Rep base F w mv (.lit (.int .i64 m)):=hm;obtain rfl:mv=.int .i64 m:=by cases hm; rfl
   have hsl:∃ p cap,v=.slice p l.length cap:=by
    obtain ⟨⟨xs,hown,_⟩,_⟩:=(show zcS base F w v 100 l∧∀ b,zbf v=some b→¬ F b from hv)
    rcases hown.2 with ⟨h1,h2⟩ | ⟨g0,cap,cur,h1,_⟩
    ·exact ⟨none,0,by rw [h1,show l.length=0 from h2]⟩
    ·exact ⟨_,cap,h1⟩
   have hpre:(decide (SortOK (α:=Weighted) zbd l)&&(decide (m=l.length)&&decide (m<20)))=true:=hpre;simp only [qc,qe] at hpre;obtain ⟨hok,rfl,h20⟩:=hpre
   have hpp:(zga l 0 (l.length:Int)).1=true:=by
    show (decide (SortOK (α:=Weighted) zbd l)&&(decide ((0:Int)=0)&&decide ((l.length:Int)=l.length)))=true;simp only [qc,qe];exact ⟨hok,trivial,trivial⟩
   have hp:=(zsK).calls [.own 100 l,.pure (.lit (.int .i64 0)),.pure (.lit (.int .i64 (l.length:Int))),.pure (.fn 124 [])] ⟨[],[some ⟨100,(zcx l (l.length:Int)).2⟩]⟩
    (by rw [← hpp]; kernel_rfl) w F [v,.int .i64 0,.int .i64 (l.length:Int),fv] hF (.cons hv (.cons (Rep.lit _) (.cons (Rep.lit _) (.cons hfv .nil)))) hsep
   replace hp:Calls Tryz.prog 281 #[v,.int .i64 0,.int .i64 (l.length:Int),fv] w fun e w'=>∃ u,e=.returned u∧Post base F w [v] ⟨[],[some ⟨100,(zcx l (l.length:Int)).2⟩]⟩ u w':=hp
   show Calls Tryz.prog 262 #[v,.int .i64 (l.length:Int),fv] w fun e w'=>∃ u,e=.returned u∧Post base F w [v] ⟨[],[some ⟨100,(zcx l (l.length:Int)).2⟩]⟩ u w'
   generalize (zcx l (l.length:Int)).2=res at hp ⊢;generalize hn:l.length=m at *;clear hpp hv hfv hsep hok hF hm;obtain ⟨p,cap,rfl⟩:=hsl;clear hn
   go_enter Tryz.func262,Tryz.ntmps262
   go_wp2
   refine wp_loop_rounds 1 ?_;rw [rounds_succ]
   go_wp2_with (go_at_call 281; refine hp.mono ?_; rintro e w' ⟨u,rfl,hpost⟩; obtain rfl:=hpost.unit)
   refine wp_loop_rounds 1 ?_;rw [rounds_succ]
   go_wp2
   all_goals first | (exfalso; omega) | (go_end0; exact ⟨_,rfl,hpost⟩)
  ·cases hsp
end Go.Proofs.YtljlfiomikifjaaGreatDoor
namespace Go.Proofs.YtljlfiomikifjaaGreatDoor
open Go Go.Ab
open Go.Proofs Go.RowKit
def zbl (x:yE):Bool×yE:=(decide (SortOK zbd x)&&decide (x.length<20),ziu zbd x)
def zd4:Ab.Spec ty:=zh (cx:=base) (zd (aOwn 100) (zd (ze (vFn 124 vNil)) aNil)) fun x=>((zbl x.1).1,⟨[],[some ⟨100,(zbl x.1).2⟩]⟩)
set_option maxHeartbeats 1000000 in
theorem znj:SdP 242 zd4 where
 enters:=Tryz.call242
 calls:=fun avs r hsp w F vs hF ha hsep=>by
  unfold zd4 zh at hsp;split at hsp
  ·rename_i x hx;simp only [qa,qb] at hsp;obtain ⟨hpre,rfl⟩:=hsp;have hk:=(zd (aOwn 100) (zd (ze (vFn 124 vNil)) aNil):AL base _).kind vs avs x hx;have ha':=(zd (aOwn 100) (zd (ze (vFn 124 vNil)) aNil):AL base _).ok Tryz.prog zi F w vs avs x hx ha;rw [hk] at hsep ⊢;clear hk hx ha;obtain ⟨l0,c,u0⟩:=x;obtain ⟨l,rfl⟩:∃ l:yE,l=l0:=⟨l0,rfl⟩;obtain ⟨v,vs',rfl,hv,hv'⟩:=ha'.inv;obtain ⟨fv,vs'',rfl,hfv,h0⟩:=hv'.inv;obtain rfl:=h0.nil_left.1
   have hsl:∃ p cap,v=.slice p l.length cap:=by
    obtain ⟨⟨xs,hown,_⟩,_⟩:=(show zcS base F w v 100 l∧∀ b,zbf v=some b→¬ F b from hv)
    rcases hown.2 with ⟨h1,h2⟩ | ⟨g0,cap,cur,h1,_⟩
    ·exact ⟨none,0,by rw [h1,show l.length=0 from h2]⟩
    ·exact ⟨_,cap,h1⟩
   have hpre:(decide (SortOK (α:=Weighted) zbd l)&&decide (l.length<20))=true:=hpre;simp only [qc,qe] at hpre;obtain ⟨hok,h20⟩:=hpre
   have hpp:(zcx l (l.length:Int)).1=true:=by
    show (decide (SortOK (α:=Weighted) zbd l)&&(decide ((l.length:Int)=l.length)&&decide ((l.length:Int)<20)))=true;simp only [qc,qe];exact ⟨hok,trivial,by omega⟩
   have hp:=(zxV).calls [.own 100 l,.pure (.lit (.int .i64 (l.length:Int))),.pure (.fn 124 [])] ⟨[],[some ⟨100,(zbl l).2⟩]⟩
    (by rw [← hpp]; kernel_rfl) w F [v,.int .i64 (l.length:Int),fv] hF (.cons hv (.cons (Rep.lit _) (.cons hfv .nil))) hsep
   replace hp:Calls Tryz.prog 262 #[v,.int .i64 (l.length:Int),fv] w fun e w'=>∃ u,e=.returned u∧Post base F w [v] ⟨[],[some ⟨100,(zbl l).2⟩]⟩ u w':=hp
   show Calls Tryz.prog 242 #[v,fv] w fun e w'=>∃ u,e=.returned u∧Post base F w [v] ⟨[],[some ⟨100,(zbl l).2⟩]⟩ u w'
   generalize (zbl l).2=res at hp ⊢;generalize hn:l.length=m at *;clear hpp hv hfv hsep hok hF;obtain ⟨p,cap,rfl⟩:=hsl;clear hn
   go_enter Tryz.func242,Tryz.ntmps242
   go_wp2_with (go_at_call 262; refine hp.mono ?_; rintro e w' ⟨u,rfl,hpost⟩; obtain rfl:=hpost.unit)
   go_end0
   exact ⟨_,rfl,hpost⟩
  ·cases hsp
end Go.Proofs.YtljlfiomikifjaaGreatDoor
namespace Go.Proofs.YtljlfiomikifjaaGreatDoor
open Go Go.Ab
abbrev zmn:=Unit×yE×Int×Int×Unit
abbrev zjv:=yE×Unit
def zmt (t6:yE) (t7:Int) (t8:Int) (out_:yE):Wy zmn zjv (yE):=.i (decide (t8<t7)) (.i (decide (0≤t8)&&decide (t8<Int.ofNat t6.length)) (.i (decide (Int.ofNat (t6.getD t8.toNat default).Ann.length>0)) (.bn (zgK (t6.getD t8.toNat default).Ann) fun r0=>.i (decide ((out_.length+[WeightedOf.mk (t6.getD t8.toNat default).Value r0].length)*56≤reach)) (.h ((),t6,t7,(IntKind.i64.wrap (t8+1)),()) ((out_++[WeightedOf.mk (t6.getD t8.toNat default).Value r0]),())) .d) (.h ((),t6,t7,(IntKind.i64.wrap (t8+1)),()) (out_,()))) .d) (.k out_)
def zyy (x:zmn) (y:zjv):Wy zmn zjv (yE):=zmt x.2.1 x.2.2.1 x.2.2.2.1 y.1
def zE0 (n:Nat) (t6:yE) (t7:Int) (t8:Int) (out_:yE):Bool×yE:=zF (zyy) default n ((),t6,t7,t8,()) (out_,())
def zSt (r:yE):LTree ty:=.done (.exit 0) [.own 116] [.arr 100 r false]
def zUd:LL ty zmn:=za (lOwn 116) (za (lSl 100) (za lI64 (za lI64 zn)))
def zUF:BL ty zjv:=bArr 100 false (bNil)
def zSw (x:zmn) (y:zjv):Nat:=(x.2.1.length+Int.toNat x.2.2.1+Int.toNat x.2.2.2.1+y.1.length+1)
def zER:Cx ty:=mkCx base 29 [(87,annotation_copied_spec),(124,annotation_compareItems_spec),(242,zd4)] [(242,[true,false])] [(3,[(3,.own 100),(6,.keep),(7,.keep),(8,.keep)])] [(3,1,(kpL [3]))] [(3,spW zUd zUF (zyy) default zSt zSw)] []
theorem zR1:zK zER (lp (body Tryz.f218) 0):=zu (id:=3) (hl:=rfl)
def zGv (l:yE):Wy0 (yE):=.bn (zE0 (l.length+(Int.ofNat l.length).toNat +Int.toNat 0+0+1) l (Int.ofNat l.length) 0 []) fun r3=>.bn (zbl r3) fun r2=>.k r2
def zqX (l:yE):Bool×yE:=(zGv l).fin default
def zRH (r:yE):ARes ty:=⟨[.own 100 r],[]⟩
def zVt:AL base zjv:=zd (ze (vSl 100)) aNil
def zCO:Ab.Spec ty:=zh zVt fun x=>((zqX x.1).1,zRH (zqX x.1).2)
theorem zOe:SdP 218 zCO:=
 sW (cx':=zER) zr zi zk (zj ⟨ziF,zhw,znj,trivial⟩) Tryz.call218 Tryz.func218 (c:=body Tryz.f218) (lOK (aC zR1 aN)) (sg:=⟨[.own 100],[]⟩)
def zPz:Cx ty:=mkCx base 7 [(20,annotation_Valid_spec)] [] [] [] [] []
def zDy (w:Weighted):Wy0 (Bool):=.bn (zbU w.Ann) fun r0=>.k (!r0)
def znD (w:Weighted):Bool×Bool:=(zDy w).fin default
def zlZ:Ab.Spec ty:=zh zJl fun x=>((znD x.1).1,zTU (znD x.1).2)
theorem zrB:SdP 217 zlZ:=
 sW (cx':=zPz) zr zi zk (zj ⟨zb9,trivial⟩) Tryz.call217 Tryz.func217 (c:=body Tryz.f217) (lOK aN)
def zTB:Cx ty:=mkCx base 28 [] [] [] [] [] []
def zGH (op:Int) (sign:Int):Wy0 (Bool):=.i (op==5) (.k (sign==0)) (.i (op==6) (.k (sign != 0)) (.i (op==7) (.k (decide (sign<0))) (.i (op==8) (.k (decide (sign≤0))) (.i (op==9) (.k (decide (sign>0))) (.k (decide (sign≥0)))))))
def zrl (op:Int) (sign:Int):Bool×Bool:=(zGH op sign).fin default
def zC8:Ab.Spec ty:=zh zT8 fun x=>((zrl x.1 x.2.1).1,zTU (zrl x.1 x.2.1).2)
theorem zN7:SdP 219 zC8:=
 sW (cx':=zTB) zr zi zk (zj trivial) Tryz.call219 Tryz.func219 (c:=body Tryz.f219) (lOK aN)
abbrev zct:=yE×Unit×Int×Int×Unit
def zqw (s:yE) (t7:Int) (t8:Int):Wy zct (Unit) (Int⊕Unit):=.i (decide (t8<t7)) (.i (decide (0≤t8)&&decide (t8<Int.ofNat s.length)) (.bn (znD (s.getD t8.toNat default)) fun r0=>.i (r0) (.k (.inl t8)) (.h (s,(),t7,(IntKind.i64.wrap (t8+1)),()) ())) .d) (.k (.inr ()))
def zhn (x:zct) (y:Unit):Wy zct (Unit) (Int⊕Unit):=zqw x.1 x.2.2.1 x.2.2.2.1
def zql (n:Nat) (s:yE) (t7:Int) (t8:Int):Bool×(Int⊕Unit):=zF (zhn) (.inl default) n (s,(),t7,t8,()) ()
def zp1:LL ty zct:=za (lSl 100) (za (lFn 217 (zn)) (za lI64 (za lI64 zn)))
def zpP (x:zct) (y:Unit):Nat:=(x.1.length+Int.toNat x.2.2.1+Int.toNat x.2.2.2.1+1)
def zhp:Cx ty:=mkCx base 19 [(217,zlZ)] [] [(2,(kpL [0,1,7,8]))] [(2,1,[]),(2,0,(kpL [4]))] [(2,spW zp1 z6c (zhn) (.inl default) zs2 zpP)] []
theorem zpG:zK zhp (lp (body Tryz.f163) 0):=zu (id:=2) (hl:=rfl)
def zqR (s:yE):Wy0 (Int):=.bn (zql (s.length+(Int.ofNat s.length).toNat +Int.toNat 0+1) s (Int.ofNat s.length) 0) fun r2=>.i (isL r2) (.k (getL r2)) (.k (-1:Int))
def zdv (s:yE):Bool×Int:=(zqR s).fin default
def zrk:AL base (yE×Unit×Unit):=zd (ze (vSl 100)) (zd (ze (vFn 217 vNil)) aNil)
def zgD:Ab.Spec ty:=zh zrk fun x=>((zdv x.1).1,zN6 (zdv x.1).2)
theorem zor:SdP 163 zgD:=
 sW (cx':=zhp) zr zi zk (zj ⟨zrB,trivial⟩) Tryz.call163 Tryz.func163 (c:=body Tryz.f163) (lOK (aC zpG aN))
def zok:Cx ty:=mkCx base 9 [(163,zgD),(217,zlZ)] [] [] [] [] []
def zgI (s:yE):Wy0 (Bool):=.bn (zdv s) fun r0=>.k (decide (r0≥0))
def zb6 (s:yE):Bool×Bool:=(zgI s).fin default
def zfQ:Ab.Spec ty:=zh zrk fun x=>((zb6 x.1).1,zTU (zb6 x.1).2)
theorem zm1:SdP 132 zfQ:=
 sW (cx':=zok) zr zi zk (zj ⟨zor,zrB,trivial⟩) Tryz.call132 Tryz.func132 (c:=body Tryz.f132) (lOK aN)
def zVG:Cx ty:=mkCx base 45 [(36,zrO),(70,zeS),(132,zfQ),(135,zsP),(138,zmW),(152,zgz),(217,zlZ),(218,zCO),(219,zC8)] [] [] [] [] []
def zIP (fn:Int) (items:yE) (op:Int) (bound:Value):Wy0 (yC×Int):=.bn (zkf fn items op bound) fun r5=>.i (!r5) (.k ([],1)) (.bn (zb6 items) fun r4=>.i (r4) (.k ([],1)) (.bn (zqX items) fun r3=>.i (decide (Int.ofNat r3.length>0)) (.bn (zey (zft (Atom.mk 4 (RowID.mk 0 0) [] fn r3 op bound)).2) fun r0=>.k (r0.1,r0.2)) (.i (fn==0) (.bn (zi9 0 bound.Int) fun r2=>.bn (zrl op r2) fun r1=>.i (r1) (.k (zvM.2,0)) (.k ([],0))) (.k ([],0)))))
def znV (fn:Int) (items:yE) (op:Int) (bound:Value):Bool×(yC×Int):=(zIP fn items op bound).fin default
def zEi:Ab.Spec ty:=zh zRQ fun x=>((znV x.1 x.2.1 x.2.2.1 x.2.2.2.1).1,zOh (znV x.1 x.2.1 x.2.2.1 x.2.2.2.1).2)
theorem zQb:SdP 180 zEi:=
 sW (cx':=zVG) zr zi zk (zj ⟨zwM,zfw,zm1,zzx,zsu,ziZ,zrB,zOe,zN7,trivial⟩) Tryz.call180 Tryz.func180 (c:=body Tryz.f180) (lOK aN) (sg:=⟨[.own 28,.pure],[]⟩)
abbrev zg1:=((yG×Unit)×Unit)×Unit×Unit×yA×Int×Int×Unit
abbrev zg0:=Atom×yA×Unit
abbrev zkM:=Int⊕(yG×Atom×yA)
abbrev zgV:=((yG×Unit)×Unit)×Unit×Unit×yE×Int×Int×Unit
abbrev zg7:=Atom×yE×Unit
abbrev zkL:=Int⊕(Atom×yE)
def znq (zS:yC→yG→Bool×(yC×Int)) (to:yG) (t24:yA) (t25:Int) (t26:Int) (x_:Atom) (args:yA):Wy zg1 zg0 zkM:=.i (decide (t26<t25)) (.i (decide (0≤t26)&&decide (t26<Int.ofNat t24.length)) (.bn (zS (t24.getD t26.toNat default) to) fun r2=>.i (r2.2 != 0) (.k (.inl (r2.2))) (.i (decide ((args.length+[r2.1].length)*24≤reach)) (.h (((to,()),()),(),(),t24,t25,(IntKind.i64.wrap (t26+1)),()) (x_,(args++[r2.1]),())) .d)) .d) (.k (.inr (to,x_,args)))
def zwx (zS:yC→yG→Bool×(yC×Int)) (x:zg1) (y:zg0):Wy zg1 zg0 zkM:=znq zS x.1.1.1 x.2.2.2.1 x.2.2.2.2.1 x.2.2.2.2.2.1 y.1 y.2.1
def zjg (zS:yC→yG→Bool×(yC×Int)) (n:Nat) (to:yG) (t24:yA) (t25:Int) (t26:Int) (x_:Atom) (args:yA):Bool×zkM:=zF (zwx zS) (.inl default) n (((to,()),()),(),(),t24,t25,t26,()) (x_,args,())
def zF4 (r:zkM):LTree ty:=.ite (isL r) (.done .ret [.lit (.slice none 0 0),.lit (.int .i64 (getL r))] []) (.done (.exit 0) [.fn 84 ([.bptr ([.sl 51 (getR r).1]) 0]),.ptr 432 0,.own 433] [.box (base.enc 67 (getR r).2.1) false,.arr 23 (getR r).2.2 false])
def zHj:LL ty zg1:=za (lFn 84 (za (znd (za (lSl 51) zn) 0) zn)) (za (zeJ 432 0) (za (lOwn 433) (za (lSl 23) (za lI64 (za lI64 zn)))))
def zGD:BL ty zg0:=bBox (zfl (fun x=>(⟨x.1,⟨x.2.1,x.2.2.1⟩,x.2.2.2.1,x.2.2.2.2.1,x.2.2.2.2.2.1,x.2.2.2.2.2.2.1,⟨x.2.2.2.2.2.2.2.1,x.2.2.2.2.2.2.2.2.1,x.2.2.2.2.2.2.2.2.2.1⟩⟩:Atom)) (fun x=>(x.Kind,x.Row.Table,x.Row.Seq,x.Args,x.Func,x.Items,x.Op,x.Bound.Kind,x.Bound.Int,x.Bound.Text,())) (fun _=>rfl) (za (lInt .i64) (za (lInt .i64) (za (lInt .i64) (za (lSl 23) (za (lInt .i64) (za (lSl 100) (za (lInt .i64) (za (lInt .i64) (za (lInt .i64) (za lStr zn))))))))))) false (bArr 23 false (bNil))
def zmz (zS:yC→yG→Bool×(yC×Int)) (to:yG) (t74:yE) (t75:Int) (t76:Int) (x_:Atom) (items:yE):Wy zgV zg7 zkL:=.i (decide (t76<t75)) (.i (decide (0≤t76)&&decide (t76<Int.ofNat t74.length)) (.bn (zS (t74.getD t76.toNat default).Ann to) fun r4=>.i (r4.2 != 0) (.k (.inl (r4.2))) (.i (decide ((items.length+[WeightedOf.mk (t74.getD t76.toNat default).Value r4.1].length)*56≤reach)) (.h (((to,()),()),(),(),t74,t75,(IntKind.i64.wrap (t76+1)),()) (x_,(items++[WeightedOf.mk (t74.getD t76.toNat default).Value r4.1]),())) .d)) .d) (.k (.inr (x_,items)))
def zvK (zS:yC→yG→Bool×(yC×Int)) (x:zgV) (y:zg7):Wy zgV zg7 zkL:=zmz zS x.1.1.1 x.2.2.2.1 x.2.2.2.2.1 x.2.2.2.2.2.1 y.1 y.2.1
def zis (zS:yC→yG→Bool×(yC×Int)) (n:Nat) (to:yG) (t74:yE) (t75:Int) (t76:Int) (x_:Atom) (items:yE):Bool×zkL:=zF (zvK zS) (.inl default) n (((to,()),()),(),(),t74,t75,t76,()) (x_,items,())
def zEE (r:zkL):LTree ty:=.ite (isL r) (.done .ret [.lit (.slice none 0 0),.lit (.int .i64 (getL r))] []) (.done (.exit 3) [.ptr 432 0,.own 433] [.box (base.enc 67 (getR r).1) false,.arr 100 (getR r).2 false])
def zGg:LL ty zgV:=za (lFn 84 (za (znd (za (lSl 51) zn) 0) zn)) (za (zeJ 432 0) (za (lOwn 433) (za (lSl 100) (za lI64 (za lI64 zn)))))
def zFY:BL ty zg7:=bBox (zfl (fun x=>(⟨x.1,⟨x.2.1,x.2.2.1⟩,x.2.2.2.1,x.2.2.2.2.1,x.2.2.2.2.2.1,x.2.2.2.2.2.2.1,⟨x.2.2.2.2.2.2.2.1,x.2.2.2.2.2.2.2.2.1,x.2.2.2.2.2.2.2.2.2.1⟩⟩:Atom)) (fun x=>(x.Kind,x.Row.Table,x.Row.Seq,x.Args,x.Func,x.Items,x.Op,x.Bound.Kind,x.Bound.Int,x.Bound.Text,())) (fun _=>rfl) (za (lInt .i64) (za (lInt .i64) (za (lInt .i64) (za (lSl 23) (za (lInt .i64) (za (lSl 100) (za (lInt .i64) (za (lInt .i64) (za (lInt .i64) (za lStr zn))))))))))) false (bArr 100 false (bNil))
def zFQ (x:zg1) (y:zg0):Nat:=(x.1.1.1.length+x.2.2.2.1.length+Int.toNat x.2.2.2.2.1+Int.toNat x.2.2.2.2.2.1+y.1.Args.length+y.1.Items.length+y.2.1.length+1)
def zEM (x:zgV) (y:zg7):Nat:=(x.1.1.1.length+x.2.2.2.1.length+Int.toNat x.2.2.2.2.1+Int.toNat x.2.2.2.2.2.1+y.1.Args.length+y.1.Items.length+y.2.1.length+1)
def znf (zS:yC→yG→Bool×(yC×Int)):Cx ty:=mkCx base0 108 [(83,(zly zS)),(84,zhu),(177,zCV),(178,zCM),(179,zB0),(180,zEi)] [] [(5,[(1,.keep),(2,.keep),(6,.own 23),(24,.keep),(25,.keep),(26,.keep)]),(21,[(1,.keep),(2,.keep),(11,.own 100),(74,.keep),(75,.keep),(76,.keep)])] [(5,1,(kpL [1,2,6])),(5,0,(kpL [4,5])),(21,4,(kpL [2,11])),(21,0,(kpL [4,5]))] [(5,spW zHj zGD (zwx zS) (.inl default) zF4 zFQ),(21,spW zGg zFY (zvK zS) (.inl default) zEE zEM)] []
theorem zFs (zS:yC→yG→Bool×(yC×Int)):zK (znf zS) (lp (body Tryz.f150) 0):=zu (id:=5) (hl:=rfl)
theorem zEL (zS:yC→yG→Bool×(yC×Int)):zK (znf zS) (lp (body Tryz.f150) 1):=zu (id:=21) (hl:=rfl)
def zxC (zS:yC→yG→Bool×(yC×Int)) (x_:Atom) (to:yG):Wy0 (yC×Int):=.i (x_.Kind==0) (.bn (zhV x_.Row to) fun r6=>.k (r6,0)) (.bn (zjg zS (to.length+x_.Args.length+(Int.ofNat x_.Args.length).toNat +Int.toNat 0+x_.Args.length+x_.Items.length+0+1) to x_.Args (Int.ofNat x_.Args.length) 0 (Atom.mk x_.Kind x_.Row x_.Args x_.Func x_.Items x_.Op x_.Bound) []) fun r12=>.i (isL r12) (.k ([],getL r12)) (.i ((getR r12).2.1.Kind==1) (.i (decide ((0:Int)≤(0:Int))&&decide (0<Int.ofNat (getR r12).2.2.length)) (.i (decide ((0:Int)≤(1:Int))&&decide (1<Int.ofNat (getR r12).2.2.length)) (.bn (zqy ((getR r12).2.2.getD (Int.toNat 0) default) ((getR r12).2.2.getD (Int.toNat 1) default)) fun r7=>.k (r7.1,r7.2)) .d) .d) (.i ((getR r12).2.1.Kind==2) (.i (decide ((0:Int)≤(0:Int))&&decide (0<Int.ofNat (getR r12).2.2.length)) (.bn (zqL ((getR r12).2.2.getD (Int.toNat 0) default)) fun r8=>.k (r8.1,r8.2)) .d) (.i ((getR r12).2.1.Kind==3) (.i (decide ((0:Int)≤(0:Int))&&decide (0<Int.ofNat (getR r12).2.2.length)) (.bn (zoL ((getR r12).2.2.getD (Int.toNat 0) default)) fun r9=>.k (r9.1,r9.2)) .d) (.bn (zis zS ((getR r12).1.length+(getR r12).2.1.Items.length+(Int.ofNat (getR r12).2.1.Items.length).toNat +Int.toNat 0+(getR r12).2.1.Args.length+(getR r12).2.1.Items.length+0+1) (getR r12).1 (getR r12).2.1.Items (Int.ofNat (getR r12).2.1.Items.length) 0 (Atom.mk (getR r12).2.1.Kind (getR r12).2.1.Row (getR r12).2.1.Args (getR r12).2.1.Func (getR r12).2.1.Items (getR r12).2.1.Op (getR r12).2.1.Bound) []) fun r11=>.i (isL r11) (.k ([],getL r11)) (.bn (znV (getR r11).1.Func (getR r11).2 (getR r11).1.Op (getR r11).1.Bound) fun r10=>.k (r10.1,r10.2)))))))
def zhJ (zS:yC→yG→Bool×(yC×Int)) (x_:Atom) (to:yG):Bool×(yC×Int):=(zxC zS x_ to).fin default
theorem zEc (zS:yC→yG→Bool×(yC×Int)) (zPf:Sound Tryz.prog base0 83 (zly zS)):Sound Tryz.prog base0 150 (zlk (zhJ zS)):=
 sW (cx':=(znf zS)) zr zja zk (zj ⟨zPf,zlp.nodr,zOQ.nodr,zOE.nodr,zME.nodr,zQb.nodr,trivial⟩) Tryz.call150 Tryz.func150 (c:=body Tryz.f150) (lOK (aC (zFs zS) (aC (zEL zS) aN))) (sg:=⟨[.own 28,.pure],[]⟩)
def zGj:Nat→(yC→yG→Bool×(yC×Int))×(Atom→yG→Bool×(yC×Int))
 | 0=>(fun _ _=>(false,default),fun _ _=>(false,default))
 | n+1=>(zk5 ((zGj n).2),zhJ ((zGj n).1))
def zld (n:Nat):yC→yG→Bool×(yC×Int):=(zGj n).1
def zhy (n:Nat):Atom→yG→Bool×(yC×Int):=(zGj n).2
theorem zM8 (n:Nat):zld (n+1)=zk5 (zhy n):=rfl
theorem zGC (n:Nat):zhy (n+1)=zhJ (zld n):=rfl
theorem zTk:∀ n,Sound Tryz.prog base0 83 (zly (zld n))∧Sound Tryz.prog base0 150 (zlk (zhy n))
 | 0=>⟨z6 Tryz.call83 (fun _=>rfl),z6 Tryz.call150 (fun _=>rfl)⟩
 | n+1=>by
  have ih:=zTk n;exact ⟨zH6 _ (ih.2),zEc _ (ih.1)⟩
def zzR:yC→yG→Bool×(yC×Int):=zld 1000
def annotation_replace_spec:Ab.Spec ty:=zly zzR
theorem zK5:Sound Tryz.prog base0 83 annotation_replace_spec:=(zTk 1000).1
def zHw:Cx ty:=mkCx base 7 [(20,annotation_Valid_spec)] [] [] [] [] []
def zxo (b:Binding):Wy0 (Bool):=.bn (zbU b.To) fun r0=>.k (!r0)
def zhY (b:Binding):Bool×Bool:=(zxo b).fin default
def zH0:AL base (Binding×Unit):=zd (ze (vAgg 51)) aNil
def zhx:Ab.Spec ty:=zh zH0 fun x=>((zhY x.1).1,zTU (zhY x.1).2)
theorem zk9:SdP 82 zhx:=
 sW (cx':=zHw) zr zi zk (zj ⟨zb9,trivial⟩) Tryz.call82 Tryz.func82 (c:=body Tryz.f82) (lOK aN)
abbrev zcQ:=yG×Unit×Int×Int×Unit
def zr0 (s:yG) (t7:Int) (t8:Int):Wy zcQ (Unit) (Int⊕Unit):=.i (decide (t8<t7)) (.i (decide (0≤t8)&&decide (t8<Int.ofNat s.length)) (.bn (zhY (s.getD t8.toNat default)) fun r0=>.i (r0) (.k (.inl t8)) (.h (s,(),t7,(IntKind.i64.wrap (t8+1)),()) ())) .d) (.k (.inr ()))
def zio (x:zcQ) (y:Unit):Wy zcQ (Unit) (Int⊕Unit):=zr0 x.1 x.2.2.1 x.2.2.2.1
def zsi (n:Nat) (s:yG) (t7:Int) (t8:Int):Bool×(Int⊕Unit):=zF (zio) (.inl default) n (s,(),t7,t8,()) ()
def zr5:LL ty zcQ:=za (lSl 51) (za (lFn 82 (zn)) (za lI64 (za lI64 zn)))
def zra (x:zcQ) (y:Unit):Nat:=(x.1.length+Int.toNat x.2.2.1+Int.toNat x.2.2.2.1+1)
def zii:Cx ty:=mkCx base 19 [(82,zhx)] [] [(2,(kpL [0,1,7,8]))] [(2,1,[]),(2,0,(kpL [4]))] [(2,spW zr5 z6c (zio) (.inl default) zs2 zra)] []
theorem zrh:zK zii (lp (body Tryz.f85) 0):=zu (id:=2) (hl:=rfl)
def zs1 (s:yG):Wy0 (Int):=.bn (zsi (s.length+(Int.ofNat s.length).toNat +Int.toNat 0+1) s (Int.ofNat s.length) 0) fun r2=>.i (isL r2) (.k (getL r2)) (.k (-1:Int))
def zdR (s:yG):Bool×Int:=(zs1 s).fin default
def zs3:AL base (yG×Unit×Unit):=zd (ze (vSl 51)) (zd (ze (vFn 82 vNil)) aNil)
def zhi:Ab.Spec ty:=zh zs3 fun x=>((zdR x.1).1,zN6 (zdR x.1).2)
theorem zpi:SdP 85 zhi:=
 sW (cx':=zii) zr zi zk (zj ⟨zk9,trivial⟩) Tryz.call85 Tryz.func85 (c:=body Tryz.f85) (lOK (aC zrh aN))
def zpc:Cx ty:=mkCx base 9 [(82,zhx),(85,zhi)] [] [] [] [] []
def zhr (s:yG):Wy0 (Bool):=.bn (zdR s) fun r0=>.k (decide (r0≥0))
def zcc (s:yG):Bool×Bool:=(zhr s).fin default
def zgo:Ab.Spec ty:=zh zs3 fun x=>((zcc x.1).1,zTU (zcc x.1).2)
theorem znJ:SdP 81 zgo:=
 sW (cx':=zpc) zr zi zk (zj ⟨zk9,zpi,trivial⟩) Tryz.call81 Tryz.func81 (c:=body Tryz.f81) (lOK aN)
def zK9:Cx ty:=mkCx base0 18 [(20,annotation_Valid_spec),(81,zgo),(82,zhx),(83,annotation_replace_spec),(84,zhu)] [] [] [] [] []
def zBe (a:yC) (l:yG):Wy0 (yC×Int):=.bn (zbU a) fun r2=>.i (!r2) (.k ([],1)) (.bn (zcc l) fun r1=>.i (r1) (.k ([],1)) (.bn (zzR a l) fun r0=>.k (r0.1,r0.2)))
def zkp (a:yC) (l:yG):Bool×(yC×Int):=(zBe a l).fin default
def zMX:AL base0 (yC×yG×Unit):=zd (ze (vSl 28)) (zd (ze (vSl 51)) aNil)
def zx7:Ab.Spec ty:=zh zMX fun x=>((zkp x.1 x.2.1).1,zOh (zkp x.1 x.2.1).2)
theorem zHr:Sound Tryz.prog base0 29 zx7:=
 sW (cx':=zK9) zr zja zk (zj ⟨zb9.nodr,znJ.nodr,zk9.nodr,zK5,zlp.nodr,trivial⟩) Tryz.call29 Tryz.func29 (c:=body Tryz.f29) (lOK aN) (sg:=⟨[.own 28,.pure],[]⟩)
def zRi:Cx ty:=mkCx base0 11 [(29,zx7)] [] [] [] [] []
def zEU (a:yC):Wy0 (yC):=.bn (zkp a []) fun r0=>.k r0.1
def zou (a:yC):Bool×yC:=(zEU a).fin default
def zBQ:Ab.Spec ty:=zh zY8 fun x=>((zou x.1).1,zO1 (zou x.1).2)
theorem zM3:Sound Tryz.prog base0 68 zBQ:=
 sW (cx':=zRi) zr zja zk (zj ⟨zHr,trivial⟩) Tryz.call68 Tryz.func68 (c:=body Tryz.f68) (lOK aN) (sg:=⟨[.own 28],[]⟩)
def zJQ:Cx ty:=mkCx base 8 [] [] [] [] [] []
def zzt (x_:Atom):Wy0 (yC):=.k [TermOf.mk 1 [FactorOf.mk (Atom.mk x_.Kind x_.Row x_.Args x_.Func x_.Items x_.Op x_.Bound) 1]]
def zgv (x_:Atom):Bool×yC:=(zzt x_).fin default
def zwo:Ab.Spec ty:=zh zBK fun x=>((zgv x.1).1,zO1 (zgv x.1).2)
theorem zF3:SdP 104 zwo:=
 sW (cx':=zJQ) zr zi zk (zj trivial) Tryz.call104 Tryz.func104 (c:=body Tryz.f104) (lOK aN) (sg:=⟨[.own 28],[]⟩)
def zOn:Cx ty:=mkCx base 13 [(21,zkt),(104,zwo)] [] [] [] [] []
def zCN (x_:Atom) (y_:Atom):Wy0 (Bool):=.bn (zee (zgv (Atom.mk x_.Kind x_.Row x_.Args x_.Func x_.Items x_.Op x_.Bound)).2 (zgv (Atom.mk y_.Kind y_.Row y_.Args y_.Func y_.Items y_.Op y_.Bound)).2) fun r0=>.k r0
def zmy (x_:Atom) (y_:Atom):Bool×Bool:=(zCN x_ y_).fin default
def zzJ:Ab.Spec ty:=zh zJr fun x=>((zmy x.1 x.2.1).1,zTU (zmy x.1 x.2.1).2)
theorem zJp:SdP 52 zzJ:=
 sW (cx':=zOn) zr zi zk (zj ⟨zmR,zF3,trivial⟩) Tryz.call52 Tryz.func52 (c:=body Tryz.f52) (lOK aN)
def zHE:Cx ty:=mkCx base 16 [(52,zzJ)] [] [] [] [] []
def zxM (g:Factor) (p1:Factor):Wy0 (Bool):=.i (decide (p1.Exp≤g.Exp)) (.bn (zmy (Atom.mk p1.Atom.Kind p1.Atom.Row p1.Atom.Args p1.Atom.Func p1.Atom.Items p1.Atom.Op p1.Atom.Bound) (Atom.mk g.Atom.Kind g.Atom.Row g.Atom.Args g.Atom.Func g.Atom.Items g.Atom.Op g.Atom.Bound)) fun r0=>.k r0) (.k false)
def zeE (g:Factor) (p1:Factor):Bool×Bool:=(zxM g p1).fin default
def zHR:AL base (Factor×Factor×Unit):=zd (ze (vAgg 69)) (zd (ze (zy2 69)) aNil)
def zhv:Ab.Spec ty:=zh zHR fun x=>((zeE x.1 x.2.1).1,zTU (zeE x.1 x.2.1).2)
theorem zlf:SdP 51 zhv:=
 sW (cx':=zHE) zr zi zk (zj ⟨zJp,trivial⟩) Tryz.call51 Tryz.func51 (c:=body Tryz.f51) (lOK aN)
abbrev zdg:=yD×(Factor×Unit)×Int×Int×Unit
def zjq (s:yD) (f:Factor) (t7:Int) (t8:Int):Wy zdg (Unit) (Int⊕Unit):=.i (decide (t8<t7)) (.i (decide (0≤t8)&&decide (t8<Int.ofNat s.length)) (.bn (zeE (FactorOf.mk (Atom.mk (s.getD t8.toNat default).Atom.Kind (s.getD t8.toNat default).Atom.Row (s.getD t8.toNat default).Atom.Args (s.getD t8.toNat default).Atom.Func (s.getD t8.toNat default).Atom.Items (s.getD t8.toNat default).Atom.Op (s.getD t8.toNat default).Atom.Bound) (s.getD t8.toNat default).Exp) (FactorOf.mk (Atom.mk f.Atom.Kind f.Atom.Row f.Atom.Args f.Atom.Func f.Atom.Items f.Atom.Op f.Atom.Bound) f.Exp)) fun r0=>.i (r0) (.k (.inl t8)) (.h (s,(f,()),t7,(IntKind.i64.wrap (t8+1)),()) ())) .d) (.k (.inr ()))
def zdE (x:zdg) (y:Unit):Wy zdg (Unit) (Int⊕Unit):=zjq x.1 x.2.1.1 x.2.2.1 x.2.2.2.1
def zjn (n:Nat) (s:yD) (f:Factor) (t7:Int) (t8:Int):Bool×(Int⊕Unit):=zF (zdE) (.inl default) n (s,(f,()),t7,t8,()) ()
def zt5:LL ty zdg:=za (lSl 69) (za (lFn 51 (za (znd (zfl (fun x=>(⟨⟨x.1,⟨x.2.1,x.2.2.1⟩,x.2.2.2.1,x.2.2.2.2.1,x.2.2.2.2.2.1,x.2.2.2.2.2.2.1,⟨x.2.2.2.2.2.2.2.1,x.2.2.2.2.2.2.2.2.1,x.2.2.2.2.2.2.2.2.2.1⟩⟩,x.2.2.2.2.2.2.2.2.2.2.1⟩:Factor)) (fun x=>(x.Atom.Kind,x.Atom.Row.Table,x.Atom.Row.Seq,x.Atom.Args,x.Atom.Func,x.Atom.Items,x.Atom.Op,x.Atom.Bound.Kind,x.Atom.Bound.Int,x.Atom.Bound.Text,x.Exp,())) (fun _=>rfl) (za lI64 (za lI64 (za lI64 (za (lSl 23) (za lI64 (za (lSl 100) (za lI64 (za lI64 (za lI64 (za lStr (za lI64 zn)))))))))))) 0) zn)) (za lI64 (za lI64 zn)))
def zsG (x:zdg) (y:Unit):Nat:=(x.1.length+x.2.1.1.Atom.Args.length+x.2.1.1.Atom.Items.length+Int.toNat x.2.2.1+Int.toNat x.2.2.2.1+1000)
def zji:Cx ty:=mkCx base 19 [(51,zhv)] [] [(2,(kpL [0,1,7,8]))] [(2,1,[]),(2,0,(kpL [4]))] [(2,spW zt5 z6c (zdE) (.inl default) zs2 zsG)] []
theorem zsO:zK zji (lp (body Tryz.f103) 0):=zu (id:=2) (hl:=rfl)
def zjF (s:yD) (f:Factor):Wy0 (Int):=.bn (zjn (s.length+f.Atom.Args.length+f.Atom.Items.length+(Int.ofNat s.length).toNat +Int.toNat 0+1000) s (FactorOf.mk (Atom.mk f.Atom.Kind f.Atom.Row f.Atom.Args f.Atom.Func f.Atom.Items f.Atom.Op f.Atom.Bound) f.Exp) (Int.ofNat s.length) 0) fun r2=>.i (isL r2) (.k (getL r2)) (.k (-1:Int))
def zcP (s:yD) (f:Factor):Bool×Int:=(zjF s f).fin default
def zux:AL base (yD×(Factor×Unit)×Unit):=zd (ze (vSl 69)) (zd (ze (vFn 51 (zdH (zy2 69) vNil))) aNil)
def zij:Ab.Spec ty:=zh zux fun x=>((zcP x.1 x.2.1.1).1,zN6 (zcP x.1 x.2.1.1).2)
theorem zqC:SdP 103 zij:=
 sW (cx':=zji) zr zi zk (zj ⟨zlf,trivial⟩) Tryz.call103 Tryz.func103 (c:=body Tryz.f103) (lOK (aC zsO aN))
def zqH:Cx ty:=mkCx base 9 [(51,zhv),(103,zij)] [] [] [] [] []
def zih (s:yD) (f:Factor):Wy0 (Bool):=.bn (zcP s (FactorOf.mk (Atom.mk f.Atom.Kind f.Atom.Row f.Atom.Args f.Atom.Func f.Atom.Items f.Atom.Op f.Atom.Bound) f.Exp)) fun r0=>.k (decide (r0≥0))
def zcr (s:yD) (f:Factor):Bool×Bool:=(zih s f).fin default
def zgU:Ab.Spec ty:=zh zux fun x=>((zcr x.1 x.2.1.1).1,zTU (zcr x.1 x.2.1.1).2)
theorem zoJ:SdP 49 zgU:=
 sW (cx':=zqH) zr zi zk (zj ⟨zlf,zqC,trivial⟩) Tryz.call49 Tryz.func49 (c:=body Tryz.f49) (lOK aN)
def zLr:Cx ty:=mkCx base 9 [(49,zgU),(51,zhv)] [] [] [] [] []
def zA5 (f:Factor) (p1:Term):Wy0 (Bool):=.bn (zcr p1.Factors (FactorOf.mk (Atom.mk f.Atom.Kind f.Atom.Row f.Atom.Args f.Atom.Func f.Atom.Items f.Atom.Op f.Atom.Bound) f.Exp)) fun r0=>.k (!r0)
def zfF (f:Factor) (p1:Term):Bool×Bool:=(zA5 f p1).fin default
def zM9:AL base (Factor×Term×Unit):=zd (ze (vAgg 69)) (zd (ze (zy2 28)) aNil)
def zjW:Ab.Spec ty:=zh zM9 fun x=>((zfF x.1 x.2.1).1,zTU (zfF x.1 x.2.1).2)
theorem znn:SdP 50 zjW:=
 sW (cx':=zLr) zr zi zk (zj ⟨zoJ,zlf,trivial⟩) Tryz.call50 Tryz.func50 (c:=body Tryz.f50) (lOK aN)
abbrev zdk:=yD×(Term×Unit)×Int×Int×Unit
def zjD (s:yD) (f:Term) (t7:Int) (t8:Int):Wy zdk (Unit) (Int⊕Unit):=.i (decide (t8<t7)) (.i (decide (0≤t8)&&decide (t8<Int.ofNat s.length)) (.bn (zfF (FactorOf.mk (Atom.mk (s.getD t8.toNat default).Atom.Kind (s.getD t8.toNat default).Atom.Row (s.getD t8.toNat default).Atom.Args (s.getD t8.toNat default).Atom.Func (s.getD t8.toNat default).Atom.Items (s.getD t8.toNat default).Atom.Op (s.getD t8.toNat default).Atom.Bound) (s.getD t8.toNat default).Exp) f) fun r0=>.i (r0) (.k (.inl t8)) (.h (s,(f,()),t7,(IntKind.i64.wrap (t8+1)),()) ())) .d) (.k (.inr ()))
def zdO (x:zdk) (y:Unit):Wy zdk (Unit) (Int⊕Unit):=zjD x.1 x.2.1.1 x.2.2.1 x.2.2.2.1
def zjy (n:Nat) (s:yD) (f:Term) (t7:Int) (t8:Int):Bool×(Int⊕Unit):=zF (zdO) (.inl default) n (s,(f,()),t7,t8,()) ()
def zus:LL ty zdk:=za (lSl 69) (za (lFn 50 (za (znd (zfl (fun x=>(⟨x.1,x.2.1⟩:Term)) (fun x=>(x.Coeff,x.Factors,())) (fun _=>rfl) (za lI64 (za (lSl 69) zn))) 0) zn)) (za lI64 (za lI64 zn)))
def ztH (x:zdk) (y:Unit):Nat:=(x.1.length+x.2.1.1.Factors.length+Int.toNat x.2.2.1+Int.toNat x.2.2.2.1+1000)
def zjH:Cx ty:=mkCx base 19 [(50,zjW)] [] [(2,(kpL [0,1,7,8]))] [(2,1,[]),(2,0,(kpL [4]))] [(2,spW zus z6c (zdO) (.inl default) zs2 ztH)] []
theorem zto:zK zjH (lp (body Tryz.f103) 0):=zu (id:=2) (hl:=rfl)
def zj0 (s:yD) (f:Term):Wy0 (Int):=.bn (zjy (s.length+f.Factors.length+(Int.ofNat s.length).toNat +Int.toNat 0+1000) s f (Int.ofNat s.length) 0) fun r2=>.i (isL r2) (.k (getL r2)) (.k (-1:Int))
def zc0 (s:yD) (f:Term):Bool×Int:=(zj0 s f).fin default
def zuK:AL base (yD×(Term×Unit)×Unit):=zd (ze (vSl 69)) (zd (ze (vFn 50 (zdH (zy2 28) vNil))) aNil)
def ziO:Ab.Spec ty:=zh zuK fun x=>((zc0 x.1 x.2.1.1).1,zN6 (zc0 x.1 x.2.1.1).2)
theorem zr8:SdP 103 ziO:=
 sW (cx':=zjH) zr zi zk (zj ⟨znn,trivial⟩) Tryz.call103 Tryz.func103 (c:=body Tryz.f103) (lOK (aC zto aN))
def zr9:Cx ty:=mkCx base 9 [(50,zjW),(103,ziO)] [] [] [] [] []
def ziX (s:yD) (f:Term):Wy0 (Bool):=.bn (zc0 s f) fun r0=>.k (decide (r0≥0))
def zcy (s:yD) (f:Term):Bool×Bool:=(ziX s f).fin default
def zhg:Ab.Spec ty:=zh zuK fun x=>((zcy x.1 x.2.1.1).1,zTU (zcy x.1 x.2.1.1).2)
theorem zpO:SdP 49 zhg:=
 sW (cx':=zr9) zr zi zk (zj ⟨znn,zr8,trivial⟩) Tryz.call49 Tryz.func49 (c:=body Tryz.f49) (lOK aN)
def zP6:Cx ty:=mkCx base 10 [(49,zhg),(50,zjW)] [] [] [] [] []
def zEx (a:Term) (b:Term):Wy0 (Bool):=.bn (zcy a.Factors b) fun r0=>.k (!r0)
def zfV (a:Term) (b:Term):Bool×Bool:=(zEx a b).fin default
def zl2:Ab.Spec ty:=zh zMU fun x=>((zfV x.1 x.2.1).1,zTU (zfV x.1 x.2.1).2)
theorem zrx:SdP 14 zl2:=
 sW (cx':=zP6) zr zi zk (zj ⟨zpO,znn,trivial⟩) Tryz.call14 Tryz.func14 (c:=body Tryz.f14) (lOK aN)
abbrev zkn:=yC×Unit×Int×Unit×yC×Int×Int×yC×Int×Int×Unit
abbrev zkv:=yC×Term×Unit
abbrev znR:=(yC×yC×Int×Int×yC)⊕(yC×yC×Int×Int×yC×Term)
abbrev zkz:=yC×Unit×yC×Int×Int×Unit
abbrev zhf:=yC×Unit
def zu4 (a:yC) (i:Int) (t8:yC) (t9:Int) (t10:Int) (t15:yC) (t16:Int) (t17:Int) (out_:yC) (t:Term):Wy zkn zkv znR:=.i (decide (t17<t16)) (.i (decide (0≤t17)&&decide (t17<Int.ofNat t15.length)) (.i (t17 != i) (.bn (zfV (t15.getD t17.toNat default) t) fun r5=>.i (r5) (.bn (zfV t (t15.getD t17.toNat default)) fun r4=>.i (!r4) (.k (.inl (a,t8,t9,t10,out_))) (.i (decide (t17<i)) (.k (.inl (a,t8,t9,t10,out_))) (.h (a,(),i,(),t8,t9,t10,t15,t16,(IntKind.i64.wrap (t17+1)),()) (out_,t,())))) (.h (a,(),i,(),t8,t9,t10,t15,t16,(IntKind.i64.wrap (t17+1)),()) (out_,t,()))) (.h (a,(),i,(),t8,t9,t10,t15,t16,(IntKind.i64.wrap (t17+1)),()) (out_,t,()))) .d) (.k (.inr (a,t8,t9,t10,out_,t)))
def zDa (x:zkn) (y:zkv):Wy zkn zkv znR:=zu4 x.1 x.2.2.1 x.2.2.2.2.1 x.2.2.2.2.2.1 x.2.2.2.2.2.2.1 x.2.2.2.2.2.2.2.1 x.2.2.2.2.2.2.2.2.1 x.2.2.2.2.2.2.2.2.2.1 y.1 y.2.1
def zvi (n:Nat) (a:yC) (i:Int) (t8:yC) (t9:Int) (t10:Int) (t15:yC) (t16:Int) (t17:Int) (out_:yC) (t:Term):Bool×znR:=zF (zDa) (.inl default) n (a,(),i,(),t8,t9,t10,t15,t16,t17,()) (out_,t,())
def zN8 (r:znR):LTree ty:=.ite (isL r) (.done (.exit 1) [.sl 28 ((getL r).1),.own 196,.sl 28 ((getL r).2.1),.lit (.int .i64 ((getL r).2.2.1)),.lit (.int .i64 ((getL r).2.2.2.1))] [.arr 28 ((getL r).2.2.2.2) false]) (.done (.exit 2) [.sl 28 (getR r).1,.own 196,.ptr 197 0,.sl 28 (getR r).2.1,.lit (.int .i64 (getR r).2.2.1),.lit (.int .i64 (getR r).2.2.2.1)] [.arr 28 (getR r).2.2.2.2.1 false,.box (base.enc 28 (getR r).2.2.2.2.2) false])
def zQq:LL ty zkn:=za (lSl 28) (za (lOwn 196) (za lI64 (za (zeJ 197 0) (za (lSl 28) (za lI64 (za lI64 (za (lSl 28) (za lI64 (za lI64 zn)))))))))
def zPT:BL ty zkv:=bArr 28 false (bBox (zfl (fun x=>(⟨x.1,x.2.1⟩:Term)) (fun x=>(x.Coeff,x.Factors,())) (fun _=>rfl) (za (lInt .i64) (za (lSl 69) zn))) false (bNil))
def zu6 (a:yC) (t8:yC) (t9:Int) (t10:Int) (out_:yC):Wy zkz zhf (yC):=.i (decide (t10<t9)) (.i (decide (0≤t10)&&decide (t10<Int.ofNat t8.length)) (.bn (zvi (a.length+t10.toNat +t8.length+t9.toNat +t10.toNat +a.length+(Int.ofNat a.length).toNat +Int.toNat 0+out_.length+(t8.getD t10.toNat default).Factors.length+1000) a t10 t8 t9 t10 a (Int.ofNat a.length) 0 out_ (t8.getD t10.toNat default)) fun r8=>.i (isL r8) (.h (((getL r8).1),(),((getL r8).2.1),((getL r8).2.2.1),(IntKind.i64.wrap ((getL r8).2.2.2.1+1)),()) (((getL r8).2.2.2.2),())) (.i (decide (((getR r8).2.2.2.2.1.length+[TermOf.mk 1 (getR r8).2.2.2.2.2.Factors].length)*32≤reach)) (.h ((getR r8).1,(),(getR r8).2.1,(getR r8).2.2.1,(IntKind.i64.wrap ((getR r8).2.2.2.1+1)),()) (((getR r8).2.2.2.2.1++[TermOf.mk 1 (getR r8).2.2.2.2.2.Factors]),())) .d)) .d) (.k out_)
def zCR (x:zkz) (y:zhf):Wy zkz zhf (yC):=zu6 x.1 x.2.2.1 x.2.2.2.1 x.2.2.2.2.1 y.1
def zu9 (n:Nat) (a:yC) (t8:yC) (t9:Int) (t10:Int) (out_:yC):Bool×yC:=zF (zCR) default n (a,(),t8,t9,t10,()) (out_,())
def zPe (r:yC):LTree ty:=.done (.exit 0) [.own 196] [.arr 28 r false]
def zQL:LL ty zkz:=za (lSl 28) (za (lOwn 196) (za (lSl 28) (za lI64 (za lI64 zn))))
def zQ8:BL ty zhf:=bArr 28 false (bNil)
def zOP (x:zkn) (y:zkv):Nat:=(x.1.length+Int.toNat x.2.2.1+x.2.2.2.2.1.length+Int.toNat x.2.2.2.2.2.1+Int.toNat x.2.2.2.2.2.2.1+x.2.2.2.2.2.2.2.1.length+Int.toNat x.2.2.2.2.2.2.2.2.1+Int.toNat x.2.2.2.2.2.2.2.2.2.1+y.1.length+y.2.1.Factors.length+1000)
def zOr (x:zkz) (y:zhf):Nat:=(x.1.length+x.2.2.1.length+Int.toNat x.2.2.2.1+Int.toNat x.2.2.2.2.1+y.1.length+1000)
def zvv:Cx ty:=mkCx base 49 [(14,zl2)] [] [(3,[(0,.keep),(3,.own 28),(8,.keep),(9,.keep),(10,.keep)]),(6,(kpL [0,3,4,5,8,9,10,15,16,17]))] [(3,1,(kpL [3])),(6,3,(kpL [0,3,5,8,9,10])),(6,2,(kpL [0,3,8,9,10]))] [(6,spW zQq zPT (zDa) (.inl default) zN8 zOP),(3,spW zQL zQ8 (zCR) default zPe zOr)] []
theorem zOM:zK zvv (lp (body Tryz.f69) 1):=zu (id:=6) (hl:=rfl)
theorem zOH:zK zvv (lp (body Tryz.f69) 0):=zu (id:=3) (hl:=rfl)
def zDo (a:yC):Wy0 (yC):=.bn (zu9 (a.length+a.length+(Int.ofNat a.length).toNat +Int.toNat 0+0+1000) a a (Int.ofNat a.length) 0 []) fun r10=>.k r10
def znE (a:yC):Bool×yC:=(zDo a).fin default
def zRL:AL base zhf:=zd (ze (vSl 28)) aNil
def zA2:Ab.Spec ty:=zh zRL fun x=>((znE x.1).1,zO1 (znE x.1).2)
theorem zK3:SdP 69 zA2:=
 sW (cx':=zvv) zr zi zk (zj ⟨zrx,trivial⟩) Tryz.call69 Tryz.func69 (c:=body Tryz.f69) (lOK (aC zOH (aC zOM aN))) (sg:=⟨[.own 28],[]⟩)
def zSG:Cx ty:=mkCx base0 9 [(20,annotation_Valid_spec),(68,zBQ),(69,zA2)] [] [] [] [] []
def zE3 (a:yC):Wy0 (yC):=.bn (zbU a) fun r2=>.i (!r2) (.k []) (.bn (znE a) fun r1=>.bn (zou r1) fun r0=>.k r0)
def zel (a:yC):Bool×yC:=(zE3 a).fin default
def zur:Ab.Spec ty:=zh zY8 fun x=>((zel x.1).1,zO1 (zel x.1).2)
theorem zA3:Sound Tryz.prog base0 22 zur:=
 sW (cx':=zSG) zr zja zk (zj ⟨zb9.nodr,zM3,zK3.nodr,trivial⟩) Tryz.call22 Tryz.func22 (c:=body Tryz.f22) (lOK aN) (sg:=⟨[.own 28],[]⟩)
def zIa:Cx ty:=mkCx base 7 [(14,zl2)] [] [] [] [] []
def zyH (u:Term) (p1:Term):Wy0 (Bool):=.bn (zfV u p1) fun r0=>.k r0
def zf4 (u:Term) (p1:Term):Bool×Bool:=(zyH u p1).fin default
def zJ9:AL base (Term×Term×Unit):=zd (ze (vAgg 28)) (zd (ze (zy2 28)) aNil)
def zir:Ab.Spec ty:=zh zJ9 fun x=>((zf4 x.1 x.2.1).1,zTU (zf4 x.1 x.2.1).2)
theorem zlW:SdP 61 zir:=
 sW (cx':=zIa) zr zi zk (zj ⟨zrx,trivial⟩) Tryz.call61 Tryz.func61 (c:=body Tryz.f61) (lOK aN)
abbrev zcZ:=yC×(Term×Unit)×Int×Int×Unit
def zsH (s:yC) (f:Term) (t7:Int) (t8:Int):Wy zcZ (Unit) (Int⊕Unit):=.i (decide (t8<t7)) (.i (decide (0≤t8)&&decide (t8<Int.ofNat s.length)) (.bn (zf4 (s.getD t8.toNat default) f) fun r0=>.i (r0) (.k (.inl t8)) (.h (s,(f,()),t7,(IntKind.i64.wrap (t8+1)),()) ())) .d) (.k (.inr ()))
def ziJ (x:zcZ) (y:Unit):Wy zcZ (Unit) (Int⊕Unit):=zsH x.1 x.2.1.1 x.2.2.1 x.2.2.2.1
def zsp (n:Nat) (s:yC) (f:Term) (t7:Int) (t8:Int):Bool×(Int⊕Unit):=zF (ziJ) (.inl default) n (s,(f,()),t7,t8,()) ()
def zsF:LL ty zcZ:=za (lSl 28) (za (lFn 61 (za (znd (zfl (fun x=>(⟨x.1,x.2.1⟩:Term)) (fun x=>(x.Coeff,x.Factors,())) (fun _=>rfl) (za lI64 (za (lSl 69) zn))) 0) zn)) (za lI64 (za lI64 zn)))
def zr7 (x:zcZ) (y:Unit):Nat:=(x.1.length+x.2.1.1.Factors.length+Int.toNat x.2.2.1+Int.toNat x.2.2.2.1+1000)
def zi1:Cx ty:=mkCx base 19 [(61,zir)] [] [(2,(kpL [0,1,7,8]))] [(2,1,[]),(2,0,(kpL [4]))] [(2,spW zsF z6c (ziJ) (.inl default) zs2 zr7)] []
theorem zsh:zK zi1 (lp (body Tryz.f113) 0):=zu (id:=2) (hl:=rfl)
def ztN (s:yC) (f:Term):Wy0 (Int):=.bn (zsp (s.length+f.Factors.length+(Int.ofNat s.length).toNat +Int.toNat 0+1000) s f (Int.ofNat s.length) 0) fun r2=>.i (isL r2) (.k (getL r2)) (.k (-1:Int))
def zdZ (s:yC) (f:Term):Bool×Int:=(ztN s f).fin default
def ztT:AL base (yC×(Term×Unit)×Unit):=zd (ze (vSl 28)) (zd (ze (vFn 61 (zdH (zy2 28) vNil))) aNil)
def zhz:Ab.Spec ty:=zh ztT fun x=>((zdZ x.1 x.2.1.1).1,zN6 (zdZ x.1 x.2.1.1).2)
theorem zp9:SdP 113 zhz:=
 sW (cx':=zi1) zr zi zk (zj ⟨zlW,trivial⟩) Tryz.call113 Tryz.func113 (c:=body Tryz.f113) (lOK (aC zsh aN))
def zqe:Cx ty:=mkCx base 9 [(61,zir),(113,zhz)] [] [] [] [] []
def zhC (s:yC) (f:Term):Wy0 (Bool):=.bn (zdZ s f) fun r0=>.k (decide (r0≥0))
def zch (s:yC) (f:Term):Bool×Bool:=(zhC s f).fin default
def zgJ:Ab.Spec ty:=zh ztT fun x=>((zch x.1 x.2.1.1).1,zTU (zch x.1 x.2.1.1).2)
theorem zn7:SdP 59 zgJ:=
 sW (cx':=zqe) zr zi zk (zj ⟨zlW,zp9,trivial⟩) Tryz.call59 Tryz.func59 (c:=body Tryz.f59) (lOK aN)
def zNb:Cx ty:=mkCx base 8 [(59,zgJ),(61,zir)] [] [] [] [] []
def zBY (t:Term) (p1:yC):Wy0 (Bool):=.bn (zch p1 t) fun r0=>.k (!r0)
def ziz (t:Term) (p1:yC):Bool×Bool:=(zBY t p1).fin default
def zPa:AL base (Term×(yC×Unit)×Unit):=zd (ze (vAgg 28)) (zd (ze (vBox (zdH (vSl 28) vNil))) aNil)
def zkJ:Ab.Spec ty:=zh zPa fun x=>((ziz x.1 x.2.1.1).1,zTU (ziz x.1 x.2.1.1).2)
theorem zoq:SdP 60 zkJ:=
 sW (cx':=zNb) zr zi zk (zj ⟨zn7,zlW,trivial⟩) Tryz.call60 Tryz.func60 (c:=body Tryz.f60) (lOK aN)
abbrev zc6:=yC×((yC×Unit)×Unit)×Int×Int×Unit
def ztM (s:yC) (f:yC) (t7:Int) (t8:Int):Wy zc6 (Unit) (Int⊕Unit):=.i (decide (t8<t7)) (.i (decide (0≤t8)&&decide (t8<Int.ofNat s.length)) (.bn (ziz (s.getD t8.toNat default) f) fun r0=>.i (r0) (.k (.inl t8)) (.h (s,((f,()),()),t7,(IntKind.i64.wrap (t8+1)),()) ())) .d) (.k (.inr ()))
def zje (x:zc6) (y:Unit):Wy zc6 (Unit) (Int⊕Unit):=ztM x.1 x.2.1.1.1 x.2.2.1 x.2.2.2.1
def zt1 (n:Nat) (s:yC) (f:yC) (t7:Int) (t8:Int):Bool×(Int⊕Unit):=zF (zje) (.inl default) n (s,((f,()),()),t7,t8,()) ()
def ztf:LL ty zc6:=za (lSl 28) (za (lFn 60 (za (znd (za (lSl 28) zn) 0) zn)) (za lI64 (za lI64 zn)))
def zs0 (x:zc6) (y:Unit):Nat:=(x.1.length+x.2.1.1.1.length+Int.toNat x.2.2.1+Int.toNat x.2.2.2.1+1000)
def zjm:Cx ty:=mkCx base 19 [(60,zkJ)] [] [(2,(kpL [0,1,7,8]))] [(2,1,[]),(2,0,(kpL [4]))] [(2,spW ztf z6c (zje) (.inl default) zs2 zs0)] []
theorem zsx:zK zjm (lp (body Tryz.f113) 0):=zu (id:=2) (hl:=rfl)
def zuB (s:yC) (f:yC):Wy0 (Int):=.bn (zt1 (s.length+f.length+(Int.ofNat s.length).toNat +Int.toNat 0+1000) s f (Int.ofNat s.length) 0) fun r2=>.i (isL r2) (.k (getL r2)) (.k (-1:Int))
def zd9 (s:yC) (f:yC):Bool×Int:=(zuB s f).fin default
def zuw:AL base (yC×((yC×Unit)×Unit)×Unit):=zd (ze (vSl 28)) (zd (ze (vFn 60 (zdH (vBox (zdH (vSl 28) vNil)) vNil))) aNil)
def zid:Ab.Spec ty:=zh zuw fun x=>((zd9 x.1 x.2.1.1.1).1,zN6 (zd9 x.1 x.2.1.1.1).2)
theorem zq9:SdP 113 zid:=
 sW (cx':=zjm) zr zi zk (zj ⟨zoq,trivial⟩) Tryz.call113 Tryz.func113 (c:=body Tryz.f113) (lOK (aC zsx aN))
def zq7:Cx ty:=mkCx base 9 [(60,zkJ),(113,zid)] [] [] [] [] []
def zie (s:yC) (f:yC):Wy0 (Bool):=.bn (zd9 s f) fun r0=>.k (decide (r0≥0))
def zcp (s:yC) (f:yC):Bool×Bool:=(zie s f).fin default
def zg4:Ab.Spec ty:=zh zuw fun x=>((zcp x.1 x.2.1.1.1).1,zTU (zcp x.1 x.2.1.1.1).2)
theorem zoy:SdP 59 zg4:=
 sW (cx':=zq7) zr zi zk (zj ⟨zoq,zq9,trivial⟩) Tryz.call59 Tryz.func59 (c:=body Tryz.f59) (lOK aN)
def zSC:Cx ty:=mkCx base 17 [(20,annotation_Valid_spec),(59,zg4),(60,zkJ)] [] [] [] [] []
def zE2 (a:yC) (b:yC):Wy0 (Bool):=.bn (zbU a) fun r2=>.i (!r2) (.k false) (.bn (zbU b) fun r1=>.i (!r1) (.k false) (.bn (zcp a b) fun r0=>.k (!r0)))
def zeN (a:yC) (b:yC):Bool×Bool:=(zE2 a b).fin default
def zuq:Ab.Spec ty:=zh zRZ fun x=>((zeN x.1 x.2.1).1,zTU (zeN x.1 x.2.1).2)
theorem zBd:SdP 18 zuq:=
 sW (cx':=zSC) zr zi zk (zj ⟨zb9,zoy,zoq,trivial⟩) Tryz.call18 Tryz.func18 (c:=body Tryz.f18) (lOK aN)
def zdy (F:Term→Bool×Bool):Ab.Spec ty:=zh zPh fun x=>((F x.1).1,zTU (F x.1).2)
def zcN (F:Factor→Bool×Bool):Ab.Spec ty:=zh zJK fun x=>((F x.1).1,zTU (F x.1).2)
def ztn:AL base (yC×Unit×Unit):=zd (ze (vSl 28)) (zd (ze (vFn 141 vNil)) aNil)
def zdA (F:yC→Bool×Int):Ab.Spec ty:=zh ztn fun x=>((F x.1).1,zN6 (F x.1).2)
def zdf (F:yC→Bool×Bool):Ab.Spec ty:=zh ztn fun x=>((F x.1).1,zTU (F x.1).2)
def zui:AL base (yD×Unit×Unit):=zd (ze (vSl 69)) (zd (ze (vFn 142 vNil)) aNil)
def zdP (F:yD→Bool×Int):Ab.Spec ty:=zh zui fun x=>((F x.1).1,zN6 (F x.1).2)
def zdj (F:yD→Bool×Bool):Ab.Spec ty:=zh zui fun x=>((F x.1).1,zTU (F x.1).2)
def zJL (z8:yC→Bool×Bool) (zq:Term→Bool×Bool):Cx ty:=mkCx base 6 [(59,(zdf z8)),(141,(zdy zq))] [] [] [] [] []
def zMm (z8:yC→Bool×Bool) (zq:Term→Bool×Bool) (a:yC):Wy0 (Bool):=.bn (z8 a) fun r0=>.k (!r0)
def zBU (z8:yC→Bool×Bool) (zq:Term→Bool×Bool) (a:yC):Bool×Bool:=(zMm z8 zq a).fin default
theorem zFH (z8:yC→Bool×Bool) (zq:Term→Bool×Bool) (zpI:SdP 59 (zdf z8)) (zfU:SdP 141 (zdy zq)):SdP 73 (zhF (zBU z8 zq)):=
 sW (cx':=(zJL z8 zq)) zr zi zk (zj ⟨zpI,zfU,trivial⟩) Tryz.call73 Tryz.func73 (c:=body Tryz.f73) (lOK aN)
def zFV (zbb:yD→Bool×Bool) (zl:Factor→Bool×Bool):Cx ty:=mkCx base 6 [(49,(zdj zbb)),(142,(zcN zl))] [] [] [] [] []
def zGP (zbb:yD→Bool×Bool) (zl:Factor→Bool×Bool) (t:Term):Wy0 (Bool):=.bn (zbb t.Factors) fun r0=>.k r0
def zyZ (zbb:yD→Bool×Bool) (zl:Factor→Bool×Bool) (t:Term):Bool×Bool:=(zGP zbb zl t).fin default
theorem zDd (zbb:yD→Bool×Bool) (zl:Factor→Bool×Bool) (zqc:SdP 49 (zdj zbb)) (zeX:SdP 142 (zcN zl)):SdP 141 (zdy (zyZ zbb zl)):=
 sW (cx':=(zFV zbb zl)) zr zi zk (zj ⟨zqc,zeX,trivial⟩) Tryz.call141 Tryz.func141 (c:=body Tryz.f141) (lOK aN)
def zDj (zdN:yC→Bool×Bool):Cx ty:=mkCx base 22 [(73,(zhF zdN))] [] [] [] [] []
def zDU (zdN:yC→Bool×Bool) (f:Factor):Wy0 (Bool):=.i (f.Atom.Kind != 0) (.i (f.Atom.Kind != 2) (.k true) (.i (decide ((0:Int)≤(0:Int))&&decide (0<Int.ofNat f.Atom.Args.length)) (.bn (zdN (f.Atom.Args.getD (Int.toNat 0) default)) fun r0=>.k (!r0)) .d)) (.k false)
def zvF (zdN:yC→Bool×Bool) (f:Factor):Bool×Bool:=(zDU zdN f).fin default
theorem zBv (zdN:yC→Bool×Bool) (zKC:SdP 73 (zhF zdN)):SdP 142 (zcN (zvF zdN)):=
 sW (cx':=(zDj zdN)) zr zi zk (zj ⟨zKC,trivial⟩) Tryz.call142 Tryz.func142 (c:=body Tryz.f142) (lOK aN)
def zo9 (zbi:yD→Bool×Int) (zl:Factor→Bool×Bool):Cx ty:=mkCx base 9 [(103,(zdP zbi)),(142,(zcN zl))] [] [] [] [] []
def zqi (zbi:yD→Bool×Int) (zl:Factor→Bool×Bool) (s:yD):Wy0 (Bool):=.bn (zbi s) fun r0=>.k (decide (r0≥0))
def zil (zbi:yD→Bool×Int) (zl:Factor→Bool×Bool) (s:yD):Bool×Bool:=(zqi zbi zl s).fin default
theorem znO (zbi:yD→Bool×Int) (zl:Factor→Bool×Bool) (zsT:SdP 103 (zdP zbi)) (zeX:SdP 142 (zcN zl)):SdP 49 (zdj (zil zbi zl)):=
 sW (cx':=(zo9 zbi zl)) zr zi zk (zj ⟨zsT,zeX,trivial⟩) Tryz.call49 Tryz.func49 (c:=body Tryz.f49) (lOK aN)
def zo2 (zbg:yC→Bool×Int) (zq:Term→Bool×Bool):Cx ty:=mkCx base 9 [(113,(zdA zbg)),(141,(zdy zq))] [] [] [] [] []
def zpJ (zbg:yC→Bool×Int) (zq:Term→Bool×Bool) (s:yC):Wy0 (Bool):=.bn (zbg s) fun r0=>.k (decide (r0≥0))
def zhW (zbg:yC→Bool×Int) (zq:Term→Bool×Bool) (s:yC):Bool×Bool:=(zpJ zbg zq s).fin default
theorem znz (zbg:yC→Bool×Int) (zq:Term→Bool×Bool) (zsj:SdP 113 (zdA zbg)) (zfU:SdP 141 (zdy zq)):SdP 59 (zdf (zhW zbg zq)):=
 sW (cx':=(zo2 zbg zq)) zr zi zk (zj ⟨zsj,zfU,trivial⟩) Tryz.call59 Tryz.func59 (c:=body Tryz.f59) (lOK aN)
abbrev zc9:=yD×Unit×Int×Int×Unit
def zsb (zl:Factor→Bool×Bool) (s:yD) (t7:Int) (t8:Int):Wy zc9 (Unit) (Int⊕Unit):=.i (decide (t8<t7)) (.i (decide (0≤t8)&&decide (t8<Int.ofNat s.length)) (.bn (zl (FactorOf.mk (Atom.mk (s.getD t8.toNat default).Atom.Kind (s.getD t8.toNat default).Atom.Row (s.getD t8.toNat default).Atom.Args (s.getD t8.toNat default).Atom.Func (s.getD t8.toNat default).Atom.Items (s.getD t8.toNat default).Atom.Op (s.getD t8.toNat default).Atom.Bound) (s.getD t8.toNat default).Exp)) fun r0=>.i (r0) (.k (.inl t8)) (.h (s,(),t7,(IntKind.i64.wrap (t8+1)),()) ())) .d) (.k (.inr ()))
def zim (zl:Factor→Bool×Bool) (x:zc9) (y:Unit):Wy zc9 (Unit) (Int⊕Unit):=zsb zl x.1 x.2.2.1 x.2.2.2.1
def zrT (zl:Factor→Bool×Bool) (n:Nat) (s:yD) (t7:Int) (t8:Int):Bool×(Int⊕Unit):=zF (zim zl) (.inl default) n (s,(),t7,t8,()) ()
def zrZ:LL ty zc9:=za (lSl 69) (za (lFn 142 (zn)) (za lI64 (za lI64 zn)))
def zqY (x:zc9) (y:Unit):Nat:=(x.1.length+Int.toNat x.2.2.1+Int.toNat x.2.2.2.1+1000)
def zin (zl:Factor→Bool×Bool):Cx ty:=mkCx base 19 [(142,(zcN zl))] [] [(2,(kpL [0,1,7,8]))] [(2,1,[]),(2,0,(kpL [4]))] [(2,spW zrZ z6c (zim zl) (.inl default) zs2 zqY)] []
theorem zrd (zl:Factor→Bool×Bool):zK (zin zl) (lp (body Tryz.f103) 0):=zu (id:=2) (hl:=rfl)
def zsw (zl:Factor→Bool×Bool) (s:yD):Wy0 (Int):=.bn (zrT zl (s.length+(Int.ofNat s.length).toNat +Int.toNat 0+1000) s (Int.ofNat s.length) 0) fun r2=>.i (isL r2) (.k (getL r2)) (.k (-1:Int))
def zjN (zl:Factor→Bool×Bool) (s:yD):Bool×Int:=(zsw zl s).fin default
theorem zph (zl:Factor→Bool×Bool) (zeX:SdP 142 (zcN zl)):SdP 103 (zdP (zjN zl)):=
 sW (cx':=(zin zl)) zr zi zk (zj ⟨zeX,trivial⟩) Tryz.call103 Tryz.func103 (c:=body Tryz.f103) (lOK (aC (zrd zl) aN))
abbrev zc2:=yC×Unit×Int×Int×Unit
def zqM (zq:Term→Bool×Bool) (s:yC) (t7:Int) (t8:Int):Wy zc2 (Unit) (Int⊕Unit):=.i (decide (t8<t7)) (.i (decide (0≤t8)&&decide (t8<Int.ofNat s.length)) (.bn (zq (s.getD t8.toNat default)) fun r0=>.i (r0) (.k (.inl t8)) (.h (s,(),t7,(IntKind.i64.wrap (t8+1)),()) ())) .d) (.k (.inr ()))
def zhA (zq:Term→Bool×Bool) (x:zc2) (y:Unit):Wy zc2 (Unit) (Int⊕Unit):=zqM zq x.1 x.2.2.1 x.2.2.2.1
def zqU (zq:Term→Bool×Bool) (n:Nat) (s:yC) (t7:Int) (t8:Int):Bool×(Int⊕Unit):=zF (zhA zq) (.inl default) n (s,(),t7,t8,()) ()
def zqD:LL ty zc2:=za (lSl 28) (za (lFn 141 (zn)) (za lI64 (za lI64 zn)))
def zqo (x:zc2) (y:Unit):Nat:=(x.1.length+Int.toNat x.2.2.1+Int.toNat x.2.2.2.1+1000)
def zhK (zq:Term→Bool×Bool):Cx ty:=mkCx base 19 [(141,(zdy zq))] [] [(2,(kpL [0,1,7,8]))] [(2,1,[]),(2,0,(kpL [4]))] [(2,spW zqD z6c (zhA zq) (.inl default) zs2 zqo)] []
theorem zp6 (zq:Term→Bool×Bool):zK (zhK zq) (lp (body Tryz.f113) 0):=zu (id:=2) (hl:=rfl)
def zr1 (zq:Term→Bool×Bool) (s:yC):Wy0 (Int):=.bn (zqU zq (s.length+(Int.ofNat s.length).toNat +Int.toNat 0+1000) s (Int.ofNat s.length) 0) fun r2=>.i (isL r2) (.k (getL r2)) (.k (-1:Int))
def zjj (zq:Term→Bool×Bool) (s:yC):Bool×Int:=(zr1 zq s).fin default
theorem zoC (zq:Term→Bool×Bool) (zfU:SdP 141 (zdy zq)):SdP 113 (zdA (zjj zq)):=
 sW (cx':=(zhK zq)) zr zi zk (zj ⟨zfU,trivial⟩) Tryz.call113 Tryz.func113 (c:=body Tryz.f113) (lOK (aC (zp6 zq) aN))
def zcW:Nat→(yC→Bool×Bool)×(Term→Bool×Bool)×(Factor→Bool×Bool)×(yC→Bool×Int)×(yC→Bool×Bool)×(yD→Bool×Int)×(yD→Bool×Bool)
 | 0=>(fun _=>(false,default),fun _=>(false,default),fun _=>(false,default),fun _=>(false,default),fun _=>(false,default),fun _=>(false,default),fun _=>(false,default))
 | n+1=>(zBU ((zcW n).2.2.2.2.1) ((zcW n).2.1),zyZ ((zcW n).2.2.2.2.2.2) ((zcW n).2.2.1),zvF ((zcW n).1),zjj ((zcW n).2.1),zhW ((zcW n).2.2.2.1) ((zcW n).2.1),zjN ((zcW n).2.2.1),zil ((zcW n).2.2.2.2.2.1) ((zcW n).2.2.1))
def zBX (n:Nat):yC→Bool×Bool:=(zcW n).1
def zJM (n:Nat):Term→Bool×Bool:=(zcW n).2.1
def zFP (n:Nat):Factor→Bool×Bool:=(zcW n).2.2.1
def ztm (n:Nat):yC→Bool×Int:=(zcW n).2.2.2.1
def zrF (n:Nat):yC→Bool×Bool:=(zcW n).2.2.2.2.1
def zum (n:Nat):yD→Bool×Int:=(zcW n).2.2.2.2.2.1
def zsc (n:Nat):yD→Bool×Bool:=(zcW n).2.2.2.2.2.2
theorem zNw:∀ n,SdP 73 (zhF (zBX n))∧SdP 141 (zdy (zJM n))∧SdP 142 (zcN (zFP n))∧SdP 113 (zdA (ztm n))∧SdP 59 (zdf (zrF n))∧SdP 103 (zdP (zum n))∧SdP 49 (zdj (zsc n))
 | 0=>⟨z6 Tryz.call73 (fun _=>rfl),z6 Tryz.call141 (fun _=>rfl),z6 Tryz.call142 (fun _=>rfl),z6 Tryz.call113 (fun _=>rfl),z6 Tryz.call59 (fun _=>rfl),z6 Tryz.call103 (fun _=>rfl),z6 Tryz.call49 (fun _=>rfl)⟩
 | n+1=>by
  have ih:=zNw n;exact ⟨zFH _ _ (ih.2.2.2.2.1) (ih.2.1),zDd _ _ (ih.2.2.2.2.2.2) (ih.2.2.1),zBv _ (ih.1),zoC _ (ih.2.1),znz _ _ (ih.2.2.2.1) (ih.2.1),zph _ (ih.2.2.1),znO _ _ (ih.2.2.2.2.2.1) (ih.2.2.1)⟩
def zDK:yC→Bool×Bool:=zBX 1000
def absorption_explained_spec:Ab.Spec ty:=zhF zDK
theorem zHW:SdP 73 absorption_explained_spec:=(zNw 1000).1
def zMk (r:yB):ARes ty:=⟨[.own 43 r],[]⟩
def zjC (F:yC→Bool×yB):Ab.Spec ty:=zh zU2 fun x=>((F x.1).1,zMk (F x.1).2)
abbrev zeH:=yF×yF×Int×Int×Unit
def zzH (s1:yF) (s2:yF) (t12:Int) (t13:Int):Wy zeH (Unit) (Bool⊕Unit):=.i (decide (t13<t12)) (.i (decide (0≤t13)&&decide (t13<Int.ofNat s1.length)) (.i (decide (0≤t13)&&decide (t13<Int.ofNat s2.length)) (.i (!((s1.getD t13.toNat default).Table==(s2.getD t13.toNat default).Table&&((s1.getD t13.toNat default).Seq==(s2.getD t13.toNat default).Seq&&true))) (.k (.inl false)) (.h (s1,s2,t12,(IntKind.i64.wrap (t13+1)),()) ())) .d) .d) (.k (.inr ()))
def znw (x:zeH) (y:Unit):Wy zeH (Unit) (Bool⊕Unit):=zzH x.1 x.2.1 x.2.2.1 x.2.2.2.1
def zzw (n:Nat) (s1:yF) (s2:yF) (t12:Int) (t13:Int):Bool×(Bool⊕Unit):=zF (znw) (.inl default) n (s1,s2,t12,t13,()) ()
def zzO:LL ty zeH:=za (lSl 49) (za (lSl 49) (za lI64 (za lI64 zn)))
def zzh (x:zeH) (y:Unit):Nat:=(x.1.length+x.2.1.length+Int.toNat x.2.2.1+Int.toNat x.2.2.2.1+1)
def znb:Cx ty:=mkCx base 26 [] [] [(4,(kpL [0,1,12,13]))] [(4,1,[]),(4,0,(kpL [4]))] [(4,spW zzO z6c (znw) (.inl default) zOp zzh)] []
theorem zzg:zK znb (lp (body Tryz.f209) 0):=zu (id:=4) (hl:=rfl)
def zAO (s1:yF) (s2:yF):Wy0 (Bool):=.i (Int.ofNat s1.length != Int.ofNat s2.length) (.k false) (.bn (zzw (s1.length+s2.length+(Int.ofNat s1.length).toNat +Int.toNat 0+1) s1 s2 (Int.ofNat s1.length) 0) fun r0=>.i (isL r0) (.k (getL r0)) (.k true))
def zjI (s1:yF) (s2:yF):Bool×Bool:=(zAO s1 s2).fin default
def zAI:AL base (yF×yF×Unit):=zd (ze (vSl 49)) (zd (ze (vSl 49)) aNil)
def zmi:Ab.Spec ty:=zh zAI fun x=>((zjI x.1 x.2.1).1,zTU (zjI x.1 x.2.1).2)
theorem zxu:SdP 209 zmi:=
 sW (cx':=znb) zr zi zk (zj trivial) Tryz.call209 Tryz.func209 (c:=body Tryz.f209) (lOK (aC zzg aN))
def zT5:Cx ty:=mkCx base 8 [(209,zmi)] [] [] [] [] []
def zV2 (a:yF) (b:yF):Wy0 (Bool):=.bn (zjI a b) fun r0=>.k r0
def zw9 (a:yF) (b:yF):Bool×Bool:=(zV2 a b).fin default
def zvI:Ab.Spec ty:=zh zAI fun x=>((zw9 x.1 x.2.1).1,zTU (zw9 x.1 x.2.1).2)
theorem zBG:SdP 208 zvI:=
 sW (cx':=zT5) zr zi zk (zj ⟨zxu,trivial⟩) Tryz.call208 Tryz.func208 (c:=body Tryz.f208) (lOK aN)
def zZd:Cx ty:=mkCx base 17 [(120,zlj),(121,zlo)] [] [] [] [] []
def z0v (a:RowID) (b:RowID):Wy0 (Int):=.bn (zd8 a.Table b.Table) fun r2=>.bn (zd8 a.Seq b.Seq) fun r1=>.bn (zmZ [r2,r1]) fun r0=>.k r0
def zmK (a:RowID) (b:RowID):Bool×Int:=(z0v a b).fin default
def z0c:AL base (RowID×RowID×Unit):=zd (ze (vAgg 49)) (zd (ze (vAgg 49)) aNil)
def zmh:Ab.Spec ty:=zh z0c fun x=>((zmK x.1 x.2.1).1,zN6 (zmK x.1 x.2.1).2)
theorem zpx:SdP 233 zmh:=
 sW (cx':=zZd) zr zi zk (zj ⟨zmJ,znZ,trivial⟩) Tryz.call233 Tryz.func233 (c:=body Tryz.f233) (lOK aN)
def zeY:Cx ty:={ base with nt:=8 }
def zfI (s:yF):Bool×yF:=(decide (s.length*16≤reach),s)
def zgO:Ab.Spec ty:=zh (cx:=base) (zd (ze (vSl 49)) aNil) fun x=>((zfI x.1).1,⟨[.own 49 (zfI x.1).2],[]⟩)
theorem zzm:zg5 zeY Tryz.f212 (body Tryz.f212) ⟨[.own 49],[]⟩ [.pure (.lit (.slice none 0 0))]=some ⟨[.own 49 []],[]⟩:=by kernel_rfl
theorem zx0 (p:Addr) (c:Nat):zg5 zeY Tryz.f212 (body Tryz.f212) ⟨[.own 49],[]⟩ [.pure (.lit (.slice (some p) 0 c))]=some ⟨[.own 49 []],[]⟩:=by kernel_rfl
theorem zyC (l:yF):zg5 zeY Tryz.f212 (body Tryz.f212) ⟨[.own 49],[]⟩ [.pure (.sl 49 l)]=bif !l.isEmpty then bif decide ((([]:List (ty 49)).length+l.length)*16≤reach) then some ⟨[.own 49 l],[]⟩ else none else none:=by kernel_rfl
theorem zlQ:SdP 212 zgO:=
 zGk (cx':=zeY) (bytes:=16) zr zi ⟨⟨rfl,rfl,rfl,rfl,rfl,rfl⟩,rfl⟩ (fun g s h=>by cases h) Tryz.call212 Tryz.func212 (c:=body Tryz.f212) (by kernel_rfl) (zAS (l:=[]) (by kernel_rfl) trivial) zzm zx0 zyC (by kernel_rfl)
end Go.Proofs.YtljlfiomikifjaaGreatDoor
end
