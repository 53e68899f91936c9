/- Texts of this claim, joined (the program, its functions in plain words, and what they compute). -/
import Derived.Test.YtljlfiomikifjaaGreatDoorGC3
set_option autoImplicit false
set_option linter.unusedVariables false
set_option linter.unusedSectionVars false
set_option linter.unusedSimpArgs false
set_option maxRecDepth 1000000
set_option maxHeartbeats 0
noncomputable section
namespace Go.Proofs.YtljlfiomikifjaaGreatDoor
open Go Go.Ab
open Go.Proofs Go.RowKit
def zcr (x:yE) (m:Int):Bool×yE:=(decide (SortOK zbe x)&&(decide (m=x.length)&&decide (m<20)),ziA zbe x)
def zmn:Ab.Spec ty:=zh (cx:=base) (zd (aOwn 100) (zd (ze (vInt .i64)) (zd (ze (vFn 124 vNil)) aNil))) fun x=>((zcr x.1 x.2.1).1,⟨[],[some ⟨100,(zcr x.1 x.2.1).2⟩]⟩)
set_option maxHeartbeats 1000000 in
theorem zxO:SdP 262 zmn where
 enters:=Tryz.call262
 calls:=fun avs r hsp w F vs hF ha hsep=>by
  unfold zmn zh at hsp;split at hsp
  ·rename_i x hx;simp only [qa,qb] at hsp;obtain ⟨hpre,rfl⟩:=hsp;have hk:=(zd (aOwn 100) (zd (ze (vInt .i64)) (zd (ze (vFn 124 vNil)) aNil)):AL base _).kind vs avs x hx;have ha':=(zd (aOwn 100) (zd (ze (vInt .i64)) (zd (ze (vFn 124 vNil)) aNil)):AL base _).ok Tryz.prog zi F w vs avs x hx ha;rw [hk] at hsep ⊢;clear hk hx ha;obtain ⟨l0,m,c,u0⟩:=x;obtain ⟨l,rfl⟩:∃ l:yE,l=l0:=⟨l0,rfl⟩;obtain ⟨v,vs',rfl,hv,hv'⟩:=ha'.inv;obtain ⟨mv,vs1,rfl,hm,hv1⟩:=hv'.inv;obtain ⟨fv,vs'',rfl,hfv,h0⟩:=hv1.inv;obtain rfl:=h0.nil_left.1;have hm:Rep base F w mv (.lit (.int .i64 m)):=hm;obtain rfl:mv=.int .i64 m:=by cases hm; rfl
   have hsl:∃ p cap,v=.slice p l.length cap:=by
    obtain ⟨⟨xs,hown,_⟩,_⟩:=(show zcR base F w v 100 l∧∀ b,zbf v=some b→¬ F b from hv)
    rcases hown.2 with ⟨h1,h2⟩ | ⟨g0,cap,cur,h1,_⟩
    ·exact ⟨none,0,by rw [h1,show l.length=0 from h2]⟩
    ·exact ⟨_,cap,h1⟩
   have hpre:(decide (SortOK (α:=Weighted) zbe l)&&(decide (m=l.length)&&decide (m<20)))=true:=hpre;simp only [qc,qe] at hpre;obtain ⟨hok,rfl,h20⟩:=hpre
   have hpp:(zf9 l 0 (l.length:Int)).1=true:=by
    show (decide (SortOK (α:=Weighted) zbe l)&&(decide ((0:Int)=0)&&decide ((l.length:Int)=l.length)))=true;simp only [qc,qe];exact ⟨hok,trivial,trivial⟩
   have hp:=(zs0).calls [.own 100 l,.pure (.lit (.int .i64 0)),.pure (.lit (.int .i64 (l.length:Int))),.pure (.fn 124 [])] ⟨[],[some ⟨100,(zcr l (l.length:Int)).2⟩]⟩
    (by rw [← hpp]; kernel_rfl) w F [v,.int .i64 0,.int .i64 (l.length:Int),fv] hF (.cons hv (.cons (Rep.lit _) (.cons (Rep.lit _) (.cons hfv .nil)))) hsep
   replace hp:Calls Tryz.prog 281 #[v,.int .i64 0,.int .i64 (l.length:Int),fv] w fun e w'=>∃ u,e=.returned u∧Post base F w [v] ⟨[],[some ⟨100,(zcr l (l.length:Int)).2⟩]⟩ u w':=hp
   show Calls Tryz.prog 262 #[v,.int .i64 (l.length:Int),fv] w fun e w'=>∃ u,e=.returned u∧Post base F w [v] ⟨[],[some ⟨100,(zcr l (l.length:Int)).2⟩]⟩ u w'
   generalize (zcr l (l.length:Int)).2=res at hp ⊢;generalize hn:l.length=m at *;clear hpp hv hfv hsep hok hF hm;obtain ⟨p,cap,rfl⟩:=hsl;clear hn
   go_enter Tryz.func262,Tryz.ntmps262
   go_wp2
   refine wp_loop_rounds 1 ?_;rw [rounds_succ]
   go_wp2_with (go_at_call 281; refine hp.mono ?_; rintro e w' ⟨u,rfl,hpost⟩; obtain rfl:=hpost.unit)
   refine wp_loop_rounds 1 ?_;rw [rounds_succ]
   go_wp2
   all_goals first | (exfalso; omega) | (go_end0; exact ⟨_,rfl,hpost⟩)
  ·cases hsp
end Go.Proofs.YtljlfiomikifjaaGreatDoor
namespace Go.Proofs.YtljlfiomikifjaaGreatDoor
open Go Go.Ab
open Go.Proofs Go.RowKit
def zbn (x:yE):Bool×yE:=(decide (SortOK zbe x)&&decide (x.length<20),ziA zbe x)
def zd4:Ab.Spec ty:=zh (cx:=base) (zd (aOwn 100) (zd (ze (vFn 124 vNil)) aNil)) fun x=>((zbn x.1).1,⟨[],[some ⟨100,(zbn x.1).2⟩]⟩)
set_option maxHeartbeats 1000000 in
theorem znh:SdP 242 zd4 where
 enters:=Tryz.call242
 calls:=fun avs r hsp w F vs hF ha hsep=>by
  unfold zd4 zh at hsp;split at hsp
  ·rename_i x hx;simp only [qa,qb] at hsp;obtain ⟨hpre,rfl⟩:=hsp;have hk:=(zd (aOwn 100) (zd (ze (vFn 124 vNil)) aNil):AL base _).kind vs avs x hx;have ha':=(zd (aOwn 100) (zd (ze (vFn 124 vNil)) aNil):AL base _).ok Tryz.prog zi F w vs avs x hx ha;rw [hk] at hsep ⊢;clear hk hx ha;obtain ⟨l0,c,u0⟩:=x;obtain ⟨l,rfl⟩:∃ l:yE,l=l0:=⟨l0,rfl⟩;obtain ⟨v,vs',rfl,hv,hv'⟩:=ha'.inv;obtain ⟨fv,vs'',rfl,hfv,h0⟩:=hv'.inv;obtain rfl:=h0.nil_left.1
   have hsl:∃ p cap,v=.slice p l.length cap:=by
    obtain ⟨⟨xs,hown,_⟩,_⟩:=(show zcR base F w v 100 l∧∀ b,zbf v=some b→¬ F b from hv)
    rcases hown.2 with ⟨h1,h2⟩ | ⟨g0,cap,cur,h1,_⟩
    ·exact ⟨none,0,by rw [h1,show l.length=0 from h2]⟩
    ·exact ⟨_,cap,h1⟩
   have hpre:(decide (SortOK (α:=Weighted) zbe l)&&decide (l.length<20))=true:=hpre;simp only [qc,qe] at hpre;obtain ⟨hok,h20⟩:=hpre
   have hpp:(zcr l (l.length:Int)).1=true:=by
    show (decide (SortOK (α:=Weighted) zbe l)&&(decide ((l.length:Int)=l.length)&&decide ((l.length:Int)<20)))=true;simp only [qc,qe];exact ⟨hok,trivial,by omega⟩
   have hp:=(zxO).calls [.own 100 l,.pure (.lit (.int .i64 (l.length:Int))),.pure (.fn 124 [])] ⟨[],[some ⟨100,(zbn l).2⟩]⟩
    (by rw [← hpp]; kernel_rfl) w F [v,.int .i64 (l.length:Int),fv] hF (.cons hv (.cons (Rep.lit _) (.cons hfv .nil))) hsep
   replace hp:Calls Tryz.prog 262 #[v,.int .i64 (l.length:Int),fv] w fun e w'=>∃ u,e=.returned u∧Post base F w [v] ⟨[],[some ⟨100,(zbn l).2⟩]⟩ u w':=hp
   show Calls Tryz.prog 242 #[v,fv] w fun e w'=>∃ u,e=.returned u∧Post base F w [v] ⟨[],[some ⟨100,(zbn l).2⟩]⟩ u w'
   generalize (zbn l).2=res at hp ⊢;generalize hn:l.length=m at *;clear hpp hv hfv hsep hok hF;obtain ⟨p,cap,rfl⟩:=hsl;clear hn
   go_enter Tryz.func242,Tryz.ntmps242
   go_wp2_with (go_at_call 262; refine hp.mono ?_; rintro e w' ⟨u,rfl,hpost⟩; obtain rfl:=hpost.unit)
   go_end0
   exact ⟨_,rfl,hpost⟩
  ·cases hsp
end Go.Proofs.YtljlfiomikifjaaGreatDoor
namespace Go.Proofs.YtljlfiomikifjaaGreatDoor
open Go Go.Ab
abbrev zmk:=Unit×yE×Int×Int×Unit
abbrev zjv:=yE×Unit
def zmt (t6:yE) (t7:Int) (t8:Int) (out_:yE):Wy zmk zjv (yE):=.i (decide (t8<t7)) (.i (decide (0≤t8)&&decide (t8<Int.ofNat t6.length)) (.i (decide (Int.ofNat (t6.getD t8.toNat default).Ann.length>0)) (.bn (zgE (t6.getD t8.toNat default).Ann) fun r0=>.i (decide ((out_.length+[WeightedOf.mk (t6.getD t8.toNat default).Value r0].length)*56≤reach)) (.h ((),t6,t7,(IntKind.i64.wrap (t8+1)),()) ((out_++[WeightedOf.mk (t6.getD t8.toNat default).Value r0]),())) .d) (.h ((),t6,t7,(IntKind.i64.wrap (t8+1)),()) (out_,()))) .d) (.k out_)
def zyw (x:zmk) (y:zjv):Wy zmk zjv (yE):=zmt x.2.1 x.2.2.1 x.2.2.2.1 y.1
def zE2 (n:Nat) (t6:yE) (t7:Int) (t8:Int) (out_:yE):Bool×yE:=zI (zyw) default n ((),t6,t7,t8,()) (out_,())
def zSz (r:yE):LTree ty:=.done (.exit 0) [.own 116] [.arr 100 r false]
def zTO:LL ty zmk:=za (lOwn 116) (za (lSl 100) (za lI64 (za lI64 zp)))
def zTK:BL ty zjv:=bArr 100 false (bNil)
def zRJ (x:zmk) (y:zjv):Nat:=(x.2.1.length+Int.toNat x.2.2.1+Int.toNat x.2.2.2.1+y.1.length+1)
def zE1:Cx ty:=mkCx base 29 [(87,annotation_copied_spec),(124,annotation_compareItems_spec),(242,zd4)] [(242,[true,false])] [(3,[(3,.own 100),(6,.keep),(7,.keep),(8,.keep)])] [(3,1,(kpL [3]))] [(3,spW zTO zTK (zyw) default zSz zRJ)] []
theorem zSG:zL zE1 (lp (body Tryz.f218) 0):=zw (id:=3) (hl:=rfl)
def zHJ (l:yE):Wy0 (yE):=.bn (zE2 (l.length+(Int.ofNat l.length).toNat +Int.toNat 0+0+1) l (Int.ofNat l.length) 0 []) fun r3=>.bn (zbn r3) fun r2=>.k r2
def zqP (l:yE):Bool×yE:=(zHJ l).fin default
def zR5 (r:yE):ARes ty:=⟨[.own 100 r],[]⟩
def zVz:AL base zjv:=zd (ze (vSl 100)) aNil
def zCN:Ab.Spec ty:=zh zVz fun x=>((zqP x.1).1,zR5 (zqP x.1).2)
theorem zOV:SdP 218 zCN:=
 sW (cx':=zE1) zq zi zl (zj ⟨ziH,zhz,znh,trivial⟩) Tryz.call218 Tryz.func218 (c:=body Tryz.f218) (lOK (aC zSG aN)) (sg:=⟨[.own 100],[]⟩)
def zQD:Cx ty:=mkCx base 7 [(20,annotation_Valid_spec)] [] [] [] [] []
def zEm (w:Weighted):Wy0 (Bool):=.bn (zb2 w.Ann) fun r0=>.k (!r0)
def znp (w:Weighted):Bool×Bool:=(zEm w).fin default
def zmd:Ab.Spec ty:=zh zJg fun x=>((znp x.1).1,zTP (znp x.1).2)
theorem zrA:SdP 217 zmd:=
 sW (cx':=zQD) zq zi zl (zj ⟨zcb,trivial⟩) Tryz.call217 Tryz.func217 (c:=body Tryz.f217) (lOK aN)
def zTk:Cx ty:=mkCx base 28 [] [] [] [] [] []
def zHa (op:Int) (sign:Int):Wy0 (Bool):=.i (op==5) (.k (sign==0)) (.i (op==6) (.k (sign != 0)) (.i (op==7) (.k (decide (sign<0))) (.i (op==8) (.k (decide (sign≤0))) (.i (op==9) (.k (decide (sign>0))) (.k (decide (sign≥0)))))))
def zrj (op:Int) (sign:Int):Bool×Bool:=(zHa op sign).fin default
def zDe:Ab.Spec ty:=zh zTI fun x=>((zrj x.1 x.2.1).1,zTP (zrj x.1 x.2.1).2)
theorem zNV:SdP 219 zDe:=
 sW (cx':=zTk) zq zi zl (zj trivial) Tryz.call219 Tryz.func219 (c:=body Tryz.f219) (lOK aN)
abbrev zcs:=yE×Unit×Int×Int×Unit
def zqn (s:yE) (t7:Int) (t8:Int):Wy zcs (Unit) (Int⊕Unit):=.i (decide (t8<t7)) (.i (decide (0≤t8)&&decide (t8<Int.ofNat s.length)) (.bn (znp (s.getD t8.toNat default)) fun r0=>.i (r0) (.k (.inl t8)) (.h (s,(),t7,(IntKind.i64.wrap (t8+1)),()) ())) .d) (.k (.inr ()))
def zhi (x:zcs) (y:Unit):Wy zcs (Unit) (Int⊕Unit):=zqn x.1 x.2.2.1 x.2.2.2.1
def zqy (n:Nat) (s:yE) (t7:Int) (t8:Int):Bool×(Int⊕Unit):=zI (zhi) (.inl default) n (s,(),t7,t8,()) ()
def zqk:LL ty zcs:=za (lSl 100) (za (lFn 217 (zp)) (za lI64 (za lI64 zp)))
def zpN (x:zcs) (y:Unit):Nat:=(x.1.length+Int.toNat x.2.2.1+Int.toNat x.2.2.2.1+1)
def zhn:Cx ty:=mkCx base 19 [(217,zmd)] [] [(2,(kpL [0,1,7,8]))] [(2,1,[]),(2,0,(kpL [4]))] [(2,spW zqk z5G (zhi) (.inl default) zsS zpN)] []
theorem zpn:zL zhn (lp (body Tryz.f163) 0):=zw (id:=2) (hl:=rfl)
def zrv (s:yE):Wy0 (Int):=.bn (zqy (s.length+(Int.ofNat s.length).toNat +Int.toNat 0+1) s (Int.ofNat s.length) 0) fun r2=>.i (isL r2) (.k (getL r2)) (.k (-1:Int))
def zdu (s:yE):Bool×Int:=(zrv s).fin default
def zrC:AL base (yE×Unit×Unit):=zd (ze (vSl 100)) (zd (ze (vFn 217 vNil)) aNil)
def zgC:Ab.Spec ty:=zh zrC fun x=>((zdu x.1).1,zO3 (zdu x.1).2)
theorem zos:SdP 163 zgC:=
 sW (cx':=zhn) zq zi zl (zj ⟨zrA,trivial⟩) Tryz.call163 Tryz.func163 (c:=body Tryz.f163) (lOK (aC zpn aN))
def zox:Cx ty:=mkCx base 9 [(163,zgC),(217,zmd)] [] [] [] [] []
def zgO (s:yE):Wy0 (Bool):=.bn (zdu s) fun r0=>.k (decide (r0≥0))
def zb8 (s:yE):Bool×Bool:=(zgO s).fin default
def zf0:Ab.Spec ty:=zh zrC fun x=>((zb8 x.1).1,zTP (zb8 x.1).2)
theorem zm5:SdP 132 zf0:=
 sW (cx':=zox) zq zi zl (zj ⟨zos,zrA,trivial⟩) Tryz.call132 Tryz.func132 (c:=body Tryz.f132) (lOK aN)
def zWQ:Cx ty:=mkCx base 45 [(36,zrJ),(70,zeM),(132,zf0),(135,zsL),(138,zmZ),(152,zgv),(217,zmd),(218,zCN),(219,zDe)] [] [] [] [] []
def zI5 (fn:Int) (items:yE) (op:Int) (bound:Value):Wy0 (yC×Int):=.bn (zko fn items op bound) fun r5=>.i (!r5) (.k ([],1)) (.bn (zb8 items) fun r4=>.i (r4) (.k ([],1)) (.bn (zqP items) fun r3=>.i (decide (Int.ofNat r3.length>0)) (.bn (zer (zfm (Atom.mk 4 (RowID.mk 0 0) [] fn r3 op bound)).2) fun r0=>.k (r0.1,r0.2)) (.i (fn==0) (.bn (zi6 0 bound.Int) fun r2=>.bn (zrj op r2) fun r1=>.i (r1) (.k (zvP.2,0)) (.k ([],0))) (.k ([],0)))))
def zob (fn:Int) (items:yE) (op:Int) (bound:Value):Bool×(yC×Int):=(zI5 fn items op bound).fin default
def zEh:Ab.Spec ty:=zh zR8 fun x=>((zob x.1 x.2.1 x.2.2.1 x.2.2.2.1).1,zOH (zob x.1 x.2.1 x.2.2.1 x.2.2.2.1).2)
theorem zPb:SdP 180 zEh:=
 sW (cx':=zWQ) zq zi zl (zj ⟨zwM,zfE,zm5,zAb,zsw,ziY,zrA,zOV,zNV,trivial⟩) Tryz.call180 Tryz.func180 (c:=body Tryz.f180) (lOK aN) (sg:=⟨[.own 28,.pure],[]⟩)
abbrev zgY:=((yG×Unit)×Unit)×Unit×Unit×yA×Int×Int×Unit
abbrev zgX:=Atom×yA×Unit
abbrev zkE:=Int⊕(yG×Atom×yA)
abbrev zhd:=((yG×Unit)×Unit)×Unit×Unit×yE×Int×Int×Unit
abbrev zg4:=Atom×yE×Unit
abbrev zkL:=Int⊕(Atom×yE)
def zno (zS:yC→yG→Bool×(yC×Int)) (to:yG) (t24:yA) (t25:Int) (t26:Int) (x_:Atom) (args:yA):Wy zgY zgX zkE:=.i (decide (t26<t25)) (.i (decide (0≤t26)&&decide (t26<Int.ofNat t24.length)) (.bn (zS (t24.getD t26.toNat default) to) fun r2=>.i (r2.2 != 0) (.k (.inl (r2.2))) (.i (decide ((args.length+[r2.1].length)*24≤reach)) (.h (((to,()),()),(),(),t24,t25,(IntKind.i64.wrap (t26+1)),()) (x_,(args++[r2.1]),())) .d)) .d) (.k (.inr (to,x_,args)))
def zwA (zS:yC→yG→Bool×(yC×Int)) (x:zgY) (y:zgX):Wy zgY zgX zkE:=zno zS x.1.1.1 x.2.2.2.1 x.2.2.2.2.1 x.2.2.2.2.2.1 y.1 y.2.1
def zjl (zS:yC→yG→Bool×(yC×Int)) (n:Nat) (to:yG) (t24:yA) (t25:Int) (t26:Int) (x_:Atom) (args:yA):Bool×zkE:=zI (zwA zS) (.inl default) n (((to,()),()),(),(),t24,t25,t26,()) (x_,args,())
def zGk (r:zkE):LTree ty:=.ite (isL r) (.done .ret [.lit (.slice none 0 0),.lit (.int .i64 (getL r))] []) (.done (.exit 0) [.fn 84 ([.bptr ([.sl 51 (getR r).1]) 0]),.ptr 432 0,.own 433] [.box (base.enc 67 (getR r).2.1) false,.arr 23 (getR r).2.2 false])
def zHx:LL ty zgY:=za (lFn 84 (za (zny (za (lSl 51) zp) 0) zp)) (za (zfl 432 0) (za (lOwn 433) (za (lSl 23) (za lI64 (za lI64 zp)))))
def zHp:BL ty zgX:=bBox (zg1 (fun x=>(⟨x.1,⟨x.2.1,x.2.2.1⟩,x.2.2.2.1,x.2.2.2.2.1,x.2.2.2.2.2.1,x.2.2.2.2.2.2.1,⟨x.2.2.2.2.2.2.2.1,x.2.2.2.2.2.2.2.2.1,x.2.2.2.2.2.2.2.2.2.1⟩⟩:Atom)) (fun x=>(x.Kind,x.Row.Table,x.Row.Seq,x.Args,x.Func,x.Items,x.Op,x.Bound.Kind,x.Bound.Int,x.Bound.Text,())) (fun _=>rfl) (za (lInt .i64) (za (lInt .i64) (za (lInt .i64) (za (lSl 23) (za (lInt .i64) (za (lSl 100) (za (lInt .i64) (za (lInt .i64) (za (lInt .i64) (za lStr zp))))))))))) false (bArr 23 false (bNil))
def zmS (zS:yC→yG→Bool×(yC×Int)) (to:yG) (t74:yE) (t75:Int) (t76:Int) (x_:Atom) (items:yE):Wy zhd zg4 zkL:=.i (decide (t76<t75)) (.i (decide (0≤t76)&&decide (t76<Int.ofNat t74.length)) (.bn (zS (t74.getD t76.toNat default).Ann to) fun r4=>.i (r4.2 != 0) (.k (.inl (r4.2))) (.i (decide ((items.length+[WeightedOf.mk (t74.getD t76.toNat default).Value r4.1].length)*56≤reach)) (.h (((to,()),()),(),(),t74,t75,(IntKind.i64.wrap (t76+1)),()) (x_,(items++[WeightedOf.mk (t74.getD t76.toNat default).Value r4.1]),())) .d)) .d) (.k (.inr (x_,items)))
def zu8 (zS:yC→yG→Bool×(yC×Int)) (x:zhd) (y:zg4):Wy zhd zg4 zkL:=zmS zS x.1.1.1 x.2.2.2.1 x.2.2.2.2.1 x.2.2.2.2.2.1 y.1 y.2.1
def ziC (zS:yC→yG→Bool×(yC×Int)) (n:Nat) (to:yG) (t74:yE) (t75:Int) (t76:Int) (x_:Atom) (items:yE):Bool×zkL:=zI (zu8 zS) (.inl default) n (((to,()),()),(),(),t74,t75,t76,()) (x_,items,())
def zEK (r:zkL):LTree ty:=.ite (isL r) (.done .ret [.lit (.slice none 0 0),.lit (.int .i64 (getL r))] []) (.done (.exit 3) [.ptr 432 0,.own 433] [.box (base.enc 67 (getR r).1) false,.arr 100 (getR r).2 false])
def zFN:LL ty zhd:=za (lFn 84 (za (zny (za (lSl 51) zp) 0) zp)) (za (zfl 432 0) (za (lOwn 433) (za (lSl 100) (za lI64 (za lI64 zp)))))
def zFQ:BL ty zg4:=bBox (zg1 (fun x=>(⟨x.1,⟨x.2.1,x.2.2.1⟩,x.2.2.2.1,x.2.2.2.2.1,x.2.2.2.2.2.1,x.2.2.2.2.2.2.1,⟨x.2.2.2.2.2.2.2.1,x.2.2.2.2.2.2.2.2.1,x.2.2.2.2.2.2.2.2.2.1⟩⟩:Atom)) (fun x=>(x.Kind,x.Row.Table,x.Row.Seq,x.Args,x.Func,x.Items,x.Op,x.Bound.Kind,x.Bound.Int,x.Bound.Text,())) (fun _=>rfl) (za (lInt .i64) (za (lInt .i64) (za (lInt .i64) (za (lSl 23) (za (lInt .i64) (za (lSl 100) (za (lInt .i64) (za (lInt .i64) (za (lInt .i64) (za lStr zp))))))))))) false (bArr 100 false (bNil))
def zFG (x:zgY) (y:zgX):Nat:=(x.1.1.1.length+x.2.2.2.1.length+Int.toNat x.2.2.2.2.1+Int.toNat x.2.2.2.2.2.1+y.1.Args.length+y.1.Items.length+y.2.1.length+1)
def zEI (x:zhd) (y:zg4):Nat:=(x.1.1.1.length+x.2.2.2.1.length+Int.toNat x.2.2.2.2.1+Int.toNat x.2.2.2.2.2.1+y.1.Args.length+y.1.Items.length+y.2.1.length+1)
def znz (zS:yC→yG→Bool×(yC×Int)):Cx ty:=mkCx base0 108 [(83,(zll zS)),(84,zhw),(177,zC0),(178,zDh),(179,zBY),(180,zEh)] [] [(5,[(1,.keep),(2,.keep),(6,.own 23),(24,.keep),(25,.keep),(26,.keep)]),(21,[(1,.keep),(2,.keep),(11,.own 100),(74,.keep),(75,.keep),(76,.keep)])] [(5,1,(kpL [1,2,6])),(5,0,(kpL [4,5])),(21,4,(kpL [2,11])),(21,0,(kpL [4,5]))] [(5,spW zHx zHp (zwA zS) (.inl default) zGk zFG),(21,spW zFN zFQ (zu8 zS) (.inl default) zEK zEI)] []
theorem zF0 (zS:yC→yG→Bool×(yC×Int)):zL (znz zS) (lp (body Tryz.f150) 0):=zw (id:=5) (hl:=rfl)
theorem zET (zS:yC→yG→Bool×(yC×Int)):zL (znz zS) (lp (body Tryz.f150) 1):=zw (id:=21) (hl:=rfl)
def zxT (zS:yC→yG→Bool×(yC×Int)) (x_:Atom) (to:yG):Wy0 (yC×Int):=.i (x_.Kind==0) (.bn (zhT x_.Row to) fun r6=>.k (r6,0)) (.bn (zjl zS (to.length+x_.Args.length+(Int.ofNat x_.Args.length).toNat +Int.toNat 0+x_.Args.length+x_.Items.length+0+1) to x_.Args (Int.ofNat x_.Args.length) 0 (Atom.mk x_.Kind x_.Row x_.Args x_.Func x_.Items x_.Op x_.Bound) []) fun r12=>.i (isL r12) (.k ([],getL r12)) (.i ((getR r12).2.1.Kind==1) (.i (decide ((0:Int)≤(0:Int))&&decide (0<Int.ofNat (getR r12).2.2.length)) (.i (decide ((0:Int)≤(1:Int))&&decide (1<Int.ofNat (getR r12).2.2.length)) (.bn (zq0 ((getR r12).2.2.getD (Int.toNat 0) default) ((getR r12).2.2.getD (Int.toNat 1) default)) fun r7=>.k (r7.1,r7.2)) .d) .d) (.i ((getR r12).2.1.Kind==2) (.i (decide ((0:Int)≤(0:Int))&&decide (0<Int.ofNat (getR r12).2.2.length)) (.bn (zrF ((getR r12).2.2.getD (Int.toNat 0) default)) fun r8=>.k (r8.1,r8.2)) .d) (.i ((getR r12).2.1.Kind==3) (.i (decide ((0:Int)≤(0:Int))&&decide (0<Int.ofNat (getR r12).2.2.length)) (.bn (zoP ((getR r12).2.2.getD (Int.toNat 0) default)) fun r9=>.k (r9.1,r9.2)) .d) (.bn (ziC zS ((getR r12).1.length+(getR r12).2.1.Items.length+(Int.ofNat (getR r12).2.1.Items.length).toNat +Int.toNat 0+(getR r12).2.1.Args.length+(getR r12).2.1.Items.length+0+1) (getR r12).1 (getR r12).2.1.Items (Int.ofNat (getR r12).2.1.Items.length) 0 (Atom.mk (getR r12).2.1.Kind (getR r12).2.1.Row (getR r12).2.1.Args (getR r12).2.1.Func (getR r12).2.1.Items (getR r12).2.1.Op (getR r12).2.1.Bound) []) fun r11=>.i (isL r11) (.k ([],getL r11)) (.bn (zob (getR r11).1.Func (getR r11).2 (getR r11).1.Op (getR r11).1.Bound) fun r10=>.k (r10.1,r10.2)))))))
def zh2 (zS:yC→yG→Bool×(yC×Int)) (x_:Atom) (to:yG):Bool×(yC×Int):=(zxT zS x_ to).fin default
theorem zEc (zS:yC→yG→Bool×(yC×Int)) (zOT:Sound Tryz.prog base0 83 (zll zS)):Sound Tryz.prog base0 150 (zls (zh2 zS)):=
 sW (cx':=(znz zS)) zq zi7 zl (zj ⟨zOT,zle.nodr,zNW.nodr,zOc.nodr,zMC.nodr,zPb.nodr,trivial⟩) Tryz.call150 Tryz.func150 (c:=body Tryz.f150) (lOK (aC (zF0 zS) (aC (zET zS) aN))) (sg:=⟨[.own 28,.pure],[]⟩)
def zGt:Nat→(yC→yG→Bool×(yC×Int))×(Atom→yG→Bool×(yC×Int))
 | 0=>(fun _ _=>(false,default),fun _ _=>(false,default))
 | n+1=>(zlJ ((zGt n).2),zh2 ((zGt n).1))
def zlI (n:Nat):yC→yG→Bool×(yC×Int):=(zGt n).1
def zhF (n:Nat):Atom→yG→Bool×(yC×Int):=(zGt n).2
theorem zME (n:Nat):zlI (n+1)=zlJ (zhF n):=rfl
theorem zHy (n:Nat):zhF (n+1)=zh2 (zlI n):=rfl
theorem zST:∀ n,Sound Tryz.prog base0 83 (zll (zlI n))∧Sound Tryz.prog base0 150 (zls (zhF n))
 | 0=>⟨z6 Tryz.call83 (fun _=>rfl),z6 Tryz.call150 (fun _=>rfl)⟩
 | n+1=>by
  have ih:=zST n;exact ⟨zHY _ (ih.2),zEc _ (ih.1)⟩
def zz3:yC→yG→Bool×(yC×Int):=zlI 1000
def annotation_replace_spec:Ab.Spec ty:=zll zz3
theorem zLS:Sound Tryz.prog base0 83 annotation_replace_spec:=(zST 1000).1
def zHu:Cx ty:=mkCx base 7 [(20,annotation_Valid_spec)] [] [] [] [] []
def zxU (b:Binding):Wy0 (Bool):=.bn (zb2 b.To) fun r0=>.k (!r0)
def zhP (b:Binding):Bool×Bool:=(zxU b).fin default
def zIj:AL base (Binding×Unit):=zd (ze (vAgg 51)) aNil
def zhx:Ab.Spec ty:=zh zIj fun x=>((zhP x.1).1,zTP (zhP x.1).2)
theorem zlz:SdP 82 zhx:=
 sW (cx':=zHu) zq zi zl (zj ⟨zcb,trivial⟩) Tryz.call82 Tryz.func82 (c:=body Tryz.f82) (lOK aN)
abbrev zcP:=yG×Unit×Int×Int×Unit
def zrR (s:yG) (t7:Int) (t8:Int):Wy zcP (Unit) (Int⊕Unit):=.i (decide (t8<t7)) (.i (decide (0≤t8)&&decide (t8<Int.ofNat s.length)) (.bn (zhP (s.getD t8.toNat default)) fun r0=>.i (r0) (.k (.inl t8)) (.h (s,(),t7,(IntKind.i64.wrap (t8+1)),()) ())) .d) (.k (.inr ()))
def zig (x:zcP) (y:Unit):Wy zcP (Unit) (Int⊕Unit):=zrR x.1 x.2.2.1 x.2.2.2.1
def zsh (n:Nat) (s:yG) (t7:Int) (t8:Int):Bool×(Int⊕Unit):=zI (zig) (.inl default) n (s,(),t7,t8,()) ()
def zrS:LL ty zcP:=za (lSl 51) (za (lFn 82 (zp)) (za lI64 (za lI64 zp)))
def zrp (x:zcP) (y:Unit):Nat:=(x.1.length+Int.toNat x.2.2.1+Int.toNat x.2.2.2.1+1)
def zie:Cx ty:=mkCx base 19 [(82,zhx)] [] [(2,(kpL [0,1,7,8]))] [(2,1,[]),(2,0,(kpL [4]))] [(2,spW zrS z5G (zig) (.inl default) zsS zrp)] []
theorem zrE:zL zie (lp (body Tryz.f85) 0):=zw (id:=2) (hl:=rfl)
def zsN (s:yG):Wy0 (Int):=.bn (zsh (s.length+(Int.ofNat s.length).toNat +Int.toNat 0+1) s (Int.ofNat s.length) 0) fun r2=>.i (isL r2) (.k (getL r2)) (.k (-1:Int))
def zdN (s:yG):Bool×Int:=(zsN s).fin default
def zsJ:AL base (yG×Unit×Unit):=zd (ze (vSl 51)) (zd (ze (vFn 82 vNil)) aNil)
def zhu:Ab.Spec ty:=zh zsJ fun x=>((zdN x.1).1,zO3 (zdN x.1).2)
theorem zpg:SdP 85 zhu:=
 sW (cx':=zie) zq zi zl (zj ⟨zlz,trivial⟩) Tryz.call85 Tryz.func85 (c:=body Tryz.f85) (lOK (aC zrE aN))
def zpQ:Cx ty:=mkCx base 9 [(82,zhx),(85,zhu)] [] [] [] [] []
def zhm (s:yG):Wy0 (Bool):=.bn (zdN s) fun r0=>.k (decide (r0≥0))
def zce (s:yG):Bool×Bool:=(zhm s).fin default
def zgl:Ab.Spec ty:=zh zsJ fun x=>((zce x.1).1,zTP (zce x.1).2)
theorem znR:SdP 81 zgl:=
 sW (cx':=zpQ) zq zi zl (zj ⟨zlz,zpg,trivial⟩) Tryz.call81 Tryz.func81 (c:=body Tryz.f81) (lOK aN)
def zLI:Cx ty:=mkCx base0 18 [(20,annotation_Valid_spec),(81,zgl),(82,zhx),(83,annotation_replace_spec),(84,zhw)] [] [] [] [] []
def zAY (a:yC) (l:yG):Wy0 (yC×Int):=.bn (zb2 a) fun r2=>.i (!r2) (.k ([],1)) (.bn (zce l) fun r1=>.i (r1) (.k ([],1)) (.bn (zz3 a l) fun r0=>.k (r0.1,r0.2)))
def zfH (a:yC) (l:yG):Bool×(yC×Int):=(zAY a l).fin default
def zMm:AL base0 (yC×yG×Unit):=zd (ze (vSl 28)) (zd (ze (vSl 51)) aNil)
def zop:Ab.Spec ty:=zh zMm fun x=>((zfH x.1 x.2.1).1,zOH (zfH x.1 x.2.1).2)
theorem zwH:Sound Tryz.prog base0 29 zop:=
 sW (cx':=zLI) zq zi7 zl (zj ⟨zcb.nodr,znR.nodr,zlz.nodr,zLS,zle.nodr,trivial⟩) Tryz.call29 Tryz.func29 (c:=body Tryz.f29) (lOK aN) (sg:=⟨[.own 28,.pure],[]⟩)
def zR2:Cx ty:=mkCx base0 11 [(29,zop)] [] [] [] [] []
def zE4 (a:yC):Wy0 (yC):=.bn (zfH a []) fun r0=>.k r0.1
def zoU (a:yC):Bool×yC:=(zE4 a).fin default
def zBE:Ab.Spec ty:=zh zXL fun x=>((zoU x.1).1,zOj (zoU x.1).2)
theorem zMJ:Sound Tryz.prog base0 68 zBE:=
 sW (cx':=zR2) zq zi7 zl (zj ⟨zwH,trivial⟩) Tryz.call68 Tryz.func68 (c:=body Tryz.f68) (lOK aN) (sg:=⟨[.own 28],[]⟩)
def zKa:Cx ty:=mkCx base 8 [] [] [] [] [] []
def zzY (x_:Atom):Wy0 (yC):=.k [TermOf.mk 1 [FactorOf.mk (Atom.mk x_.Kind x_.Row x_.Args x_.Func x_.Items x_.Op x_.Bound) 1]]
def zgw (x_:Atom):Bool×yC:=(zzY x_).fin default
def zwF:Ab.Spec ty:=zh zBO fun x=>((zgw x.1).1,zOj (zgw x.1).2)
theorem zFn:SdP 104 zwF:=
 sW (cx':=zKa) zq zi zl (zj trivial) Tryz.call104 Tryz.func104 (c:=body Tryz.f104) (lOK aN) (sg:=⟨[.own 28],[]⟩)
def zO1:Cx ty:=mkCx base 13 [(21,zkw),(104,zwF)] [] [] [] [] []
def zCH (x_:Atom) (y_:Atom):Wy0 (Bool):=.bn (zeW (zgw (Atom.mk x_.Kind x_.Row x_.Args x_.Func x_.Items x_.Op x_.Bound)).2 (zgw (Atom.mk y_.Kind y_.Row y_.Args y_.Func y_.Items y_.Op y_.Bound)).2) fun r0=>.k r0
def zmB (x_:Atom) (y_:Atom):Bool×Bool:=(zCH x_ y_).fin default
def zzZ:Ab.Spec ty:=zh zJ4 fun x=>((zmB x.1 x.2.1).1,zTP (zmB x.1 x.2.1).2)
theorem zJ7:SdP 52 zzZ:=
 sW (cx':=zO1) zq zi zl (zj ⟨zm2,zFn,trivial⟩) Tryz.call52 Tryz.func52 (c:=body Tryz.f52) (lOK aN)
def zHz:Cx ty:=mkCx base 16 [(52,zzZ)] [] [] [] [] []
def zx3 (g:Factor) (p1:Factor):Wy0 (Bool):=.i (decide (p1.Exp≤g.Exp)) (.bn (zmB (Atom.mk p1.Atom.Kind p1.Atom.Row p1.Atom.Args p1.Atom.Func p1.Atom.Items p1.Atom.Op p1.Atom.Bound) (Atom.mk g.Atom.Kind g.Atom.Row g.Atom.Args g.Atom.Func g.Atom.Items g.Atom.Op g.Atom.Bound)) fun r0=>.k r0) (.k false)
def zeA (g:Factor) (p1:Factor):Bool×Bool:=(zx3 g p1).fin default
def zIh:AL base (Factor×Factor×Unit):=zd (ze (vAgg 69)) (zd (ze (zze 69)) aNil)
def zhy:Ab.Spec ty:=zh zIh fun x=>((zeA x.1 x.2.1).1,zTP (zeA x.1 x.2.1).2)
theorem zlx:SdP 51 zhy:=
 sW (cx':=zHz) zq zi zl (zj ⟨zJ7,trivial⟩) Tryz.call51 Tryz.func51 (c:=body Tryz.f51) (lOK aN)
abbrev zda:=yD×(Factor×Unit)×Int×Int×Unit
def zjc (s:yD) (f:Factor) (t7:Int) (t8:Int):Wy zda (Unit) (Int⊕Unit):=.i (decide (t8<t7)) (.i (decide (0≤t8)&&decide (t8<Int.ofNat s.length)) (.bn (zeA (FactorOf.mk (Atom.mk (s.getD t8.toNat default).Atom.Kind (s.getD t8.toNat default).Atom.Row (s.getD t8.toNat default).Atom.Args (s.getD t8.toNat default).Atom.Func (s.getD t8.toNat default).Atom.Items (s.getD t8.toNat default).Atom.Op (s.getD t8.toNat default).Atom.Bound) (s.getD t8.toNat default).Exp) (FactorOf.mk (Atom.mk f.Atom.Kind f.Atom.Row f.Atom.Args f.Atom.Func f.Atom.Items f.Atom.Op f.Atom.Bound) f.Exp)) fun r0=>.i (r0) (.k (.inl t8)) (.h (s,(f,()),t7,(IntKind.i64.wrap (t8+1)),()) ())) .d) (.k (.inr ()))
def zdx (x:zda) (y:Unit):Wy zda (Unit) (Int⊕Unit):=zjc x.1 x.2.1.1 x.2.2.1 x.2.2.2.1
def zjm (n:Nat) (s:yD) (f:Factor) (t7:Int) (t8:Int):Bool×(Int⊕Unit):=zI (zdx) (.inl default) n (s,(f,()),t7,t8,()) ()
def ztA:LL ty zda:=za (lSl 69) (za (lFn 51 (za (zny (zg1 (fun x=>(⟨⟨x.1,⟨x.2.1,x.2.2.1⟩,x.2.2.2.1,x.2.2.2.2.1,x.2.2.2.2.2.1,x.2.2.2.2.2.2.1,⟨x.2.2.2.2.2.2.2.1,x.2.2.2.2.2.2.2.2.1,x.2.2.2.2.2.2.2.2.2.1⟩⟩,x.2.2.2.2.2.2.2.2.2.2.1⟩:Factor)) (fun x=>(x.Atom.Kind,x.Atom.Row.Table,x.Atom.Row.Seq,x.Atom.Args,x.Atom.Func,x.Atom.Items,x.Atom.Op,x.Atom.Bound.Kind,x.Atom.Bound.Int,x.Atom.Bound.Text,x.Exp,())) (fun _=>rfl) (za lI64 (za lI64 (za lI64 (za (lSl 23) (za lI64 (za (lSl 100) (za lI64 (za lI64 (za lI64 (za lStr (za lI64 zp)))))))))))) 0) zp)) (za lI64 (za lI64 zp)))
def zsB (x:zda) (y:Unit):Nat:=(x.1.length+x.2.1.1.Atom.Args.length+x.2.1.1.Atom.Items.length+Int.toNat x.2.2.1+Int.toNat x.2.2.2.1+1000)
def zjb:Cx ty:=mkCx base 19 [(51,zhy)] [] [(2,(kpL [0,1,7,8]))] [(2,1,[]),(2,0,(kpL [4]))] [(2,spW ztA z5G (zdx) (.inl default) zsS zsB)] []
theorem zsx:zL zjb (lp (body Tryz.f103) 0):=zw (id:=2) (hl:=rfl)
def zjL (s:yD) (f:Factor):Wy0 (Int):=.bn (zjm (s.length+f.Atom.Args.length+f.Atom.Items.length+(Int.ofNat s.length).toNat +Int.toNat 0+1000) s (FactorOf.mk (Atom.mk f.Atom.Kind f.Atom.Row f.Atom.Args f.Atom.Func f.Atom.Items f.Atom.Op f.Atom.Bound) f.Exp) (Int.ofNat s.length) 0) fun r2=>.i (isL r2) (.k (getL r2)) (.k (-1:Int))
def zcK (s:yD) (f:Factor):Bool×Int:=(zjL s f).fin default
def zuy:AL base (yD×(Factor×Unit)×Unit):=zd (ze (vSl 69)) (zd (ze (vFn 51 (zdz (zze 69) vNil))) aNil)
def zim:Ab.Spec ty:=zh zuy fun x=>((zcK x.1 x.2.1.1).1,zO3 (zcK x.1 x.2.1.1).2)
theorem zqQ:SdP 103 zim:=
 sW (cx':=zjb) zq zi zl (zj ⟨zlx,trivial⟩) Tryz.call103 Tryz.func103 (c:=body Tryz.f103) (lOK (aC zsx aN))
def zrB:Cx ty:=mkCx base 9 [(51,zhy),(103,zim)] [] [] [] [] []
def zik (s:yD) (f:Factor):Wy0 (Bool):=.bn (zcK s (FactorOf.mk (Atom.mk f.Atom.Kind f.Atom.Row f.Atom.Args f.Atom.Func f.Atom.Items f.Atom.Op f.Atom.Bound) f.Exp)) fun r0=>.k (decide (r0≥0))
def zcq (s:yD) (f:Factor):Bool×Bool:=(zik s f).fin default
def zg5:Ab.Spec ty:=zh zuy fun x=>((zcq x.1 x.2.1.1).1,zTP (zcq x.1 x.2.1.1).2)
theorem zoG:SdP 49 zg5:=
 sW (cx':=zrB) zq zi zl (zj ⟨zlx,zqQ,trivial⟩) Tryz.call49 Tryz.func49 (c:=body Tryz.f49) (lOK aN)
def zKs:Cx ty:=mkCx base 9 [(49,zg5),(51,zhy)] [] [] [] [] []
def zA3 (f:Factor) (p1:Term):Wy0 (Bool):=.bn (zcq p1.Factors (FactorOf.mk (Atom.mk f.Atom.Kind f.Atom.Row f.Atom.Args f.Atom.Func f.Atom.Items f.Atom.Op f.Atom.Bound) f.Exp)) fun r0=>.k (!r0)
def zfF (f:Factor) (p1:Term):Bool×Bool:=(zA3 f p1).fin default
def zMQ:AL base (Factor×Term×Unit):=zd (ze (vAgg 69)) (zd (ze (zze 28)) aNil)
def zjU:Ab.Spec ty:=zh zMQ fun x=>((zfF x.1 x.2.1).1,zTP (zfF x.1 x.2.1).2)
theorem znF:SdP 50 zjU:=
 sW (cx':=zKs) zq zi zl (zj ⟨zoG,zlx,trivial⟩) Tryz.call50 Tryz.func50 (c:=body Tryz.f50) (lOK aN)
abbrev zdk:=yD×(Term×Unit)×Int×Int×Unit
def zjS (s:yD) (f:Term) (t7:Int) (t8:Int):Wy zdk (Unit) (Int⊕Unit):=.i (decide (t8<t7)) (.i (decide (0≤t8)&&decide (t8<Int.ofNat s.length)) (.bn (zfF (FactorOf.mk (Atom.mk (s.getD t8.toNat default).Atom.Kind (s.getD t8.toNat default).Atom.Row (s.getD t8.toNat default).Atom.Args (s.getD t8.toNat default).Atom.Func (s.getD t8.toNat default).Atom.Items (s.getD t8.toNat default).Atom.Op (s.getD t8.toNat default).Atom.Bound) (s.getD t8.toNat default).Exp) f) fun r0=>.i (r0) (.k (.inl t8)) (.h (s,(f,()),t7,(IntKind.i64.wrap (t8+1)),()) ())) .d) (.k (.inr ()))
def zdP (x:zdk) (y:Unit):Wy zdk (Unit) (Int⊕Unit):=zjS x.1 x.2.1.1 x.2.2.1 x.2.2.2.1
def zjO (n:Nat) (s:yD) (f:Term) (t7:Int) (t8:Int):Bool×(Int⊕Unit):=zI (zdP) (.inl default) n (s,(f,()),t7,t8,()) ()
def zue:LL ty zdk:=za (lSl 69) (za (lFn 50 (za (zny (zg1 (fun x=>(⟨x.1,x.2.1⟩:Term)) (fun x=>(x.Coeff,x.Factors,())) (fun _=>rfl) (za lI64 (za (lSl 69) zp))) 0) zp)) (za lI64 (za lI64 zp)))
def ztm (x:zdk) (y:Unit):Nat:=(x.1.length+x.2.1.1.Factors.length+Int.toNat x.2.2.1+Int.toNat x.2.2.2.1+1000)
def zjw:Cx ty:=mkCx base 19 [(50,zjU)] [] [(2,(kpL [0,1,7,8]))] [(2,1,[]),(2,0,(kpL [4]))] [(2,spW zue z5G (zdP) (.inl default) zsS ztm)] []
theorem zth:zL zjw (lp (body Tryz.f103) 0):=zw (id:=2) (hl:=rfl)
def zjY (s:yD) (f:Term):Wy0 (Int):=.bn (zjO (s.length+f.Factors.length+(Int.ofNat s.length).toNat +Int.toNat 0+1000) s f (Int.ofNat s.length) 0) fun r2=>.i (isL r2) (.k (getL r2)) (.k (-1:Int))
def zcY (s:yD) (f:Term):Bool×Int:=(zjY s f).fin default
def zuR:AL base (yD×(Term×Unit)×Unit):=zd (ze (vSl 69)) (zd (ze (vFn 50 (zdz (zze 28) vNil))) aNil)
def ziX:Ab.Spec ty:=zh zuR fun x=>((zcY x.1 x.2.1.1).1,zO3 (zcY x.1 x.2.1.1).2)
theorem zsk:SdP 103 ziX:=
 sW (cx':=zjw) zq zi zl (zj ⟨znF,trivial⟩) Tryz.call103 Tryz.func103 (c:=body Tryz.f103) (lOK (aC zth aN))
def zsc:Cx ty:=mkCx base 9 [(50,zjU),(103,ziX)] [] [] [] [] []
def ziW (s:yD) (f:Term):Wy0 (Bool):=.bn (zcY s f) fun r0=>.k (decide (r0≥0))
def zcv (s:yD) (f:Term):Bool×Bool:=(ziW s f).fin default
def zhj:Ab.Spec ty:=zh zuR fun x=>((zcv x.1 x.2.1.1).1,zTP (zcv x.1 x.2.1.1).2)
theorem zpx:SdP 49 zhj:=
 sW (cx':=zsc) zq zi zl (zj ⟨znF,zsk,trivial⟩) Tryz.call49 Tryz.func49 (c:=body Tryz.f49) (lOK aN)
def zQq:Cx ty:=mkCx base 10 [(49,zhj),(50,zjU)] [] [] [] [] []
def zDM (a:Term) (b:Term):Wy0 (Bool):=.bn (zcv a.Factors b) fun r0=>.k (!r0)
def zfY (a:Term) (b:Term):Bool×Bool:=(zDM a b).fin default
def zmc:Ab.Spec ty:=zh zMK fun x=>((zfY x.1 x.2.1).1,zTP (zfY x.1 x.2.1).2)
theorem zq7:SdP 14 zmc:=
 sW (cx':=zQq) zq zi zl (zj ⟨zpx,znF,trivial⟩) Tryz.call14 Tryz.func14 (c:=body Tryz.f14) (lOK aN)
abbrev zj6:=yC×Unit×Int×Unit×yC×Int×Int×yC×Int×Int×Unit
abbrev zkt:=yC×Term×Unit
abbrev zod:=(yC×yC×Int×Int×yC)⊕(yC×yC×Int×Int×yC×Term)
abbrev zkb:=yC×Unit×yC×Int×Int×Unit
abbrev zht:=yC×Unit
def zvT (a:yC) (i:Int) (t8:yC) (t9:Int) (t10:Int) (t15:yC) (t16:Int) (t17:Int) (out_:yC) (t:Term):Wy zj6 zkt zod:=.i (decide (t17<t16)) (.i (decide (0≤t17)&&decide (t17<Int.ofNat t15.length)) (.i (t17 != i) (.bn (zfY (t15.getD t17.toNat default) t) fun r5=>.i (r5) (.bn (zfY t (t15.getD t17.toNat default)) fun r4=>.i (!r4) (.k (.inl (a,t8,t9,t10,out_))) (.i (decide (t17<i)) (.k (.inl (a,t8,t9,t10,out_))) (.h (a,(),i,(),t8,t9,t10,t15,t16,(IntKind.i64.wrap (t17+1)),()) (out_,t,())))) (.h (a,(),i,(),t8,t9,t10,t15,t16,(IntKind.i64.wrap (t17+1)),()) (out_,t,()))) (.h (a,(),i,(),t8,t9,t10,t15,t16,(IntKind.i64.wrap (t17+1)),()) (out_,t,()))) .d) (.k (.inr (a,t8,t9,t10,out_,t)))
def zDa (x:zj6) (y:zkt):Wy zj6 zkt zod:=zvT x.1 x.2.2.1 x.2.2.2.2.1 x.2.2.2.2.2.1 x.2.2.2.2.2.2.1 x.2.2.2.2.2.2.2.1 x.2.2.2.2.2.2.2.2.1 x.2.2.2.2.2.2.2.2.2.1 y.1 y.2.1
def zv6 (n:Nat) (a:yC) (i:Int) (t8:yC) (t9:Int) (t10:Int) (t15:yC) (t16:Int) (t17:Int) (out_:yC) (t:Term):Bool×zod:=zI (zDa) (.inl default) n (a,(),i,(),t8,t9,t10,t15,t16,t17,()) (out_,t,())
def zOM (r:zod):LTree ty:=.ite (isL r) (.done (.exit 1) [.sl 28 ((getL r).1),.own 196,.sl 28 ((getL r).2.1),.lit (.int .i64 ((getL r).2.2.1)),.lit (.int .i64 ((getL r).2.2.2.1))] [.arr 28 ((getL r).2.2.2.2) false]) (.done (.exit 2) [.sl 28 (getR r).1,.own 196,.ptr 197 0,.sl 28 (getR r).2.1,.lit (.int .i64 (getR r).2.2.1),.lit (.int .i64 (getR r).2.2.2.1)] [.arr 28 (getR r).2.2.2.2.1 false,.box (base.enc 28 (getR r).2.2.2.2.2) false])
def zP5:LL ty zj6:=za (lSl 28) (za (lOwn 196) (za lI64 (za (zfl 197 0) (za (lSl 28) (za lI64 (za lI64 (za (lSl 28) (za lI64 (za lI64 zp)))))))))
def zQa:BL ty zkt:=bArr 28 false (bBox (zg1 (fun x=>(⟨x.1,x.2.1⟩:Term)) (fun x=>(x.Coeff,x.Factors,())) (fun _=>rfl) (za (lInt .i64) (za (lSl 69) zp))) false (bNil))
def zvs (a:yC) (t8:yC) (t9:Int) (t10:Int) (out_:yC):Wy zkb zht (yC):=.i (decide (t10<t9)) (.i (decide (0≤t10)&&decide (t10<Int.ofNat t8.length)) (.bn (zv6 (a.length+t10.toNat +t8.length+t9.toNat +t10.toNat +a.length+(Int.ofNat a.length).toNat +Int.toNat 0+out_.length+(t8.getD t10.toNat default).Factors.length+1000) a t10 t8 t9 t10 a (Int.ofNat a.length) 0 out_ (t8.getD t10.toNat default)) fun r8=>.i (isL r8) (.h (((getL r8).1),(),((getL r8).2.1),((getL r8).2.2.1),(IntKind.i64.wrap ((getL r8).2.2.2.1+1)),()) (((getL r8).2.2.2.2),())) (.i (decide (((getR r8).2.2.2.2.1.length+[TermOf.mk 1 (getR r8).2.2.2.2.2.Factors].length)*32≤reach)) (.h ((getR r8).1,(),(getR r8).2.1,(getR r8).2.2.1,(IntKind.i64.wrap ((getR r8).2.2.2.1+1)),()) (((getR r8).2.2.2.2.1++[TermOf.mk 1 (getR r8).2.2.2.2.2.Factors]),())) .d)) .d) (.k out_)
def zDg (x:zkb) (y:zht):Wy zkb zht (yC):=zvs x.1 x.2.2.1 x.2.2.2.1 x.2.2.2.2.1 y.1
def zvN (n:Nat) (a:yC) (t8:yC) (t9:Int) (t10:Int) (out_:yC):Bool×yC:=zI (zDg) default n (a,(),t8,t9,t10,()) (out_,())
def zOO (r:yC):LTree ty:=.done (.exit 0) [.own 196] [.arr 28 r false]
def zPL:LL ty zkb:=za (lSl 28) (za (lOwn 196) (za (lSl 28) (za lI64 (za lI64 zp))))
def zPw:BL ty zht:=bArr 28 false (bNil)
def zOo (x:zj6) (y:zkt):Nat:=(x.1.length+Int.toNat x.2.2.1+x.2.2.2.2.1.length+Int.toNat x.2.2.2.2.2.1+Int.toNat x.2.2.2.2.2.2.1+x.2.2.2.2.2.2.2.1.length+Int.toNat x.2.2.2.2.2.2.2.2.1+Int.toNat x.2.2.2.2.2.2.2.2.2.1+y.1.length+y.2.1.Factors.length+1000)
def zOe (x:zkb) (y:zht):Nat:=(x.1.length+x.2.2.1.length+Int.toNat x.2.2.2.1+Int.toNat x.2.2.2.2.1+y.1.length+1000)
def zvj:Cx ty:=mkCx base 49 [(14,zmc)] [] [(3,[(0,.keep),(3,.own 28),(8,.keep),(9,.keep),(10,.keep)]),(6,(kpL [0,3,4,5,8,9,10,15,16,17]))] [(3,1,(kpL [3])),(6,3,(kpL [0,3,5,8,9,10])),(6,2,(kpL [0,3,8,9,10]))] [(6,spW zP5 zQa (zDa) (.inl default) zOM zOo),(3,spW zPL zPw (zDg) default zOO zOe)] []
theorem zNT:zL zvj (lp (body Tryz.f69) 1):=zw (id:=6) (hl:=rfl)
theorem zNQ:zL zvj (lp (body Tryz.f69) 0):=zw (id:=3) (hl:=rfl)
def zDN (a:yC):Wy0 (yC):=.bn (zvN (a.length+a.length+(Int.ofNat a.length).toNat +Int.toNat 0+0+1000) a a (Int.ofNat a.length) 0 []) fun r10=>.k r10
def znd (a:yC):Bool×yC:=(zDN a).fin default
def zSI:AL base zht:=zd (ze (vSl 28)) aNil
def zA7:Ab.Spec ty:=zh zSI fun x=>((znd x.1).1,zOj (znd x.1).2)
theorem zKy:SdP 69 zA7:=
 sW (cx':=zvj) zq zi zl (zj ⟨zq7,trivial⟩) Tryz.call69 Tryz.func69 (c:=body Tryz.f69) (lOK (aC zNQ (aC zNT aN))) (sg:=⟨[.own 28],[]⟩)
def zRB:Cx ty:=mkCx base0 9 [(20,annotation_Valid_spec),(68,zBE),(69,zA7)] [] [] [] [] []
def zE3 (a:yC):Wy0 (yC):=.bn (zb2 a) fun r2=>.i (!r2) (.k []) (.bn (znd a) fun r1=>.bn (zoU r1) fun r0=>.k r0)
def zgN (a:yC):Bool×yC:=(zE3 a).fin default
def zuE:Ab.Spec ty:=zh zXL fun x=>((zgN x.1).1,zOj (zgN x.1).2)
theorem zAZ:Sound Tryz.prog base0 22 zuE:=
 sW (cx':=zRB) zq zi7 zl (zj ⟨zcb.nodr,zMJ,zKy.nodr,trivial⟩) Tryz.call22 Tryz.func22 (c:=body Tryz.f22) (lOK aN) (sg:=⟨[.own 28],[]⟩)
def zIN:Cx ty:=mkCx base 7 [(14,zmc)] [] [] [] [] []
def zJk (u:Term) (p1:Term):Wy0 (Bool):=.bn (zfY u p1) fun r0=>.k r0
def zsV (u:Term) (p1:Term):Bool×Bool:=(zJk u p1).fin default
def zJm:AL base (Term×Term×Unit):=zd (ze (vAgg 28)) (zd (ze (zze 28)) aNil)
def zix:Ab.Spec ty:=zh zJm fun x=>((zsV x.1 x.2.1).1,zTP (zsV x.1 x.2.1).2)
theorem zl0:SdP 61 zix:=
 sW (cx':=zIN) zq zi zl (zj ⟨zq7,trivial⟩) Tryz.call61 Tryz.func61 (c:=body Tryz.f61) (lOK aN)
abbrev zc1:=yC×(Term×Unit)×Int×Int×Unit
def zst (s:yC) (f:Term) (t7:Int) (t8:Int):Wy zc1 (Unit) (Int⊕Unit):=.i (decide (t8<t7)) (.i (decide (0≤t8)&&decide (t8<Int.ofNat s.length)) (.bn (zsV (s.getD t8.toNat default) f) fun r0=>.i (r0) (.k (.inl t8)) (.h (s,(f,()),t7,(IntKind.i64.wrap (t8+1)),()) ())) .d) (.k (.inr ()))
def zi2 (x:zc1) (y:Unit):Wy zc1 (Unit) (Int⊕Unit):=zst x.1 x.2.1.1 x.2.2.1 x.2.2.2.1
def zsY (n:Nat) (s:yC) (f:Term) (t7:Int) (t8:Int):Bool×(Int⊕Unit):=zI (zi2) (.inl default) n (s,(f,()),t7,t8,()) ()
def zsT:LL ty zc1:=za (lSl 28) (za (lFn 61 (za (zny (zg1 (fun x=>(⟨x.1,x.2.1⟩:Term)) (fun x=>(x.Coeff,x.Factors,())) (fun _=>rfl) (za lI64 (za (lSl 69) zp))) 0) zp)) (za lI64 (za lI64 zp)))
def zrQ (x:zc1) (y:Unit):Nat:=(x.1.length+x.2.1.1.Factors.length+Int.toNat x.2.2.1+Int.toNat x.2.2.2.1+1000)
def ziQ:Cx ty:=mkCx base 19 [(61,zix)] [] [(2,(kpL [0,1,7,8]))] [(2,1,[]),(2,0,(kpL [4]))] [(2,spW zsT z5G (zi2) (.inl default) zsS zrQ)] []
theorem zr5:zL ziQ (lp (body Tryz.f113) 0):=zw (id:=2) (hl:=rfl)
def zt2 (s:yC) (f:Term):Wy0 (Int):=.bn (zsY (s.length+f.Factors.length+(Int.ofNat s.length).toNat +Int.toNat 0+1000) s f (Int.ofNat s.length) 0) fun r2=>.i (isL r2) (.k (getL r2)) (.k (-1:Int))
def zff (s:yC) (f:Term):Bool×Int:=(zt2 s f).fin default
def ztG:AL base (yC×(Term×Unit)×Unit):=zd (ze (vSl 28)) (zd (ze (vFn 61 (zdz (zze 28) vNil))) aNil)
def zhJ:Ab.Spec ty:=zh ztG fun x=>((zff x.1 x.2.1.1).1,zO3 (zff x.1 x.2.1.1).2)
theorem zqt:SdP 113 zhJ:=
 sW (cx':=ziQ) zq zi zl (zj ⟨zl0,trivial⟩) Tryz.call113 Tryz.func113 (c:=body Tryz.f113) (lOK (aC zr5 aN))
def zp5:Cx ty:=mkCx base 9 [(61,zix),(113,zhJ)] [] [] [] [] []
def zqJ (s:yC) (f:Term):Wy0 (Bool):=.bn (zff s f) fun r0=>.k (decide (r0≥0))
def zeN (s:yC) (f:Term):Bool×Bool:=(zqJ s f).fin default
def zgD:Ab.Spec ty:=zh ztG fun x=>((zeN x.1 x.2.1.1).1,zTP (zeN x.1 x.2.1.1).2)
theorem zog:SdP 59 zgD:=
 sW (cx':=zp5) zq zi zl (zj ⟨zl0,zqt,trivial⟩) Tryz.call59 Tryz.func59 (c:=body Tryz.f59) (lOK aN)
def zMw:Cx ty:=mkCx base 8 [(59,zgD),(61,zix)] [] [] [] [] []
def zOG (t:Term) (p1:yC):Wy0 (Bool):=.bn (zeN p1 t) fun r0=>.k (!r0)
def zwK (t:Term) (p1:yC):Bool×Bool:=(zOG t p1).fin default
def zO6:AL base (Term×(yC×Unit)×Unit):=zd (ze (vAgg 28)) (zd (ze (vBox (zdz (vSl 28) vNil))) aNil)
def zkI:Ab.Spec ty:=zh zO6 fun x=>((zwK x.1 x.2.1.1).1,zTP (zwK x.1 x.2.1.1).2)
theorem zoh:SdP 60 zkI:=
 sW (cx':=zMw) zq zi zl (zj ⟨zog,zl0,trivial⟩) Tryz.call60 Tryz.func60 (c:=body Tryz.f60) (lOK aN)
abbrev zdf:=yC×((yC×Unit)×Unit)×Int×Int×Unit
def zt5 (s:yC) (f:yC) (t7:Int) (t8:Int):Wy zdf (Unit) (Int⊕Unit):=.i (decide (t8<t7)) (.i (decide (0≤t8)&&decide (t8<Int.ofNat s.length)) (.bn (zwK (s.getD t8.toNat default) f) fun r0=>.i (r0) (.k (.inl t8)) (.h (s,((f,()),()),t7,(IntKind.i64.wrap (t8+1)),()) ())) .d) (.k (.inr ()))
def zje (x:zdf) (y:Unit):Wy zdf (Unit) (Int⊕Unit):=zt5 x.1 x.2.1.1.1 x.2.2.1 x.2.2.2.1
def ztw (n:Nat) (s:yC) (f:yC) (t7:Int) (t8:Int):Bool×(Int⊕Unit):=zI (zje) (.inl default) n (s,((f,()),()),t7,t8,()) ()
def ztz:LL ty zdf:=za (lSl 28) (za (lFn 60 (za (zny (za (lSl 28) zp) 0) zp)) (za lI64 (za lI64 zp)))
def zsQ (x:zdf) (y:Unit):Nat:=(x.1.length+x.2.1.1.1.length+Int.toNat x.2.2.1+Int.toNat x.2.2.2.1+1000)
def zjf:Cx ty:=mkCx base 19 [(60,zkI)] [] [(2,(kpL [0,1,7,8]))] [(2,1,[]),(2,0,(kpL [4]))] [(2,spW ztz z5G (zje) (.inl default) zsS zsQ)] []
theorem zs1:zL zjf (lp (body Tryz.f113) 0):=zw (id:=2) (hl:=rfl)
def zux (s:yC) (f:yC):Wy0 (Int):=.bn (ztw (s.length+f.length+(Int.ofNat s.length).toNat +Int.toNat 0+1000) s f (Int.ofNat s.length) 0) fun r2=>.i (isL r2) (.k (getL r2)) (.k (-1:Int))
def zfv (s:yC) (f:yC):Bool×Int:=(zux s f).fin default
def zup:AL base (yC×((yC×Unit)×Unit)×Unit):=zd (ze (vSl 28)) (zd (ze (vFn 60 (zdz (vBox (zdz (vSl 28) vNil)) vNil))) aNil)
def zih:Ab.Spec ty:=zh zup fun x=>((zfv x.1 x.2.1.1.1).1,zO3 (zfv x.1 x.2.1.1.1).2)
theorem zrn:SdP 113 zih:=
 sW (cx':=zjf) zq zi zl (zj ⟨zoh,trivial⟩) Tryz.call113 Tryz.func113 (c:=body Tryz.f113) (lOK (aC zs1 aN))
def zrd:Cx ty:=mkCx base 9 [(60,zkI),(113,zih)] [] [] [] [] []
def zsl (s:yC) (f:yC):Wy0 (Bool):=.bn (zfv s f) fun r0=>.k (decide (r0≥0))
def zeT (s:yC) (f:yC):Bool×Bool:=(zsl s f).fin default
def zgW:Ab.Spec ty:=zh zup fun x=>((zeT x.1 x.2.1.1.1).1,zTP (zeT x.1 x.2.1.1.1).2)
theorem zoN:SdP 59 zgW:=
 sW (cx':=zrd) zq zi zl (zj ⟨zoh,zrn,trivial⟩) Tryz.call59 Tryz.func59 (c:=body Tryz.f59) (lOK aN)
def zRD:Cx ty:=mkCx base 17 [(20,annotation_Valid_spec),(59,zgW),(60,zkI)] [] [] [] [] []
def zTW (a:yC) (b:yC):Wy0 (Bool):=.bn (zb2 a) fun r2=>.i (!r2) (.k false) (.bn (zb2 b) fun r1=>.i (!r1) (.k false) (.bn (zeT a b) fun r0=>.k (!r0)))
def zBe (a:yC) (b:yC):Bool×Bool:=(zTW a b).fin default
def zBI:Ab.Spec ty:=zh zSg fun x=>((zBe x.1 x.2.1).1,zTP (zBe x.1 x.2.1).2)
theorem zMs:SdP 18 zBI:=
 sW (cx':=zRD) zq zi zl (zj ⟨zcb,zoN,zoh,trivial⟩) Tryz.call18 Tryz.func18 (c:=body Tryz.f18) (lOK aN)
def zdC (F:Term→Bool×Bool):Ab.Spec ty:=zh zNO fun x=>((F x.1).1,zTP (F x.1).2)
def zcJ (F:Factor→Bool×Bool):Ab.Spec ty:=zh zJ0 fun x=>((F x.1).1,zTP (F x.1).2)
def zt0:AL base (yC×Unit×Unit):=zd (ze (vSl 28)) (zd (ze (vFn 141 vNil)) aNil)
def zdF (F:yC→Bool×Int):Ab.Spec ty:=zh zt0 fun x=>((F x.1).1,zO3 (F x.1).2)
def zdh (F:yC→Bool×Bool):Ab.Spec ty:=zh zt0 fun x=>((F x.1).1,zTP (F x.1).2)
def zuA:AL base (yD×Unit×Unit):=zd (ze (vSl 69)) (zd (ze (vFn 142 vNil)) aNil)
def zdR (F:yD→Bool×Int):Ab.Spec ty:=zh zuA fun x=>((F x.1).1,zO3 (F x.1).2)
def zdi (F:yD→Bool×Bool):Ab.Spec ty:=zh zuA fun x=>((F x.1).1,zTP (F x.1).2)
def zJO (z7:yC→Bool×Bool) (zo:Term→Bool×Bool):Cx ty:=mkCx base 6 [(59,(zdh z7)),(141,(zdC zo))] [] [] [] [] []
def zLK (z7:yC→Bool×Bool) (zo:Term→Bool×Bool) (a:yC):Wy0 (Bool):=.bn (z7 a) fun r0=>.k (!r0)
def zBV (z7:yC→Bool×Bool) (zo:Term→Bool×Bool) (a:yC):Bool×Bool:=(zLK z7 zo a).fin default
theorem zF6 (z7:yC→Bool×Bool) (zo:Term→Bool×Bool) (zpM:SdP 59 (zdh z7)) (zfX:SdP 141 (zdC zo)):SdP 73 (zhW (zBV z7 zo)):=
 sW (cx':=(zJO z7 zo)) zq zi zl (zj ⟨zpM,zfX,trivial⟩) Tryz.call73 Tryz.func73 (c:=body Tryz.f73) (lOK aN)
def zGb (zbb:yD→Bool×Bool) (zk:Factor→Bool×Bool):Cx ty:=mkCx base 6 [(49,(zdi zbb)),(142,(zcJ zk))] [] [] [] [] []
def zHc (zbb:yD→Bool×Bool) (zk:Factor→Bool×Bool) (t:Term):Wy0 (Bool):=.bn (zbb t.Factors) fun r0=>.k r0
def zyP (zbb:yD→Bool×Bool) (zk:Factor→Bool×Bool) (t:Term):Bool×Bool:=(zHc zbb zk t).fin default
theorem zDo (zbb:yD→Bool×Bool) (zk:Factor→Bool×Bool) (zqj:SdP 49 (zdi zbb)) (zeR:SdP 142 (zcJ zk)):SdP 141 (zdC (zyP zbb zk)):=
 sW (cx':=(zGb zbb zk)) zq zi zl (zj ⟨zqj,zeR,trivial⟩) Tryz.call141 Tryz.func141 (c:=body Tryz.f141) (lOK aN)
def zDm (zdO:yC→Bool×Bool):Cx ty:=mkCx base 22 [(73,(zhW zdO))] [] [] [] [] []
def zD2 (zdO:yC→Bool×Bool) (f:Factor):Wy0 (Bool):=.i (f.Atom.Kind != 0) (.i (f.Atom.Kind != 2) (.k true) (.i (decide ((0:Int)≤(0:Int))&&decide (0<Int.ofNat f.Atom.Args.length)) (.bn (zdO (f.Atom.Args.getD (Int.toNat 0) default)) fun r0=>.k (!r0)) .d)) (.k false)
def zvX (zdO:yC→Bool×Bool) (f:Factor):Bool×Bool:=(zD2 zdO f).fin default
theorem zBk (zdO:yC→Bool×Bool) (zLZ:SdP 73 (zhW zdO)):SdP 142 (zcJ (zvX zdO)):=
 sW (cx':=(zDm zdO)) zq zi zl (zj ⟨zLZ,trivial⟩) Tryz.call142 Tryz.func142 (c:=body Tryz.f142) (lOK aN)
def zpr (zbk:yD→Bool×Int) (zk:Factor→Bool×Bool):Cx ty:=mkCx base 9 [(103,(zdR zbk)),(142,(zcJ zk))] [] [] [] [] []
def zqw (zbk:yD→Bool×Int) (zk:Factor→Bool×Bool) (s:yD):Wy0 (Bool):=.bn (zbk s) fun r0=>.k (decide (r0≥0))
def zil (zbk:yD→Bool×Int) (zk:Factor→Bool×Bool) (s:yD):Bool×Bool:=(zqw zbk zk s).fin default
theorem znT (zbk:yD→Bool×Int) (zk:Factor→Bool×Bool) (zsM:SdP 103 (zdR zbk)) (zeR:SdP 142 (zcJ zk)):SdP 49 (zdi (zil zbk zk)):=
 sW (cx':=(zpr zbk zk)) zq zi zl (zj ⟨zsM,zeR,trivial⟩) Tryz.call49 Tryz.func49 (c:=body Tryz.f49) (lOK aN)
def zoM (zbh:yC→Bool×Int) (zo:Term→Bool×Bool):Cx ty:=mkCx base 9 [(113,(zdF zbh)),(141,(zdC zo))] [] [] [] [] []
def zpD (zbh:yC→Bool×Int) (zo:Term→Bool×Bool) (s:yC):Wy0 (Bool):=.bn (zbh s) fun r0=>.k (decide (r0≥0))
def zhZ (zbh:yC→Bool×Int) (zo:Term→Bool×Bool) (s:yC):Bool×Bool:=(zpD zbh zo s).fin default
theorem znD (zbh:yC→Bool×Int) (zo:Term→Bool×Bool) (zrV:SdP 113 (zdF zbh)) (zfX:SdP 141 (zdC zo)):SdP 59 (zdh (zhZ zbh zo)):=
 sW (cx':=(zoM zbh zo)) zq zi zl (zj ⟨zrV,zfX,trivial⟩) Tryz.call59 Tryz.func59 (c:=body Tryz.f59) (lOK aN)
abbrev zde:=yD×Unit×Int×Int×Unit
def zsb (zk:Factor→Bool×Bool) (s:yD) (t7:Int) (t8:Int):Wy zde (Unit) (Int⊕Unit):=.i (decide (t8<t7)) (.i (decide (0≤t8)&&decide (t8<Int.ofNat s.length)) (.bn (zk (FactorOf.mk (Atom.mk (s.getD t8.toNat default).Atom.Kind (s.getD t8.toNat default).Atom.Row (s.getD t8.toNat default).Atom.Args (s.getD t8.toNat default).Atom.Func (s.getD t8.toNat default).Atom.Items (s.getD t8.toNat default).Atom.Op (s.getD t8.toNat default).Atom.Bound) (s.getD t8.toNat default).Exp)) fun r0=>.i (r0) (.k (.inl t8)) (.h (s,(),t7,(IntKind.i64.wrap (t8+1)),()) ())) .d) (.k (.inr ()))
def zic (zk:Factor→Bool×Bool) (x:zde) (y:Unit):Wy zde (Unit) (Int⊕Unit):=zsb zk x.1 x.2.2.1 x.2.2.2.1
def zr7 (zk:Factor→Bool×Bool) (n:Nat) (s:yD) (t7:Int) (t8:Int):Bool×(Int⊕Unit):=zI (zic zk) (.inl default) n (s,(),t7,t8,()) ()
def zrP:LL ty zde:=za (lSl 69) (za (lFn 142 (zp)) (za lI64 (za lI64 zp)))
def zqW (x:zde) (y:Unit):Nat:=(x.1.length+Int.toNat x.2.2.1+Int.toNat x.2.2.2.1+1000)
def zid (zk:Factor→Bool×Bool):Cx ty:=mkCx base 19 [(142,(zcJ zk))] [] [(2,(kpL [0,1,7,8]))] [(2,1,[]),(2,0,(kpL [4]))] [(2,spW zrP z5G (zic zk) (.inl default) zsS zqW)] []
theorem zrx (zk:Factor→Bool×Bool):zL (zid zk) (lp (body Tryz.f103) 0):=zw (id:=2) (hl:=rfl)
def zsC (zk:Factor→Bool×Bool) (s:yD):Wy0 (Int):=.bn (zr7 zk (s.length+(Int.ofNat s.length).toNat +Int.toNat 0+1000) s (Int.ofNat s.length) 0) fun r2=>.i (isL r2) (.k (getL r2)) (.k (-1:Int))
def zjK (zk:Factor→Bool×Bool) (s:yD):Bool×Int:=(zsC zk s).fin default
theorem zpd (zk:Factor→Bool×Bool) (zeR:SdP 142 (zcJ zk)):SdP 103 (zdR (zjK zk)):=
 sW (cx':=(zid zk)) zq zi zl (zj ⟨zeR,trivial⟩) Tryz.call103 Tryz.func103 (c:=body Tryz.f103) (lOK (aC (zrx zk) aN))
abbrev zc0:=yC×Unit×Int×Int×Unit
def zrg (zo:Term→Bool×Bool) (s:yC) (t7:Int) (t8:Int):Wy zc0 (Unit) (Int⊕Unit):=.i (decide (t8<t7)) (.i (decide (0≤t8)&&decide (t8<Int.ofNat s.length)) (.bn (zo (s.getD t8.toNat default)) fun r0=>.i (r0) (.k (.inl t8)) (.h (s,(),t7,(IntKind.i64.wrap (t8+1)),()) ())) .d) (.k (.inr ()))
def zhY (zo:Term→Bool×Bool) (x:zc0) (y:Unit):Wy zc0 (Unit) (Int⊕Unit):=zrg zo x.1 x.2.2.1 x.2.2.2.1
def zqU (zo:Term→Bool×Bool) (n:Nat) (s:yC) (t7:Int) (t8:Int):Bool×(Int⊕Unit):=zI (zhY zo) (.inl default) n (s,(),t7,t8,()) ()
def zro:LL ty zc0:=za (lSl 28) (za (lFn 141 (zp)) (za lI64 (za lI64 zp)))
def zqs (x:zc0) (y:Unit):Nat:=(x.1.length+Int.toNat x.2.2.1+Int.toNat x.2.2.2.1+1000)
def zhM (zo:Term→Bool×Bool):Cx ty:=mkCx base 19 [(141,(zdC zo))] [] [(2,(kpL [0,1,7,8]))] [(2,1,[]),(2,0,(kpL [4]))] [(2,spW zro z5G (zhY zo) (.inl default) zsS zqs)] []
theorem zqu (zo:Term→Bool×Bool):zL (zhM zo) (lp (body Tryz.f113) 0):=zw (id:=2) (hl:=rfl)
def zsi (zo:Term→Bool×Bool) (s:yC):Wy0 (Int):=.bn (zqU zo (s.length+(Int.ofNat s.length).toNat +Int.toNat 0+1000) s (Int.ofNat s.length) 0) fun r2=>.i (isL r2) (.k (getL r2)) (.k (-1:Int))
def zjd (zo:Term→Bool×Bool) (s:yC):Bool×Int:=(zsi zo s).fin default
theorem zoO (zo:Term→Bool×Bool) (zfX:SdP 141 (zdC zo)):SdP 113 (zdF (zjd zo)):=
 sW (cx':=(zhM zo)) zq zi zl (zj ⟨zfX,trivial⟩) Tryz.call113 Tryz.func113 (c:=body Tryz.f113) (lOK (aC (zqu zo) aN))
def zcV:Nat→(yC→Bool×Bool)×(Term→Bool×Bool)×(Factor→Bool×Bool)×(yC→Bool×Int)×(yC→Bool×Bool)×(yD→Bool×Int)×(yD→Bool×Bool)
 | 0=>(fun _=>(false,default),fun _=>(false,default),fun _=>(false,default),fun _=>(false,default),fun _=>(false,default),fun _=>(false,default),fun _=>(false,default))
 | n+1=>(zBV ((zcV n).2.2.2.2.1) ((zcV n).2.1),zyP ((zcV n).2.2.2.2.2.2) ((zcV n).2.2.1),zvX ((zcV n).1),zjd ((zcV n).2.1),zhZ ((zcV n).2.2.2.1) ((zcV n).2.1),zjK ((zcV n).2.2.1),zil ((zcV n).2.2.2.2.2.1) ((zcV n).2.2.1))
def zBA (n:Nat):yC→Bool×Bool:=(zcV n).1
def zJB (n:Nat):Term→Bool×Bool:=(zcV n).2.1
def zFV (n:Nat):Factor→Bool×Bool:=(zcV n).2.2.1
def ztQ (n:Nat):yC→Bool×Int:=(zcV n).2.2.2.1
def zrH (n:Nat):yC→Bool×Bool:=(zcV n).2.2.2.2.1
def zud (n:Nat):yD→Bool×Int:=(zcV n).2.2.2.2.2.1
def zr6 (n:Nat):yD→Bool×Bool:=(zcV n).2.2.2.2.2.2
theorem zNs:∀ n,SdP 73 (zhW (zBA n))∧SdP 141 (zdC (zJB n))∧SdP 142 (zcJ (zFV n))∧SdP 113 (zdF (ztQ n))∧SdP 59 (zdh (zrH n))∧SdP 103 (zdR (zud n))∧SdP 49 (zdi (zr6 n))
 | 0=>⟨z6 Tryz.call73 (fun _=>rfl),z6 Tryz.call141 (fun _=>rfl),z6 Tryz.call142 (fun _=>rfl),z6 Tryz.call113 (fun _=>rfl),z6 Tryz.call59 (fun _=>rfl),z6 Tryz.call103 (fun _=>rfl),z6 Tryz.call49 (fun _=>rfl)⟩
 | n+1=>by
  have ih:=zNs n;exact ⟨zF6 _ _ (ih.2.2.2.2.1) (ih.2.1),zDo _ _ (ih.2.2.2.2.2.2) (ih.2.2.1),zBk _ (ih.1),zoO _ (ih.2.1),znD _ _ (ih.2.2.2.1) (ih.2.1),zpd _ (ih.2.2.1),znT _ _ (ih.2.2.2.2.2.1) (ih.2.2.1)⟩
def zD1:yC→Bool×Bool:=zBA 1000
def absorption_explained_spec:Ab.Spec ty:=zhW zD1
theorem zIP:SdP 73 absorption_explained_spec:=(zNs 1000).1
def zKD (r:yB):ARes ty:=⟨[.own 43 r],[]⟩
def zjP (F:yC→Bool×yB):Ab.Spec ty:=zh zVO fun x=>((F x.1).1,zKD (F x.1).2)
abbrev zeC:=yF×yF×Int×Int×Unit
def zAj (s1:yF) (s2:yF) (t12:Int) (t13:Int):Wy zeC (Unit) (Bool⊕Unit):=.i (decide (t13<t12)) (.i (decide (0≤t13)&&decide (t13<Int.ofNat s1.length)) (.i (decide (0≤t13)&&decide (t13<Int.ofNat s2.length)) (.i (!((s1.getD t13.toNat default).Table==(s2.getD t13.toNat default).Table&&((s1.getD t13.toNat default).Seq==(s2.getD t13.toNat default).Seq&&true))) (.k (.inl false)) (.h (s1,s2,t12,(IntKind.i64.wrap (t13+1)),()) ())) .d) .d) (.k (.inr ()))
def znt (x:zeC) (y:Unit):Wy zeC (Unit) (Bool⊕Unit):=zAj x.1 x.2.1 x.2.2.1 x.2.2.2.1
def zAg (n:Nat) (s1:yF) (s2:yF) (t12:Int) (t13:Int):Bool×(Bool⊕Unit):=zI (znt) (.inl default) n (s1,s2,t12,t13,()) ()
def zzQ:LL ty zeC:=za (lSl 49) (za (lSl 49) (za lI64 (za lI64 zp)))
def zzi (x:zeC) (y:Unit):Nat:=(x.1.length+x.2.1.length+Int.toNat x.2.2.1+Int.toNat x.2.2.2.1+1)
def zns:Cx ty:=mkCx base 26 [] [] [(4,(kpL [0,1,12,13]))] [(4,1,[]),(4,0,(kpL [4]))] [(4,spW zzQ z5G (znt) (.inl default) zN7 zzi)] []
theorem zzr:zL zns (lp (body Tryz.f209) 0):=zw (id:=4) (hl:=rfl)
def zAC (s1:yF) (s2:yF):Wy0 (Bool):=.i (Int.ofNat s1.length != Int.ofNat s2.length) (.k false) (.bn (zAg (s1.length+s2.length+(Int.ofNat s1.length).toNat +Int.toNat 0+1) s1 s2 (Int.ofNat s1.length) 0) fun r0=>.i (isL r0) (.k (getL r0)) (.k true))
def zjH (s1:yF) (s2:yF):Bool×Bool:=(zAC s1 s2).fin default
def zAG:AL base (yF×yF×Unit):=zd (ze (vSl 49)) (zd (ze (vSl 49)) aNil)
def zmq:Ab.Spec ty:=zh zAG fun x=>((zjH x.1 x.2.1).1,zTP (zjH x.1 x.2.1).2)
theorem zyb:SdP 209 zmq:=
 sW (cx':=zns) zq zi zl (zj trivial) Tryz.call209 Tryz.func209 (c:=body Tryz.f209) (lOK (aC zzr aN))
def zTD:Cx ty:=mkCx base 8 [(209,zmq)] [] [] [] [] []
def zUs (a:yF) (b:yF):Wy0 (Bool):=.bn (zjH a b) fun r0=>.k r0
def zxg (a:yF) (b:yF):Bool×Bool:=(zUs a b).fin default
def zvp:Ab.Spec ty:=zh zAG fun x=>((zxg x.1 x.2.1).1,zTP (zxg x.1 x.2.1).2)
theorem zBB:SdP 208 zvp:=
 sW (cx':=zTD) zq zi zl (zj ⟨zyb,trivial⟩) Tryz.call208 Tryz.func208 (c:=body Tryz.f208) (lOK aN)
def zYI:Cx ty:=mkCx base 17 [(120,zk9),(121,zla)] [] [] [] [] []
def z0T (a:RowID) (b:RowID):Wy0 (Int):=.bn (zd6 a.Table b.Table) fun r2=>.bn (zd6 a.Seq b.Seq) fun r1=>.bn (zm3 [r2,r1]) fun r0=>.k r0
def zmG (a:RowID) (b:RowID):Bool×Int:=(z0T a b).fin default
def z0q:AL base (RowID×RowID×Unit):=zd (ze (vAgg 49)) (zd (ze (vAgg 49)) aNil)
def zmr:Ab.Spec ty:=zh z0q fun x=>((zmG x.1 x.2.1).1,zO3 (zmG x.1 x.2.1).2)
theorem zpk:SdP 233 zmr:=
 sW (cx':=zYI) zq zi zl (zj ⟨zmI,zn5,trivial⟩) Tryz.call233 Tryz.func233 (c:=body Tryz.f233) (lOK aN)
def zeU:Cx ty:={ base with nt:=8 }
def zfJ (s:yF):Bool×yF:=(decide (s.length*16≤reach),s)
def zgU:Ab.Spec ty:=zh (cx:=base) (zd (ze (vSl 49)) aNil) fun x=>((zfJ x.1).1,⟨[.own 49 (zfJ x.1).2],[]⟩)
theorem zzk:zg7 zeU Tryz.f212 (body Tryz.f212) ⟨[.own 49],[]⟩ [.pure (.lit (.slice none 0 0))]=some ⟨[.own 49 []],[]⟩:=by kernel_rfl
theorem zx7 (p:Addr) (c:Nat):zg7 zeU Tryz.f212 (body Tryz.f212) ⟨[.own 49],[]⟩ [.pure (.lit (.slice (some p) 0 c))]=some ⟨[.own 49 []],[]⟩:=by kernel_rfl
theorem zyt (l:yF):zg7 zeU Tryz.f212 (body Tryz.f212) ⟨[.own 49],[]⟩ [.pure (.sl 49 l)]=bif !l.isEmpty then bif decide ((([]:List (ty 49)).length+l.length)*16≤reach) then some ⟨[.own 49 l],[]⟩ else none else none:=by kernel_rfl
theorem zlX:SdP 212 zgU:=
 zGq (cx':=zeU) (bytes:=16) zq zi ⟨⟨rfl,rfl,rfl,rfl,rfl,rfl⟩,rfl⟩ (fun g s h=>by cases h) Tryz.call212 Tryz.func212 (c:=body Tryz.f212) (by kernel_rfl) (zAD (l:=[]) (by kernel_rfl) trivial) zzk zx7 zyt (by kernel_rfl)
end Go.Proofs.YtljlfiomikifjaaGreatDoor
end
