/- Texts of this claim, joined (the program, its functions in plain words, and what they compute). -/
import Derived.Test.YtljlfiomikifjaaGreatDoorGC3
set_option autoImplicit false
set_option linter.unusedVariables false
set_option linter.unusedSectionVars false
set_option linter.unusedSimpArgs false
set_option maxRecDepth 1000000
set_option maxHeartbeats 0
noncomputable section
namespace Go.Proofs.YtljlfiomikifjaaGreatDoor
open Go Go.Ab
open Go.Proofs Go.RowKit
open Go.Proofs.Tryz
def zbu (x:yE):Bool×yE:=(decide (SortOK zbm x)&&decide (x.length<20),zhp zbm x)
def zd2:Ab.Spec ty:=zh (cx:=base) (zc (zka 100) (zc (ze (vFn 124 zbT)) zo)) λx=>((zbu x.1).1,⟨[],[some ⟨100,(zbu x.1).2⟩]⟩)
set_option maxHeartbeats 1000000 in
theorem znS:SdP 242 zd2 where
 enters:=call242
 calls:=λavs r hsp w F vs hF ha hsep=>by
  unfold zd2 zh at hsp;split at hsp
  ·rename_i x hx;simp only [qa,qb] at hsp;obtain ⟨hpre,rfl⟩:=hsp;have hk:=(zc (zka 100) (zc (ze (vFn 124 zbT)) zo):AL base _).kind vs avs x hx;have ha':=(zc (zka 100) (zc (ze (vFn 124 zbT)) zo):AL base _).ok Tryz.prog zfi F w vs avs x hx ha;rw [hk] at hsep ⊢;clear hk hx ha;obtain ⟨l0,c,u0⟩:=x;obtain ⟨l,rfl⟩:∃ l:yE,l=l0:=⟨l0,rfl⟩;obtain ⟨v,vs',rfl,hv,hv'⟩:=ha'.inv;obtain ⟨fv,vs'',rfl,hfv,h0⟩:=hv'.inv;obtain rfl:=h0.nil_left.1
   have hsl:∃ p cap,v=.slice p l.length cap:=by
    obtain ⟨⟨xs,hown,_⟩,_⟩:=(show zcT base F w v 100 l/\∀ b,zbk v=some b->¬ F b from hv)
    rcases hown.2 with ⟨h1,h2⟩ | ⟨g0,cap,cur,h1,_⟩
    ·exact ⟨none,0,by rw [h1,show l.length=0 from h2]⟩
    ·exact ⟨_,cap,h1⟩
   have hpre:(decide (SortOK (α:=Wd) zbm l)&&decide (l.length<20))=true:=hpre;simp only [qc,qe] at hpre;obtain ⟨hok,h20⟩:=hpre
   have hpp:(zcJ l (l.length:Int)).1=true:=by
    show (decide (SortOK (α:=Wd) zbm l)&&(decide ((l.length:Int)=l.length)&&decide ((l.length:Int)<20)))=true;simp only [qc,qe];exact ⟨hok,trivial,by omega⟩
   have hp:=(zzy).calls [.own 100 l,.pure (.lit (.int .i64 (l.length:Int))),.pure (.fn 124 [])] ⟨[],[some ⟨100,(zbu l).2⟩]⟩
    (by rw [<- hpp]; kernel_rfl) w F [v,.int .i64 (l.length:Int),fv] hF (.cons hv (.cons (Rep.lit _) (.cons hfv .nil))) hsep
   replace hp:Calls Tryz.prog 262 #[v,.int .i64 (l.length:Int),fv] w λe w'=>∃ u,e=.returned u/\Post base F w [v] ⟨[],[some ⟨100,(zbu l).2⟩]⟩ u w':=hp
   show Calls Tryz.prog 242 #[v,fv] w λe w'=>∃ u,e=.returned u/\Post base F w [v] ⟨[],[some ⟨100,(zbu l).2⟩]⟩ u w'
   generalize (zbu l).2=res at hp ⊢;generalize hn:l.length=m at *;clear hpp hv hfv hsep hok hF;obtain ⟨p,cap,rfl⟩:=hsl;clear hn
   go_enter func242,ntmps242
   go_wp2_with (go_at_call 262; refine hp.mono ?_; rintro e w' ⟨u,rfl,hpost⟩; obtain rfl:=hpost.unit)
   go_end0
   exact ⟨_,rfl,hpost⟩
  ·cases hsp
end Go.Proofs.YtljlfiomikifjaaGreatDoor
namespace Go.Proofs.YtljlfiomikifjaaGreatDoor
open Go Go.Ab
open Go.Proofs.Tryz
abbrev zsi:=Unit×yE×Int×Int×Unit
abbrev zmK:=yE×Unit
def zmP (t6:yE) (t7:Int) (t8:Int) (out_:yE):Wy zsi zmK (yE):=.i (decide (t8<t7)) (.i (decide (0<=t8)&&decide (t8<Int.ofNat t6.length)) (.i (decide (Int.ofNat (t6.getD t8.toNat default).Ann.length>0)) (.bn (zg2 (t6.getD t8.toNat default).Ann) λr0=>.i (decide ((out_.length+[WO.mk (t6.getD t8.toNat default).Value r0].length)*56<=zG)) (.h ((),t6,t7,(IntKind.i64.wrap (t8+1)),()) ((out_++[WO.mk (t6.getD t8.toNat default).Value r0]),())) .d) (.h ((),t6,t7,(IntKind.i64.wrap (t8+1)),()) (out_,()))) .d) (.k out_)
def zz1 (x:zsi) (y:zmK):=zmP x.2.1 x.2.2.1 x.2.2.2.1 y.1
def zH6 (n:Nat) (t6:yE) (t7:Int) (t8:Int) (out_:yE):=zy (zz1) default n ((),t6,t7,t8,()) (out_,())
def zW5 (r:yE):LTree ty:=.done (.exit 0) [.own 116] [.arr 100 r false]
def zZB:LL ty zsi:=za (zdh 116) (za (lSl 100) (za zj (za zj zk)))
def zY3:BL ty zmK:=zdj 100 false (z6)
def zXi (x:zsi) (y:zmK):Nat:=(x.2.1.length+Int.toNat x.2.2.1+Int.toNat x.2.2.2.1+y.1.length+1)
def zIe:=zbY base 29 [(87,zgN),(124,zfW),(242,zd2)] [(242,[true,false])] [(3,[(3,.own 100),(6,.keep),(7,.keep),(8,.keep)])] [(3,1,(kpL [3]))] [(3,spW zZB zY3 (zz1) default zW5 zXi)] []
theorem zXH:zA zIe (lp (body f218) 0):=zp (id:=3) (hl:=rfl)
def zKO (l:yE):Wy0 (yE):=.bn (zH6 (l.length+(Int.ofNat l.length).toNat +Int.toNat 0+0+1) l (Int.ofNat l.length) 0 []) λr3=>.bn (zbu r3) λr2=>.k r2
def zr8 (l:yE):=(zKO l).fin default
def zWY (r:yE):ARes ty:=⟨[.own 100 r],[]⟩
def z2A:AL base zmK:=zc (ze (vSl 100)) zo
def zFd:=zh z2A λx=>((zr8 x.1).1,zWY (zr8 x.1).2)
theorem zSB:SdP 218 zFd:=
 sT (cx':=zIe) (zi ⟨zje,zhP,znS,trivial⟩) call218 func218 (lOK (aC zXH aN)) (sg:=⟨[.own 100],[]⟩)
def zUx:=zbl base 7 [(20,zch)]
def zG3 (w:Wd):Wy0 (Bool):=.bn (zca w.Ann) λr0=>.k (!r0)
def znO (w:Wd):=(zG3 w).fin default
def zmp:=zh zNL λx=>((znO x.1).1,zYA (znO x.1).2)
theorem zrp:SdP 217 zmp:=
 sT (cx':=zUx) (zi ⟨zco,trivial⟩) call217 func217 (lOK aN)
def zZI:=zbl base 28 []
def zKB (op:Int) (sign:Int):Wy0 (Bool):=.i (op==5) (.k (sign==0)) (.i (op==6) (.k (sign != 0)) (.i (op==7) (.k (decide (sign<0))) (.i (op==8) (.k (decide (sign<=0))) (.i (op==9) (.k (decide (sign>0))) (.k (decide (sign≥0)))))))
def zrT (op:Int) (sign:Int):=(zKB op sign).fin default
def zFm:=zh zYx λx=>((zrT x.1 x.2.1).1,zYA (zrT x.1 x.2.1).2)
theorem zSw:SdP 219 zFm:=
 sT (cx':=zZI) (zi trivial) call219 func219 (lOK aN)
abbrev zdL:=yE×Unit×Int×Int×Unit
def zqD (s:yE) (t7:Int) (t8:Int):Wy zdL Unit (Int⊕Unit):=.i (decide (t8<t7)) (.i (decide (0<=t8)&&decide (t8<Int.ofNat s.length)) (.bn (znO (s.getD t8.toNat default)) λr0=>.i (r0) (.k (.inl t8)) (.h (s,(),t7,(IntKind.i64.wrap (t8+1)),()) ())) .d) (.k (.inr ()))
def zhD (x:zdL) (y:Unit):=zqD x.1 x.2.2.1 x.2.2.2.1
def zqJ (n:Nat) (s:yE) (t7:Int) (t8:Int):=zy (zhD) (.inl default) n (s,(),t7,t8,()) ()
def zqE:LL ty zdL:=za (lSl 100) (za (lFn 217 (zk)) (za zj (za zj zk)))
def zp5 (x:zdL) (y:Unit):Nat:=(x.1.length+Int.toNat x.2.2.1+Int.toNat x.2.2.2.1+1)
def zhL:=zbY base 19 [(217,zmp)] [] [(2,(kpL [0,1,7,8]))] [(2,1,[]),(2,0,(kpL [4]))] [(2,spW zqE zbcZ (zhD) (.inl default) zs0 zp5)] []
theorem zpI:zA zhL (lp (body f163) 0):=zp (id:=2) (hl:=rfl)
def zrQ (s:yE):Wy0 (Int):=.bn (zqJ (s.length+(Int.ofNat s.length).toNat +Int.toNat 0+1) s (Int.ofNat s.length) 0) λr2=>.i (isL r2) (.k (getL r2)) (.k (-1:Int))
def zdv (s:yE):=(zrQ s).fin default
def zrP:AL base (yE×Unit×Unit):=zc (ze (vSl 100)) (zc (ze (vFn 217 zbT)) zo)
def zgY:=zh zrP λx=>((zdv x.1).1,zTh (zdv x.1).2)
theorem zo8:SdP 163 zgY:=
 sT (cx':=zhL) (zi ⟨zrp,trivial⟩) call163 func163 (lOK (aC zpI aN))
def zo6:=zbl base 9 [(163,zgY),(217,zmp)]
def zg9 (s:yE):Wy0 (Bool):=.bn (zdv s) λr0=>.k (decide (r0≥0))
def zcj (s:yE):=(zg9 s).fin default
def zgf:=zh zrP λx=>((zcj x.1).1,zYA (zcj x.1).2)
theorem znr:SdP 132 zgf:=
 sT (cx':=zo6) (zi ⟨zo8,zrp,trivial⟩) call132 func132 (lOK aN)
def z2n:=zbl base 45 [(36,zmT),(70,zeV),(132,zgf),(135,zsW),(138,zno),(152,zgR),(217,zmp),(218,zFd),(219,zFm)]
def zMK (fn:Int) (items:yE) (op:Int) (bound:Value):Wy0 (yC×Int):=.bn (zkI fn items op bound) λr5=>.i (!r5) (.k ([],1)) (.bn (zcj items) λr4=>.i (r4) (.k ([],1)) (.bn (zr8 items) λr3=>.i (decide (Int.ofNat r3.length>0)) (.bn (zeB (zfF (At.mk 4 (RowID.mk 0 0) [] fn r3 op bound)).2) λr0=>.k (r0.1,r0.2)) (.i (fn==0) (.bn (zjn 0 bound.Int) λr2=>.bn (zrT op r2) λr1=>.i (r1) (.k (zkQ.2,0)) (.k ([],0))) (.k ([],0)))))
def zoD (fn:Int) (items:yE) (op:Int) (bound:Value):=(zMK fn items op bound).fin default
def zGH:=zh zWe λx=>((zoD x.1 x.2.1 x.2.2.1 x.2.2.2.1).1,zSs (zoD x.1 x.2.1 x.2.2.1 x.2.2.2.1).2)
theorem zUJ:SdP 180 zGH:=
 sT (cx':=z2n) (zi ⟨zpP,zfL,znr,zBj,zto,zi1,zrp,zSB,zSw,trivial⟩) call180 func180 (lOK aN) (sg:=⟨[.own 28,.pure],[]⟩)
abbrev zkS:=((yG×Unit)×Unit)×Unit×Unit×yA×Int×Int×Unit
abbrev zk3:=At×yA×Unit
abbrev zAy:=Int⊕(yG×At×yA)
abbrev zk1:=((yG×Unit)×Unit)×Unit×Unit×yE×Int×Int×Unit
abbrev zk0:=At×yE×Unit
abbrev zAQ:=Int⊕(At×yE)
def znN (zU:yC->yG->Bool×(yC×Int)) (to:yG) (t24:yA) (t25:Int) (t26:Int) (x_:At) (args:yA):Wy zkS zk3 zAy:=.i (decide (t26<t25)) (.i (decide (0<=t26)&&decide (t26<Int.ofNat t24.length)) (.bn (zU (t24.getD t26.toNat default) to) λr2=>.i (r2.2 != 0) (.k (.inl (r2.2))) (.i (decide ((args.length+[r2.1].length)*24<=zG)) (.h (((to,()),()),(),(),t24,t25,(IntKind.i64.wrap (t26+1)),()) (x_,(args++[r2.1]),())) .d)) .d) (.k (.inr (to,x_,args)))
def zxS (zU:yC->yG->Bool×(yC×Int)) (x:zkS) (y:zk3):=znN zU x.1.1.1 x.2.2.2.1 x.2.2.2.2.1 x.2.2.2.2.2.1 y.1 y.2.1
def zjF (zU:yC->yG->Bool×(yC×Int)) (n:Nat) (to:yG) (t24:yA) (t25:Int) (t26:Int) (x_:At) (args:yA):=zy (zxS zU) (.inl default) n (((to,()),()),(),(),t24,t25,t26,()) (x_,args,())
def zIz (r:zAy):LTree ty:=.ite (isL r) (.done .ret [.lit (.slice none 0 0),.lit (.int .i64 (getL r))] []) (.done (.exit 0) [.fn 84 ([.bptr ([.sl 51 (getR r).1]) 0]),.ptr 432 0,.own 433] [.box (base.enc 67 (getR r).2.1) false,.arr 23 (getR r).2.2 false])
def zLf:LL ty zkS:=za (lFn 84 (za (znH (za (lSl 51) zk) 0) zk)) (za (zdR 432 0) (za (zdh 433) (za (lSl 23) (za zj (za zj zk)))))
def zK1:BL ty zk3:=zff (zeK (λx=>(⟨x.1,⟨x.2.1,x.2.2.1⟩,x.2.2.2.1,x.2.2.2.2.1,x.2.2.2.2.2.1,x.2.2.2.2.2.2.1,⟨x.2.2.2.2.2.2.2.1,x.2.2.2.2.2.2.2.2.1,x.2.2.2.2.2.2.2.2.2.1⟩⟩:At)) (λx=>(x.Kind,x.Row.Table,x.Row.Seq,x.Ag,x.Func,x.Items,x.Op,x.Bd.Kind,x.Bd.Int,x.Bd.Text,())) (λ_=>rfl) (za (zI .i64) (za (zI .i64) (za (zI .i64) (za (lSl 23) (za (zI .i64) (za (lSl 100) (za (zI .i64) (za (zI .i64) (za (zI .i64) (za znV zk))))))))))) false (zdj 23 false (z6))
def zm4 (zU:yC->yG->Bool×(yC×Int)) (to:yG) (t74:yE) (t75:Int) (t76:Int) (x_:At) (items:yE):Wy zk1 zk0 zAQ:=.i (decide (t76<t75)) (.i (decide (0<=t76)&&decide (t76<Int.ofNat t74.length)) (.bn (zU (t74.getD t76.toNat default).Ann to) λr4=>.i (r4.2 != 0) (.k (.inl (r4.2))) (.i (decide ((items.length+[WO.mk (t74.getD t76.toNat default).Value r4.1].length)*56<=zG)) (.h (((to,()),()),(),(),t74,t75,(IntKind.i64.wrap (t76+1)),()) (x_,(items++[WO.mk (t74.getD t76.toNat default).Value r4.1]),())) .d)) .d) (.k (.inr (x_,items)))
def zwA (zU:yC->yG->Bool×(yC×Int)) (x:zk1) (y:zk0):=zm4 zU x.1.1.1 x.2.2.2.1 x.2.2.2.2.1 x.2.2.2.2.2.1 y.1 y.2.1
def ziO (zU:yC->yG->Bool×(yC×Int)) (n:Nat) (to:yG) (t74:yE) (t75:Int) (t76:Int) (x_:At) (items:yE):=zy (zwA zU) (.inl default) n (((to,()),()),(),(),t74,t75,t76,()) (x_,items,())
def zHC (r:zAQ):LTree ty:=.ite (isL r) (.done .ret [.lit (.slice none 0 0),.lit (.int .i64 (getL r))] []) (.done (.exit 3) [.ptr 432 0,.own 433] [.box (base.enc 67 (getR r).1) false,.arr 100 (getR r).2 false])
def zII:LL ty zk1:=za (lFn 84 (za (znH (za (lSl 51) zk) 0) zk)) (za (zdR 432 0) (za (zdh 433) (za (lSl 100) (za zj (za zj zk)))))
def zIS:BL ty zk0:=zff (zeK (λx=>(⟨x.1,⟨x.2.1,x.2.2.1⟩,x.2.2.2.1,x.2.2.2.2.1,x.2.2.2.2.2.1,x.2.2.2.2.2.2.1,⟨x.2.2.2.2.2.2.2.1,x.2.2.2.2.2.2.2.2.1,x.2.2.2.2.2.2.2.2.2.1⟩⟩:At)) (λx=>(x.Kind,x.Row.Table,x.Row.Seq,x.Ag,x.Func,x.Items,x.Op,x.Bd.Kind,x.Bd.Int,x.Bd.Text,())) (λ_=>rfl) (za (zI .i64) (za (zI .i64) (za (zI .i64) (za (lSl 23) (za (zI .i64) (za (lSl 100) (za (zI .i64) (za (zI .i64) (za (zI .i64) (za znV zk))))))))))) false (zdj 100 false (z6))
def zIt (x:zkS) (y:zk3):Nat:=(x.1.1.1.length+x.2.2.2.1.length+Int.toNat x.2.2.2.2.1+Int.toNat x.2.2.2.2.2.1+y.1.Ag.length+y.1.Items.length+y.2.1.length+1)
def zHQ (x:zk1) (y:zk0):Nat:=(x.1.1.1.length+x.2.2.2.1.length+Int.toNat x.2.2.2.2.1+Int.toNat x.2.2.2.2.2.1+y.1.Ag.length+y.1.Items.length+y.2.1.length+1)
def znF (zU:yC->yG->Bool×(yC×Int)):=zbY zbH 108 [(83,(zlz zU)),(84,zhR),(177,zFp),(178,zFi),(179,zD9),(180,zGH)] [] [(5,[(1,.keep),(2,.keep),(6,.own 23),(24,.keep),(25,.keep),(26,.keep)]),(21,[(1,.keep),(2,.keep),(11,.own 100),(74,.keep),(75,.keep),(76,.keep)])] [(5,1,(kpL [1,2,6])),(5,0,(kpL [4,5])),(21,4,(kpL [2,11])),(21,0,(kpL [4,5]))] [(5,spW zLf zK1 (zxS zU) (.inl default) zIz zIt),(21,spW zII zIS (zwA zU) (.inl default) zHC zHQ)] []
theorem zIB (zU:yC->yG->Bool×(yC×Int)):zA (znF zU) (lp (body f150) 0):=zp (id:=5) (hl:=rfl)
theorem zHO (zU:yC->yG->Bool×(yC×Int)):zA (znF zU) (lp (body f150) 1):=zp (id:=21) (hl:=rfl)
def zzL (zU:yC->yG->Bool×(yC×Int)) (x_:At) (to:yG):Wy0 (yC×Int):=.i (x_.Kind==0) (.bn (zii x_.Row to) λr6=>.k (r6,0)) (.bn (zjF zU (to.length+x_.Ag.length+(Int.ofNat x_.Ag.length).toNat +Int.toNat 0+x_.Ag.length+x_.Items.length+0+1) to x_.Ag (Int.ofNat x_.Ag.length) 0 (At.mk x_.Kind x_.Row x_.Ag x_.Func x_.Items x_.Op x_.Bd) []) λr12=>.i (isL r12) (.k ([],getL r12)) (.i ((getR r12).2.1.Kind==1) (.i (decide ((0:Int)<=(0:Int))&&decide (0<Int.ofNat (getR r12).2.2.length)) (.i (decide ((0:Int)<=(1:Int))&&decide (1<Int.ofNat (getR r12).2.2.length)) (.bn (zr4 ((getR r12).2.2.getD (Int.toNat 0) default) ((getR r12).2.2.getD (Int.toNat 1) default)) λr7=>.k (r7.1,r7.2)) .d) .d) (.i ((getR r12).2.1.Kind==2) (.i (decide ((0:Int)<=(0:Int))&&decide (0<Int.ofNat (getR r12).2.2.length)) (.bn (zrj ((getR r12).2.2.getD (Int.toNat 0) default)) λr8=>.k (r8.1,r8.2)) .d) (.i ((getR r12).2.1.Kind==3) (.i (decide ((0:Int)<=(0:Int))&&decide (0<Int.ofNat (getR r12).2.2.length)) (.bn (zpd ((getR r12).2.2.getD (Int.toNat 0) default)) λr9=>.k (r9.1,r9.2)) .d) (.bn (ziO zU ((getR r12).1.length+(getR r12).2.1.Items.length+(Int.ofNat (getR r12).2.1.Items.length).toNat +Int.toNat 0+(getR r12).2.1.Ag.length+(getR r12).2.1.Items.length+0+1) (getR r12).1 (getR r12).2.1.Items (Int.ofNat (getR r12).2.1.Items.length) 0 (At.mk (getR r12).2.1.Kind (getR r12).2.1.Row (getR r12).2.1.Ag (getR r12).2.1.Func (getR r12).2.1.Items (getR r12).2.1.Op (getR r12).2.1.Bd) []) λr11=>.i (isL r11) (.k ([],getL r11)) (.bn (zoD (getR r11).1.Func (getR r11).2 (getR r11).1.Op (getR r11).1.Bd) λr10=>.k (r10.1,r10.2)))))))
def zhW (zU:yC->yG->Bool×(yC×Int)) (x_:At) (to:yG):=(zzL zU x_ to).fin default
theorem zGQ (zU:yC->yG->Bool×(yC×Int)) (zSL:Sound Tryz.prog zbH 83 (zlz zU)):Sound Tryz.prog zbH 150 (zlJ (zhW zU)):=
 sU (cx':=(znF zU)) (zi ⟨zSL,zlx.nodr,zSA.nodr,zSm.nodr,zQR.nodr,zUJ.nodr,trivial⟩) call150 func150 (lOK (aC (zIB zU) (aC (zHO zU) aN))) (sg:=⟨[.own 28,.pure],[]⟩)
def zJN:Nat->(yC->yG->Bool×(yC×Int))×(At->yG->Bool×(yC×Int))
 | 0=>(λ_ _=>(false,default),λ_ _=>(false,default))
 | n+1=>(zlm ((zJN n).2),zhW ((zJN n).1))
def zlr (n:Nat):yC->yG->Bool×(yC×Int):=(zJN n).1
def zhT (n:Nat):At->yG->Bool×(yC×Int):=(zJN n).2
theorem zQ4 (n:Nat):zlr (n+1)=zlm (zhT n):=rfl
theorem zLm (n:Nat):zhT (n+1)=zhW (zlr n):=rfl
theorem zYd:∀ n,Sound Tryz.prog zbH 83 (zlz (zlr n))/\Sound Tryz.prog zbH 150 (zlJ (zhT n))
 | 0=>⟨z8 call83 (λ_=>rfl),z8 call150 (λ_=>rfl)⟩
 | n+1=>by
  have ih:=zYd n;exact ⟨zLP _ (ih.2),zGQ _ (ih.1)⟩
def zBg:yC->yG->Bool×(yC×Int):=zlr 1000
def zCV:Ab.Spec ty:=zlz zBg
theorem zO9:Sound Tryz.prog zbH 83 zCV:=(zYd 1000).1
def zKg:=zbl base 7 [(20,zch)]
def zzM (b:Bg):Wy0 (Bool):=.bn (zca b.To) λr0=>.k (!r0)
def zh4 (b:Bg):=(zzM b).fin default
def zMq:AL base (Bg×Unit):=zc (ze (zcl 51)) zo
def zhQ:=zh zMq λx=>((zh4 x.1).1,zYA (zh4 x.1).2)
theorem zlO:SdP 82 zhQ:=
 sT (cx':=zKg) (zi ⟨zco,trivial⟩) call82 func82 (lOK aN)
abbrev zd7:=yG×Unit×Int×Int×Unit
def zsH (s:yG) (t7:Int) (t8:Int):Wy zd7 Unit (Int⊕Unit):=.i (decide (t8<t7)) (.i (decide (0<=t8)&&decide (t8<Int.ofNat s.length)) (.bn (zh4 (s.getD t8.toNat default)) λr0=>.i (r0) (.k (.inl t8)) (.h (s,(),t7,(IntKind.i64.wrap (t8+1)),()) ())) .d) (.k (.inr ()))
def ziE (x:zd7) (y:Unit):=zsH x.1 x.2.2.1 x.2.2.2.1
def zsz (n:Nat) (s:yG) (t7:Int) (t8:Int):=zy (ziE) (.inl default) n (s,(),t7,t8,()) ()
def zsv:LL ty zd7:=za (lSl 51) (za (lFn 82 (zk)) (za zj (za zj zk)))
def zsa (x:zd7) (y:Unit):Nat:=(x.1.length+Int.toNat x.2.2.1+Int.toNat x.2.2.2.1+1)
def ziA:=zbY base 19 [(82,zhQ)] [] [(2,(kpL [0,1,7,8]))] [(2,1,[]),(2,0,(kpL [4]))] [(2,spW zsv zbcZ (ziE) (.inl default) zs0 zsa)] []
theorem zrS:zA ziA (lp (body f85) 0):=zp (id:=2) (hl:=rfl)
def zti (s:yG):Wy0 (Int):=.bn (zsz (s.length+(Int.ofNat s.length).toNat +Int.toNat 0+1) s (Int.ofNat s.length) 0) λr2=>.i (isL r2) (.k (getL r2)) (.k (-1:Int))
def zdN (s:yG):=(zti s).fin default
def zs2:AL base (yG×Unit×Unit):=zc (ze (vSl 51)) (zc (ze (vFn 82 zbT)) zo)
def zhE:=zh zs2 λx=>((zdN x.1).1,zTh (zdN x.1).2)
theorem zqi:SdP 85 zhE:=
 sT (cx':=ziA) (zi ⟨zlO,trivial⟩) call85 func85 (lOK (aC zrS aN))
def zpX:=zbl base 9 [(82,zhQ),(85,zhE)]
def zhA (s:yG):Wy0 (Bool):=.bn (zdN s) λr0=>.k (decide (r0≥0))
def zcq (s:yG):=(zhA s).fin default
def zgB:=zh zs2 λx=>((zcq x.1).1,zYA (zcq x.1).2)
theorem zof:SdP 81 zgB:=
 sT (cx':=zpX) (zi ⟨zlO,zqi,trivial⟩) call81 func81 (lOK aN)
def zOI:=zbl zbH 18 [(20,zch),(81,zgB),(82,zhQ),(83,zCV),(84,zhR)]
def zC5 (a:yC) (l:yG):Wy0 (yC×Int):=.bn (zca a) λr2=>.i (!r2) (.k ([],1)) (.bn (zcq l) λr1=>.i (r1) (.k ([],1)) (.bn (zBg a l) λr0=>.k (r0.1,r0.2)))
def zeO (a:yC) (l:yG):=(zC5 a l).fin default
def zQZ:AL zbH (yC×yG×Unit):=zc (ze (vSl 28)) (zc (ze (vSl 51)) zo)
def zo4:=zh zQZ λx=>((zeO x.1 x.2.1).1,zSs (zeO x.1 x.2.1).2)
theorem zxU:Sound Tryz.prog zbH 29 zo4:=
 sU (cx':=zOI) (zi ⟨zco.nodr,zof.nodr,zlO.nodr,zO9,zlx.nodr,trivial⟩) call29 func29 (lOK aN) (sg:=⟨[.own 28,.pure],[]⟩)
def zV7:=zbl zbH 11 [(29,zo4)]
def zHV (a:yC):Wy0 (yC):=.bn (zeO a []) λr0=>.k r0.1
def zl1 (a:yC):=(zHV a).fin default
def zvc:=zh z3K λx=>((zl1 x.1).1,zSt (zl1 x.1).2)
theorem zCU:Sound Tryz.prog zbH 68 zvc:=
 sU (cx':=zV7) (zi ⟨zxU,trivial⟩) call68 func68 (lOK aN) (sg:=⟨[.own 28],[]⟩)
def zM5:=zbl base 8 []
def zBo (x_:At):Wy0 (yC):=.k [TO.mk 1 [FO.mk (At.mk x_.Kind x_.Row x_.Ag x_.Func x_.Items x_.Op x_.Bd) 1]]
def zgW (x_:At):=(zBo x_).fin default
def zxO:=zh zDM λx=>((zgW x.1).1,zSt (zgW x.1).2)
theorem zJi:SdP 104 zxO:=
 sT (cx':=zM5) (zi trivial) call104 func104 (lOK aN) (sg:=⟨[.own 28],[]⟩)
def zSj:=zbl base 13 [(21,zoB),(104,zxO)]
def zFK (x_:At) (y_:At):Wy0 (Bool):=.bn (zie (zgW (At.mk x_.Kind x_.Row x_.Ag x_.Func x_.Items x_.Op x_.Bd)).2 (zgW (At.mk y_.Kind y_.Row y_.Ag y_.Func y_.Items y_.Op y_.Bd)).2) λr0=>.k r0
def zmS (x_:At) (y_:At):=(zFK x_ y_).fin default
def zB4:=zh zNg λx=>((zmS x.1 x.2.1).1,zYA (zmS x.1 x.2.1).2)
theorem zNY:SdP 52 zB4:=
 sT (cx':=zSj) (zi ⟨zvC,zJi,trivial⟩) call52 func52 (lOK aN)
def zKY:=zbl base 16 [(52,zB4)]
def zzK (g:Fc) (p1:Fc):Wy0 (Bool):=.i (decide (p1.Exp<=g.Exp)) (.bn (zmS (At.mk p1.At.Kind p1.At.Row p1.At.Ag p1.At.Func p1.At.Items p1.At.Op p1.At.Bd) (At.mk g.At.Kind g.At.Row g.At.Ag g.At.Func g.At.Items g.At.Op g.At.Bd)) λr0=>.k r0) (.k false)
def zeI (g:Fc) (p1:Fc):=(zzK g p1).fin default
def zLC:AL base (Fc×Fc×Unit):=zc (ze (zcl 69)) (zc (ze (zAz 69)) zo)
def zhS:=zh zLC λx=>((zeI x.1 x.2.1).1,zYA (zeI x.1 x.2.1).2)
theorem zlL:SdP 51 zhS:=
 sT (cx':=zKY) (zi ⟨zNY,trivial⟩) call51 func51 (lOK aN)
abbrev zer:=yD×(Fc×Unit)×Int×Int×Unit
def zjv (s:yD) (f:Fc) (t7:Int) (t8:Int):Wy zer Unit (Int⊕Unit):=.i (decide (t8<t7)) (.i (decide (0<=t8)&&decide (t8<Int.ofNat s.length)) (.bn (zeI (FO.mk (At.mk (s.getD t8.toNat default).At.Kind (s.getD t8.toNat default).At.Row (s.getD t8.toNat default).At.Ag (s.getD t8.toNat default).At.Func (s.getD t8.toNat default).At.Items (s.getD t8.toNat default).At.Op (s.getD t8.toNat default).At.Bd) (s.getD t8.toNat default).Exp) (FO.mk (At.mk f.At.Kind f.At.Row f.At.Ag f.At.Func f.At.Items f.At.Op f.At.Bd) f.Exp)) λr0=>.i (r0) (.k (.inl t8)) (.h (s,(f,()),t7,(IntKind.i64.wrap (t8+1)),()) ())) .d) (.k (.inr ()))
def zdz (x:zer) (y:Unit):=zjv x.1 x.2.1.1 x.2.2.1 x.2.2.2.1
def zjC (n:Nat) (s:yD) (f:Fc) (t7:Int) (t8:Int):=zy (zdz) (.inl default) n (s,(f,()),t7,t8,()) ()
def zub:LL ty zer:=za (lSl 69) (za (lFn 51 (za (znH (zeK (λx=>(⟨⟨x.1,⟨x.2.1,x.2.2.1⟩,x.2.2.2.1,x.2.2.2.2.1,x.2.2.2.2.2.1,x.2.2.2.2.2.2.1,⟨x.2.2.2.2.2.2.2.1,x.2.2.2.2.2.2.2.2.1,x.2.2.2.2.2.2.2.2.2.1⟩⟩,x.2.2.2.2.2.2.2.2.2.2.1⟩:Fc)) (λx=>(x.At.Kind,x.At.Row.Table,x.At.Row.Seq,x.At.Ag,x.At.Func,x.At.Items,x.At.Op,x.At.Bd.Kind,x.At.Bd.Int,x.At.Bd.Text,x.Exp,())) (λ_=>rfl) (za zj (za zj (za zj (za (lSl 23) (za zj (za (lSl 100) (za zj (za zj (za zj (za znV (za zj zk)))))))))))) 0) zk)) (za zj (za zj zk)))
def zs3 (x:zer) (y:Unit):Nat:=(x.1.length+x.2.1.1.At.Ag.length+x.2.1.1.At.Items.length+Int.toNat x.2.2.1+Int.toNat x.2.2.2.1+1000)
def zjH:=zbY base 19 [(51,zhS)] [] [(2,(kpL [0,1,7,8]))] [(2,1,[]),(2,0,(kpL [4]))] [(2,spW zub zbcZ (zdz) (.inl default) zs0 zs3)] []
theorem zts:zA zjH (lp (body f103) 0):=zp (id:=2) (hl:=rfl)
def zj7 (s:yD) (f:Fc):Wy0 (Int):=.bn (zjC (s.length+f.At.Ag.length+f.At.Items.length+(Int.ofNat s.length).toNat +Int.toNat 0+1000) s (FO.mk (At.mk f.At.Kind f.At.Row f.At.Ag f.At.Func f.At.Items f.At.Op f.At.Bd) f.Exp) (Int.ofNat s.length) 0) λr2=>.i (isL r2) (.k (getL r2)) (.k (-1:Int))
def zcX (s:yD) (f:Fc):=(zj7 s f).fin default
def zvE:AL base (yD×(Fc×Unit)×Unit):=zc (ze (vSl 69)) (zc (ze (vFn 51 (zdA (zAz 69) zbT))) zo)
def ziy:=zh zvE λx=>((zcX x.1 x.2.1.1).1,zTh (zcX x.1 x.2.1.1).2)
theorem zrA:SdP 103 ziy:=
 sT (cx':=zjH) (zi ⟨zlL,trivial⟩) call103 func103 (lOK (aC zts aN))
def zrG:=zbl base 9 [(51,zhS),(103,ziy)]
def ziC (s:yD) (f:Fc):Wy0 (Bool):=.bn (zcX s (FO.mk (At.mk f.At.Kind f.At.Row f.At.Ag f.At.Func f.At.Items f.At.Op f.At.Bd) f.Exp)) λr0=>.k (decide (r0≥0))
def zcD (s:yD) (f:Fc):=(ziC s f).fin default
def zhj:=zh zvE λx=>((zcD x.1 x.2.1.1).1,zYA (zcD x.1 x.2.1.1).2)
theorem zpq:SdP 49 zhj:=
 sT (cx':=zrG) (zi ⟨zlL,zrA,trivial⟩) call49 func49 (lOK aN)
def zPf:=zbl base 9 [(49,zhj),(51,zhS)]
def zCQ (f:Fc) (p1:Term):Wy0 (Bool):=.bn (zcD p1.Fs (FO.mk (At.mk f.At.Kind f.At.Row f.At.Ag f.At.Func f.At.Items f.At.Op f.At.Bd) f.Exp)) λr0=>.k (!r0)
def zfO (f:Fc) (p1:Term):=(zCQ f p1).fin default
def zRc:AL base (Fc×Term×Unit):=zc (ze (zcl 69)) (zc (ze (zAz 28)) zo)
def zke:=zh zRc λx=>((zfO x.1 x.2.1).1,zYA (zfO x.1 x.2.1).2)
theorem zn5:SdP 50 zke:=
 sT (cx':=zPf) (zi ⟨zpq,zlL,trivial⟩) call50 func50 (lOK aN)
abbrev zeG:=yD×(Term×Unit)×Int×Int×Unit
def zjZ (s:yD) (f:Term) (t7:Int) (t8:Int):Wy zeG Unit (Int⊕Unit):=.i (decide (t8<t7)) (.i (decide (0<=t8)&&decide (t8<Int.ofNat s.length)) (.bn (zfO (FO.mk (At.mk (s.getD t8.toNat default).At.Kind (s.getD t8.toNat default).At.Row (s.getD t8.toNat default).At.Ag (s.getD t8.toNat default).At.Func (s.getD t8.toNat default).At.Items (s.getD t8.toNat default).At.Op (s.getD t8.toNat default).At.Bd) (s.getD t8.toNat default).Exp) f) λr0=>.i (r0) (.k (.inl t8)) (.h (s,(f,()),t7,(IntKind.i64.wrap (t8+1)),()) ())) .d) (.k (.inr ()))
def zdK (x:zeG) (y:Unit):=zjZ x.1 x.2.1.1 x.2.2.1 x.2.2.2.1
def zjV (n:Nat) (s:yD) (f:Term) (t7:Int) (t8:Int):=zy (zdK) (.inl default) n (s,(f,()),t7,t8,()) ()
def zvB:LL ty zeG:=za (lSl 69) (za (lFn 50 (za (znH (zeK (λx=>(⟨x.1,x.2.1⟩:Term)) (λx=>(x.Cf,x.Fs,())) (λ_=>rfl) (za zj (za (lSl 69) zk))) 0) zk)) (za zj (za zj zk)))
def zt9 (x:zeG) (y:Unit):Nat:=(x.1.length+x.2.1.1.Fs.length+Int.toNat x.2.2.1+Int.toNat x.2.2.2.1+1000)
def zjQ:=zbY base 19 [(50,zke)] [] [(2,(kpL [0,1,7,8]))] [(2,1,[]),(2,0,(kpL [4]))] [(2,spW zvB zbcZ (zdK) (.inl default) zs0 zt9)] []
theorem zuO:zA zjQ (lp (body f103) 0):=zp (id:=2) (hl:=rfl)
def zkn (s:yD) (f:Term):Wy0 (Int):=.bn (zjV (s.length+f.Fs.length+(Int.ofNat s.length).toNat +Int.toNat 0+1000) s f (Int.ofNat s.length) 0) λr2=>.i (isL r2) (.k (getL r2)) (.k (-1:Int))
def zc6 (s:yD) (f:Term):=(zkn s f).fin default
def zvT:AL base (yD×(Term×Unit)×Unit):=zc (ze (vSl 69)) (zc (ze (vFn 50 (zdA (zAz 28) zbT))) zo)
def zi0:=zh zvT λx=>((zc6 x.1 x.2.1.1).1,zTh (zc6 x.1 x.2.1.1).2)
theorem zsN:SdP 103 zi0:=
 sT (cx':=zjQ) (zi ⟨zn5,trivial⟩) call103 func103 (lOK (aC zuO aN))
def zsL:=zbl base 9 [(50,zke),(103,zi0)]
def zjc (s:yD) (f:Term):Wy0 (Bool):=.bn (zc6 s f) λr0=>.k (decide (r0≥0))
def zcI (s:yD) (f:Term):=(zjc s f).fin default
def zhG:=zh zvT λx=>((zcI x.1 x.2.1.1).1,zYA (zcI x.1 x.2.1.1).2)
theorem zp3:SdP 49 zhG:=
 sT (cx':=zsL) (zi ⟨zn5,zsN,trivial⟩) call49 func49 (lOK aN)
def zVv:=zbl base 10 [(49,zhG),(50,zke)]
def zG2 (a:Term) (b:Term):Wy0 (Bool):=.bn (zcI a.Fs b) λr0=>.k (!r0)
def zf8 (a:Term) (b:Term):=(zG2 a b).fin default
def zmq:=zh zQ3 λx=>((zf8 x.1 x.2.1).1,zYA (zf8 x.1 x.2.1).2)
theorem zsb:SdP 14 zmq:=
 sT (cx':=zVv) (zi ⟨zp3,zn5,trivial⟩) call14 func14 (lOK aN)
abbrev zoJ:=yC×Unit×Int×Unit×yC×Int×Int×yC×Int×Int×Unit
abbrev zoM:=yC×Term×Unit
abbrev zFu:=(yC×yC×Int×Int×yC)⊕(yC×yC×Int×Int×yC×Term)
abbrev zoL:=yC×Unit×yC×Int×Int×Unit
abbrev zkN:=yC×Unit
def zwZ (a:yC) (i:Int) (t8:yC) (t9:Int) (t10:Int) (t15:yC) (t16:Int) (t17:Int) (out_:yC) (t:Term):Wy zoJ zoM zFu:=.i (decide (t17<t16)) (.i (decide (0<=t17)&&decide (t17<Int.ofNat t15.length)) (.i (t17 != i) (.bn (zf8 (t15.getD t17.toNat default) t) λr5=>.i (r5) (.bn (zf8 t (t15.getD t17.toNat default)) λr4=>.i (!r4) (.k (.inl (a,t8,t9,t10,out_))) (.i (decide (t17<i)) (.k (.inl (a,t8,t9,t10,out_))) (.h (a,(),i,(),t8,t9,t10,t15,t16,(IntKind.i64.wrap (t17+1)),()) (out_,t,())))) (.h (a,(),i,(),t8,t9,t10,t15,t16,(IntKind.i64.wrap (t17+1)),()) (out_,t,()))) (.h (a,(),i,(),t8,t9,t10,t15,t16,(IntKind.i64.wrap (t17+1)),()) (out_,t,()))) .d) (.k (.inr (a,t8,t9,t10,out_,t)))
def zFj (x:zoJ) (y:zoM):=zwZ x.1 x.2.2.1 x.2.2.2.2.1 x.2.2.2.2.2.1 x.2.2.2.2.2.2.1 x.2.2.2.2.2.2.2.1 x.2.2.2.2.2.2.2.2.1 x.2.2.2.2.2.2.2.2.2.1 y.1 y.2.1
def zwp (n:Nat) (a:yC) (i:Int) (t8:yC) (t9:Int) (t10:Int) (t15:yC) (t16:Int) (t17:Int) (out_:yC) (t:Term):=zy (zFj) (.inl default) n (a,(),i,(),t8,t9,t10,t15,t16,t17,()) (out_,t,())
def zTx (r:zFu):LTree ty:=.ite (isL r) (.done (.exit 1) [.sl 28 ((getL r).1),.own 196,.sl 28 ((getL r).2.1),.lit (.int .i64 ((getL r).2.2.1)),.lit (.int .i64 ((getL r).2.2.2.1))] [.arr 28 ((getL r).2.2.2.2) false]) (.done (.exit 2) [.sl 28 (getR r).1,.own 196,.ptr 197 0,.sl 28 (getR r).2.1,.lit (.int .i64 (getR r).2.2.1),.lit (.int .i64 (getR r).2.2.2.1)] [.arr 28 (getR r).2.2.2.2.1 false,.box (base.enc 28 (getR r).2.2.2.2.2) false])
def zU5:LL ty zoJ:=za (lSl 28) (za (zdh 196) (za zj (za (zdR 197 0) (za (lSl 28) (za zj (za zj (za (lSl 28) (za zj (za zj zk)))))))))
def zVD:BL ty zoM:=zdj 28 false (zff (zeK (λx=>(⟨x.1,x.2.1⟩:Term)) (λx=>(x.Cf,x.Fs,())) (λ_=>rfl) (za (zI .i64) (za (lSl 69) zk))) false (z6))
def zwF (a:yC) (t8:yC) (t9:Int) (t10:Int) (out_:yC):Wy zoL zkN (yC):=.i (decide (t10<t9)) (.i (decide (0<=t10)&&decide (t10<Int.ofNat t8.length)) (.bn (zwp (a.length+t10.toNat +t8.length+t9.toNat +t10.toNat +a.length+(Int.ofNat a.length).toNat +Int.toNat 0+out_.length+(t8.getD t10.toNat default).Fs.length+1000) a t10 t8 t9 t10 a (Int.ofNat a.length) 0 out_ (t8.getD t10.toNat default)) λr8=>.i (isL r8) (.h (((getL r8).1),(),((getL r8).2.1),((getL r8).2.2.1),(IntKind.i64.wrap ((getL r8).2.2.2.1+1)),()) (((getL r8).2.2.2.2),())) (.i (decide (((getR r8).2.2.2.2.1.length+[TO.mk 1 (getR r8).2.2.2.2.2.Fs].length)*32<=zG)) (.h ((getR r8).1,(),(getR r8).2.1,(getR r8).2.2.1,(IntKind.i64.wrap ((getR r8).2.2.2.1+1)),()) (((getR r8).2.2.2.2.1++[TO.mk 1 (getR r8).2.2.2.2.2.Fs]),())) .d)) .d) (.k out_)
def zFk (x:zoL) (y:zkN):=zwF x.1 x.2.2.1 x.2.2.2.1 x.2.2.2.2.1 y.1
def zxk (n:Nat) (a:yC) (t8:yC) (t9:Int) (t10:Int) (out_:yC):=zy (zFk) default n (a,(),t8,t9,t10,()) (out_,())
def zSR (r:yC):LTree ty:=.done (.exit 0) [.own 196] [.arr 28 r false]
def zVs:LL ty zoL:=za (lSl 28) (za (zdh 196) (za (lSl 28) (za zj (za zj zk))))
def zTV:BL ty zkN:=zdj 28 false (z6)
def zTL (x:zoJ) (y:zoM):Nat:=(x.1.length+Int.toNat x.2.2.1+x.2.2.2.2.1.length+Int.toNat x.2.2.2.2.2.1+Int.toNat x.2.2.2.2.2.2.1+x.2.2.2.2.2.2.2.1.length+Int.toNat x.2.2.2.2.2.2.2.2.1+Int.toNat x.2.2.2.2.2.2.2.2.2.1+y.1.length+y.2.1.Fs.length+1000)
def zSE (x:zoL) (y:zkN):Nat:=(x.1.length+x.2.2.1.length+Int.toNat x.2.2.2.1+Int.toNat x.2.2.2.2.1+y.1.length+1000)
def zwT:=zbY base 49 [(14,zmq)] [] [(3,[(0,.keep),(3,.own 28),(8,.keep),(9,.keep),(10,.keep)]),(6,(kpL [0,3,4,5,8,9,10,15,16,17]))] [(3,1,(kpL [3])),(6,3,(kpL [0,3,5,8,9,10])),(6,2,(kpL [0,3,8,9,10]))] [(6,spW zU5 zVD (zFj) (.inl default) zTx zTL),(3,spW zVs zTV (zFk) default zSR zSE)] []
theorem zSJ:zA zwT (lp (body f69) 1):=zp (id:=6) (hl:=rfl)
theorem zSk:zA zwT (lp (body f69) 0):=zp (id:=3) (hl:=rfl)
def zHo (a:yC):Wy0 (yC):=.bn (zxk (a.length+a.length+(Int.ofNat a.length).toNat +Int.toNat 0+0+1000) a a (Int.ofNat a.length) 0 []) λr10=>.k r10
def zkK (a:yC):=(zHo a).fin default
def zVX:AL base zkN:=zc (ze (vSl 28)) zo
def zsY:=zh zVX λx=>((zkK x.1).1,zSt (zkK x.1).2)
theorem zBk:SdP 69 zsY:=
 sT (cx':=zwT) (zi ⟨zsb,trivial⟩) call69 func69 (lOK (aC zSk (aC zSJ aN))) (sg:=⟨[.own 28],[]⟩)
def zXK:=zbl zbH 9 [(20,zch),(68,zvc),(69,zsY)]
def zH2 (a:yC):Wy0 (yC):=.bn (zca a) λr2=>.i (!r2) (.k []) (.bn (zkK a) λr1=>.bn (zl1 r1) λr0=>.k r0)
def zjl (a:yC):=(zH2 a).fin default
def znh:=zh z3K λx=>((zjl x.1).1,zSt (zjl x.1).2)
theorem ztA:Sound Tryz.prog zbH 22 znh:=
 sU (cx':=zXK) (zi ⟨zco.nodr,zCU,zBk.nodr,trivial⟩) call22 func22 (lOK aN) (sg:=⟨[.own 28],[]⟩)
def z3J:=zbl zbH 17 [(22,znh),(23,zAe)]
def zOo (a:yC) (b:yC):Wy0 (yC×Int):=.bn (zqM a b) λr1=>.bn (zjl r1.1) λr0=>.k (r0,r1.2)
def zxg (a:yC) (b:yC):=(zOo a b).fin default
def zIn:=zh z58 λx=>((zxg x.1 x.2.1).1,zSs (zxg x.1 x.2.1).2)
theorem zWL:Sound Tryz.prog zbH 35 zIn:=
 sU (cx':=z3J) (zi ⟨ztA,zHu,trivial⟩) call35 func35 (lOK aN) (sg:=⟨[.own 28,.pure],[]⟩)
def z4D:=zbl zbH 17 [(22,znh),(92,zz4)]
def zOx (a:yC) (b:yC):Wy0 (yC×Int):=.bn (zqU a b) λr1=>.bn (zjl r1.1) λr0=>.k (r0,r1.2)
def zwy (a:yC) (b:yC):=(zOx a b).fin default
def zIj:=zh z58 λx=>((zwy x.1 x.2.1).1,zSs (zwy x.1 x.2.1).2)
theorem zV8:Sound Tryz.prog zbH 37 zIj:=
 sU (cx':=z4D) (zi ⟨ztA,zG8,trivial⟩) call37 func37 (lOK aN) (sg:=⟨[.own 28,.pure],[]⟩)
abbrev zns:=yC×Unit×yF×Int×Int×Unit
abbrev znA:=yG×Unit
abbrev zDS:=yC×yG
def zjY (a:yC) (t9:yF) (t10:Int) (t11:Int) (l:yG):Wy zns znA zDS:=.i (decide (t11<t10)) (.i (decide (0<=t11)&&decide (t11<Int.ofNat t9.length)) (.i (decide ((l.length+[Bg.mk (t9.getD t11.toNat default) zkQ.2].length)*40<=zG)) (.h (a,(),t9,t10,(IntKind.i64.wrap (t11+1)),()) ((l++[Bg.mk (t9.getD t11.toNat default) zkQ.2]),())) .d) .d) (.k (a,l))
def zu4 (x:zns) (y:znA):=zjY x.1 x.2.2.1 x.2.2.2.1 x.2.2.2.2.1 y.1
def zDU (n:Nat) (a:yC) (t9:yF) (t10:Int) (t11:Int) (l:yG):=zy (zu4) default n (a,(),t9,t10,t11,()) (l,())
def zQC (r:zDS):LTree ty:=.done (.exit 0) [.sl 28 r.1,.own 108] [.arr 51 r.2 false]
def zSH:LL ty zns:=za (lSl 28) (za (zdh 108) (za (lSl 49) (za zj (za zj zk))))
def zTf:BL ty znA:=zdj 51 false (z6)
def zQ2 (x:zns) (y:znA):Nat:=(x.1.length+x.2.2.1.length+Int.toNat x.2.2.2.1+Int.toNat x.2.2.2.2.1+y.1.length+1000)
def zD0:=zbY zbH 27 [(29,zo4),(36,zmT)] [] [(3,[(0,.keep),(6,.own 51),(9,.keep),(10,.keep),(11,.keep)])] [(3,1,(kpL [0,6]))] [(3,spW zSH zTf (zu4) default zQC zQ2)] []
theorem zQQ:zA zD0 (lp (body f42) 0):=zp (id:=3) (hl:=rfl)
def zFn (a:yC) (present:yF):Wy0 (yC×Int):=.bn (zDU (a.length+present.length+(Int.ofNat present.length).toNat +Int.toNat 0+0+1000) a present (Int.ofNat present.length) 0 []) λr1=>.bn (zeO r1.1 r1.2) λr0=>.k (r0.1,r0.2)
def zmN (a:yC) (present:yF):=(zFn a present).fin default
def zUH:AL zbH (yC×yF×Unit):=zc (ze (vSl 28)) (zc (ze (vSl 49)) zo)
def zCm:=zh zUH λx=>((zmN x.1 x.2.1).1,zSs (zmN x.1 x.2.1).2)
theorem zNj:Sound Tryz.prog zbH 42 zCm:=
 sU (cx':=zD0) (zi ⟨zxU,zpP.nodr,trivial⟩) call42 func42 (lOK (aC zQQ aN)) (sg:=⟨[.own 28,.pure],[]⟩)
def zPr:=zbl base 10 [(67,ztf)]
def zCT (t:Term) (u:Term):Wy0 (Int):=.bn (zuq [t] [u]) λr0=>.k r0
def zbX (t:Term) (u:Term):=(zCT t u).fin default
def zpb:=zh zQ3 λx=>((zbX x.1 x.2.1).1,zTh (zbX x.1 x.2.1).2)
theorem zx3:SdP 97 zpb:=
 sT (cx':=zPr) (zi ⟨zBl,trivial⟩) call97 func97 (lOK aN)
def zjo (x:yC) (a b lim:Int):Bool×yC:=z2L zbX x a b lim
def zzv:Ab.Spec ty:=zh (cx:=base) (zc (zka 28) (zc (ze (zgG .i64)) (zc (ze (zgG .i64)) (zc (ze (zgG .i64)) (zc (ze (vFn 97 zbT)) zo))))) λx=>((zjo x.1 x.2.1 x.2.2.1 x.2.2.2.1).1,⟨[],[some ⟨28,(zjo x.1 x.2.1 x.2.2.1 x.2.2.2.1).2⟩]⟩)
theorem zAu (c:Unit) (x y:Term) (h:(zbX x y).1=true):zpb ((AV.agg (base.enc 28 x)::AV.agg (base.enc 28 y)::(zbT:VL base Unit).enc c).map Arg.pure)=some (true,⟨[.pure (.lit (.int .i64 (zbX x y).2))],[]⟩):=by
 rw [<- h]; kernel_rfl
theorem zyc:SdP 155 zzv:=by
 letI:DecidableEq (ty 28):=inferInstanceAs (DecidableEq Term)
 exact z8d (T:=28) zfi rfl Go.Proofs.Tryz.pdqTerm Tryz.isAgg28 (by unfold zu; exact Tryz.sizeOf28) call155 zx3 zbT (λc=>zbX) zAu
open Go.Proofs Go.RowKit
def zbv (x:yC):Bool×yC:=zu7 zbX x
def zeH:Ab.Spec ty:=zh (cx:=base) (zc (zka 28) (zc (ze (vFn 97 zbT)) zo)) λx=>((zbv x.1).1,⟨[],[some ⟨28,(zbv x.1).2⟩]⟩)
set_option maxHeartbeats 1000000 in
theorem zq3:SdP 96 zeH where
 enters:=call96
 calls:=λavs r hsp w F vs hF ha hsep=>by
  unfold zeH zh at hsp;split at hsp
  ·rename_i x hx;simp only [qa,qb] at hsp;obtain ⟨hpre,rfl⟩:=hsp;have hk:=(zc (zka 28) (zc (ze (vFn 97 zbT)) zo):AL base _).kind vs avs x hx;have ha':=(zc (zka 28) (zc (ze (vFn 97 zbT)) zo):AL base _).ok Tryz.prog zfi F w vs avs x hx ha;rw [hk] at hsep ⊢;clear hk hx ha;obtain ⟨l0,c,u0⟩:=x;obtain ⟨l,rfl⟩:∃ l:yC,l=l0:=⟨l0,rfl⟩;obtain ⟨v,vs',rfl,hv,hv'⟩:=ha'.inv;obtain ⟨fv,vs'',rfl,hfv,h0⟩:=hv'.inv;obtain rfl:=h0.nil_left.1
   have hsl:∃ p cap,v=.slice p l.length cap:=by
    obtain ⟨⟨xs,hown,_⟩,_⟩:=(show zcT base F w v 28 l/\∀ b,zbk v=some b->¬ F b from hv)
    rcases hown.2 with ⟨h1,h2⟩ | ⟨g0,cap,cur,h1,_⟩
    ·exact ⟨none,0,by rw [h1,show l.length=0 from h2]⟩
    ·exact ⟨_,cap,h1⟩
   have hok:SortOK (α:=Term) zbX l:=of_decide_eq_true (p:=SortOK (α:=Term) zbX l) hpre;have hlen:l.length<4611686018427387904:=hok.size;have hbl:Lib.bitLen l.length<4611686018427387904:=Nat.lt_of_le_of_lt (Lib.bitLen_le l.length 62 (by omega) (by omega)) (by omega)
   have hpp:(zjo l 0 (l.length:Int) ((Lib.bitLen l.length:Nat):Int)).1=true:=by
    show (decide (SortOK (α:=Term) zbX l)&&(decide ((0:Int)=0)&&(decide ((l.length:Int)=l.length)&&(decide ((0:Int)<=((Lib.bitLen l.length:Nat):Int))&&decide (((Lib.bitLen l.length:Nat):Int)<4611686018427387904)))))=true;simp only [qc,qe];exact ⟨hok,trivial,trivial,by omega,by omega⟩
   have hp:=(zyc).calls [.own 28 l,.pure (.lit (.int .i64 0)),.pure (.lit (.int .i64 (l.length:Int))),.pure (.lit (.int .i64 ((Lib.bitLen l.length:Nat):Int))),.pure (.fn 97 [])] ⟨[],[some ⟨28,(zbv l).2⟩]⟩
    (by rw [<- hpp]; kernel_rfl) w F [v,.int .i64 0,.int .i64 (l.length:Int),.int .i64 ((Lib.bitLen l.length:Nat):Int),fv] hF (.cons hv (.cons (Rep.lit _) (.cons (Rep.lit _) (.cons (Rep.lit _) (.cons hfv .nil))))) hsep
   replace hp:Calls Tryz.prog 155 #[v,.int .i64 0,.int .i64 (l.length:Int),.int .i64 ((Lib.bitLen l.length:Nat):Int),fv] w λe w'=>∃ u,e=.returned u/\Post base F w [v] ⟨[],[some ⟨28,(zbv l).2⟩]⟩ u w':=hp
   show Calls Tryz.prog 96 #[v,fv] w λe w'=>∃ u,e=.returned u/\Post base F w [v] ⟨[],[some ⟨28,(zbv l).2⟩]⟩ u w'
   have hb:Calls Tryz.prog 156 #[.int .u64 (l.length:Int)] w λe w'=>e=.returned (.int .i64 ((Lib.bitLen l.length:Nat):Int))/\w'=w:=by
    have h:=Any.bits_Len Go.Proofs.Tryz.lays125 (l.length:Int) w (by omega) (by omega)
    rwa [Int.toNat_natCast] at h
   have wr:IntKind.u64.wrap (l.length:Int)=l.length:=by simp [IntKind.wrap,IntKind.bits,IntKind.signed]; omega
   generalize (zbv l).2=res at hp ⊢;generalize hn:l.length=m at *;generalize Lib.bitLen m=bl at *;clear hpp hv hfv hsep hok hpre hF;obtain ⟨p,cap,rfl⟩:=hsl;clear hn
   go_enter func96,ntmps96
   go_wp2_with (first | (go_at_call 156; refine hb.mono ?_; rintro e w' ⟨rfl,rfl⟩) | (go_at_call 155; refine hp.mono ?_; rintro e w' ⟨u,rfl,hpost⟩; obtain rfl:=hpost.unit))
   go_end0
   exact ⟨_,rfl,hpost⟩
  ·cases hsp
end Go.Proofs.YtljlfiomikifjaaGreatDoor
namespace Go.Proofs.YtljlfiomikifjaaGreatDoor
open Go Go.Ab
open Go.Proofs.Tryz
abbrev zou:=Unit×Unit×yC×Int×Int×Int×Int×Unit
abbrev zoI:=yC×(Int×Unit×Unit)×yD×Unit
abbrev zFD:=yC×Int×Int×yC×Int×yD
abbrev zos:=Unit×yC×Int×Int×Unit
abbrev zkw:=yC×Unit
def zkA (t11:yC) (t12:Int) (t13:Int) (t23:Int) (t24:Int) (flat:yC) (t:Int) (b2:yD):Wy zou zoI zFD:=.i (decide (t24<t23)) (.i (decide (0<=t24)&&decide (t24<Int.ofNat b2.length)) (.i (decide (t24.toNat<b2.length)) (.h ((),(),t11,t12,t13,t23,(IntKind.i64.wrap (t24+1)),()) (flat,(t,(),()),(b2.set t24.toNat (FO.mk (At.mk (b2.getD t24.toNat default).At.Kind (b2.getD t24.toNat default).At.Row (b2.getD t24.toNat default).At.Ag (b2.getD t24.toNat default).At.Func (b2.getD t24.toNat default).At.Items (b2.getD t24.toNat default).At.Op (b2.getD t24.toNat default).At.Bd) 1)),())) .d) .d) (.k (t11,t12,t13,flat,t,b2))
def zw2 (x:zou) (y:zoI):=zkA x.2.2.1 x.2.2.2.1 x.2.2.2.2.1 x.2.2.2.2.2.1 x.2.2.2.2.2.2.1 y.1 y.2.1.1 y.2.2.1
def zw4 (n:Nat) (t11:yC) (t12:Int) (t13:Int) (t23:Int) (t24:Int) (flat:yC) (t:Int) (b2:yD):=zy (zw2) default n ((),(),t11,t12,t13,t23,t24,()) (flat,(t,(),()),b2,())
def zS6 (r:zFD):LTree ty:=.done (.exit 2) [.own 176,.ptr 177 0,.sl 28 r.1,.lit (.int .i64 r.2.1),.lit (.int .i64 r.2.2.1)] [.arr 28 r.2.2.2.1 false,.box ([.lit (.int .i64 r.2.2.2.2.1),.own 178]) false,.arr 69 r.2.2.2.2.2 false]
def zT4:LL ty zou:=za (zdh 176) (za (zdR 177 0) (za (lSl 28) (za zj (za zj (za zj (za zj zk))))))
def zT8:BL ty zoI:=zdj 28 false (zff (za (zI .i64) (za (zdh 178) zk)) false (zdj 69 false (z6)))
def zkJ (t11:yC) (t12:Int) (t13:Int) (flat:yC):Wy zos zkw (yC):=.i (decide (t13<t12)) (.i (decide (0<=t13)&&decide (t13<Int.ofNat t11.length)) (.bn (zc7 (t11.getD t13.toNat default).Fs) λr1=>.bn (zw4 (t11.length+t12.toNat +t13.toNat +(Int.ofNat r1.length).toNat +Int.toNat 0+flat.length+(t11.getD t13.toNat default).Cf.toNat +r1.length+1000) t11 t12 t13 (Int.ofNat r1.length) 0 flat (t11.getD t13.toNat default).Cf r1) λr0=>.i (decide ((r0.2.2.2.1.length+[TO.mk r0.2.2.2.2.1 r0.2.2.2.2.2].length)*32<=zG)) (.h ((),(r0.1),(r0.2.1),(IntKind.i64.wrap (r0.2.2.1+1)),()) ((r0.2.2.2.1++[TO.mk r0.2.2.2.2.1 r0.2.2.2.2.2]),())) .d) .d) (.k flat)
def zwC (x:zos) (y:zkw):=zkJ x.2.1 x.2.2.1 x.2.2.2.1 y.1
def zww (n:Nat) (t11:yC) (t12:Int) (t13:Int) (flat:yC):=zy (zwC) default n ((),t11,t12,t13,()) (flat,())
def zS1 (r:yC):LTree ty:=.done (.exit 0) [.own 176] [.arr 28 r false]
def zU6:LL ty zos:=za (zdh 176) (za (lSl 28) (za zj (za zj zk)))
def zVb:BL ty zkw:=zdj 28 false (z6)
def zTF (x:zou) (y:zoI):Nat:=(x.2.2.1.length+Int.toNat x.2.2.2.1+Int.toNat x.2.2.2.2.1+Int.toNat x.2.2.2.2.2.1+Int.toNat x.2.2.2.2.2.2.1+y.1.length+Int.toNat y.2.1.1+y.2.2.1.length+1000)
def zSi (x:zos) (y:zkw):Nat:=(x.2.1.length+Int.toNat x.2.2.1+Int.toNat x.2.2.2.1+y.1.length+1000)
def zwm:=zbY zbH 44 [(20,zch),(68,zvc),(69,zsY),(95,zgt),(96,zeH),(97,zpb)] [(96,[true,false])] [(5,[(4,.own 28),(11,.keep),(12,.keep),(13,.keep)]),(9,(kpL [4,6,11,12,13,23,24]))] [(5,1,(kpL [4])),(9,3,(kpL [4,6,11,12,13]))] [(9,spW zT4 zT8 (zw2) default zS6 zTF),(5,spW zU6 zVb (zwC) default zS1 zSi)] []
theorem zTp:zA zwm (lp (body f40) 1):=zp (id:=9) (hl:=rfl)
theorem zS8:zA zwm (lp (body f40) 0):=zp (id:=5) (hl:=rfl)
def zGs (a:yC):Wy0 (yC×Int):=.bn (zca a) λr8=>.i (!r8) (.k ([],1)) (.bn (zww (a.length+(Int.ofNat a.length).toNat +Int.toNat 0+0+1000) a (Int.ofNat a.length) 0 []) λr7=>.bn (zkK r7) λr6=>.bn (zbv r6) λr5=>.bn (zl1 r5) λr4=>.k (r4,0))
def zod (a:yC):=(zGs a).fin default
def zWu:AL zbH zkw:=zc (ze (vSl 28)) zo
def zC1:=zh zWu λx=>((zod x.1).1,zSs (zod x.1).2)
theorem zOB:Sound Tryz.prog zbH 40 zC1:=
 sU (cx':=zwm) (zi ⟨zco.nodr,zCU,zBk.nodr,zld.nodr,zq3.nodr,zx3.nodr,trivial⟩) call40 func40 (lOK (aC zS8 (aC zTp aN))) (sg:=⟨[.own 28,.pure],[]⟩)
def zMo:=zbl base 7 [(14,zmq)]
def zM9 (u:Term) (p1:Term):Wy0 (Bool):=.bn (zf8 u p1) λr0=>.k r0
def zs7 (u:Term) (p1:Term):=(zM9 u p1).fin default
def zNl:AL base (Term×Term×Unit):=zc (ze (zcl 28)) (zc (ze (zAz 28)) zo)
def ziH:=zh zNl λx=>((zs7 x.1 x.2.1).1,zYA (zs7 x.1 x.2.1).2)
theorem zmf:SdP 61 ziH:=
 sT (cx':=zMo) (zi ⟨zsb,trivial⟩) call61 func61 (lOK aN)
abbrev zef:=yC×(Term×Unit)×Int×Int×Unit
def ztF (s:yC) (f:Term) (t7:Int) (t8:Int):Wy zef Unit (Int⊕Unit):=.i (decide (t8<t7)) (.i (decide (0<=t8)&&decide (t8<Int.ofNat s.length)) (.bn (zs7 (s.getD t8.toNat default) f) λr0=>.i (r0) (.k (.inl t8)) (.h (s,(f,()),t7,(IntKind.i64.wrap (t8+1)),()) ())) .d) (.k (.inr ()))
def zjg (x:zef) (y:Unit):=ztF x.1 x.2.1.1 x.2.2.1 x.2.2.2.1
def zta (n:Nat) (s:yC) (f:Term) (t7:Int) (t8:Int):=zy (zjg) (.inl default) n (s,(f,()),t7,t8,()) ()
def ztC:LL ty zef:=za (lSl 28) (za (lFn 61 (za (znH (zeK (λx=>(⟨x.1,x.2.1⟩:Term)) (λx=>(x.Cf,x.Fs,())) (λ_=>rfl) (za zj (za (lSl 69) zk))) 0) zk)) (za zj (za zj zk)))
def zss (x:zef) (y:Unit):Nat:=(x.1.length+x.2.1.1.Fs.length+Int.toNat x.2.2.1+Int.toNat x.2.2.2.1+1000)
def zjb:=zbY base 19 [(61,ziH)] [] [(2,(kpL [0,1,7,8]))] [(2,1,[]),(2,0,(kpL [4]))] [(2,spW ztC zbcZ (zjg) (.inl default) zs0 zss)] []
theorem zsp:zA zjb (lp (body f113) 0):=zp (id:=2) (hl:=rfl)
def zuV (s:yC) (f:Term):Wy0 (Int):=.bn (zta (s.length+f.Fs.length+(Int.ofNat s.length).toNat +Int.toNat 0+1000) s f (Int.ofNat s.length) 0) λr2=>.i (isL r2) (.k (getL r2)) (.k (-1:Int))
def zfw (s:yC) (f:Term):=(zuV s f).fin default
def ztU:AL base (yC×(Term×Unit)×Unit):=zc (ze (vSl 28)) (zc (ze (vFn 61 (zdA (zAz 28) zbT))) zo)
def zh9:=zh ztU λx=>((zfw x.1 x.2.1.1).1,zTh (zfw x.1 x.2.1.1).2)
theorem zq7:SdP 113 zh9:=
 sT (cx':=zjb) (zi ⟨zmf,trivial⟩) call113 func113 (lOK (aC zsp aN))
def zqR:=zbl base 9 [(61,ziH),(113,zh9)]
def zrh (s:yC) (f:Term):Wy0 (Bool):=.bn (zfw s f) λr0=>.k (decide (r0≥0))
def zeW (s:yC) (f:Term):=(zrh s f).fin default
def zg7:=zh ztU λx=>((zeW x.1 x.2.1.1).1,zYA (zeW x.1 x.2.1.1).2)
theorem zoV:SdP 59 zg7:=
 sT (cx':=zqR) (zi ⟨zmf,zq7,trivial⟩) call59 func59 (lOK aN)
def zQr:=zbl base 8 [(59,zg7),(61,ziH)]
def zSo (t:Term) (p1:yC):Wy0 (Bool):=.bn (zeW p1 t) λr0=>.k (!r0)
def zyz (t:Term) (p1:yC):=(zSo t p1).fin default
def zSP:AL base (Term×(yC×Unit)×Unit):=zc (ze (zcl 28)) (zc (ze (zvh (zdA (vSl 28) zbT))) zo)
def zkY:=zh zSP λx=>((zyz x.1 x.2.1.1).1,zYA (zyz x.1 x.2.1.1).2)
theorem zoY:SdP 60 zkY:=
 sT (cx':=zQr) (zi ⟨zoV,zmf,trivial⟩) call60 func60 (lOK aN)
abbrev zew:=yC×((yC×Unit)×Unit)×Int×Int×Unit
def zum (s:yC) (f:yC) (t7:Int) (t8:Int):Wy zew Unit (Int⊕Unit):=.i (decide (t8<t7)) (.i (decide (0<=t8)&&decide (t8<Int.ofNat s.length)) (.bn (zyz (s.getD t8.toNat default) f) λr0=>.i (r0) (.k (.inl t8)) (.h (s,((f,()),()),t7,(IntKind.i64.wrap (t8+1)),()) ())) .d) (.k (.inr ()))
def zjA (x:zew) (y:Unit):=zum x.1 x.2.1.1.1 x.2.2.1 x.2.2.2.1
def zt1 (n:Nat) (s:yC) (f:yC) (t7:Int) (t8:Int):=zy (zjA) (.inl default) n (s,((f,()),()),t7,t8,()) ()
def zuu:LL ty zew:=za (lSl 28) (za (lFn 60 (za (znH (za (lSl 28) zk) 0) zk)) (za zj (za zj zk)))
def ztK (x:zew) (y:Unit):Nat:=(x.1.length+x.2.1.1.1.length+Int.toNat x.2.2.1+Int.toNat x.2.2.2.1+1000)
def zjw:=zbY base 19 [(60,zkY)] [] [(2,(kpL [0,1,7,8]))] [(2,1,[]),(2,0,(kpL [4]))] [(2,spW zuu zbcZ (zjA) (.inl default) zs0 ztK)] []
theorem ztm:zA zjw (lp (body f113) 0):=zp (id:=2) (hl:=rfl)
def zu0 (s:yC) (f:yC):Wy0 (Int):=.bn (zt1 (s.length+f.length+(Int.ofNat s.length).toNat +Int.toNat 0+1000) s f (Int.ofNat s.length) 0) λr2=>.i (isL r2) (.k (getL r2)) (.k (-1:Int))
def zfU (s:yC) (f:yC):=(zu0 s f).fin default
def zvx:AL base (yC×((yC×Unit)×Unit)×Unit):=zc (ze (vSl 28)) (zc (ze (vFn 60 (zdA (zvh (zdA (vSl 28) zbT)) zbT))) zo)
def ziz:=zh zvx λx=>((zfU x.1 x.2.1.1.1).1,zTh (zfU x.1 x.2.1.1.1).2)
theorem zrI:SdP 113 ziz:=
 sT (cx':=zjw) (zi ⟨zoY,trivial⟩) call113 func113 (lOK (aC ztm aN))
def zrV:=zbl base 9 [(60,zkY),(113,ziz)]
def zsC (s:yC) (f:yC):Wy0 (Bool):=.bn (zfU s f) λr0=>.k (decide (r0≥0))
def ze5 (s:yC) (f:yC):=(zsC s f).fin default
def zho:=zh zvx λx=>((ze5 x.1 x.2.1.1.1).1,zYA (ze5 x.1 x.2.1.1.1).2)
theorem zpe:SdP 59 zho:=
 sT (cx':=zrV) (zi ⟨zoY,zrI,trivial⟩) call59 func59 (lOK aN)
def zWP:=zbl base 17 [(20,zch),(59,zho),(60,zkY)]
def zZJ (a:yC) (b:yC):Wy0 (Bool):=.bn (zca a) λr2=>.i (!r2) (.k false) (.bn (zca b) λr1=>.i (!r1) (.k false) (.bn (ze5 a b) λr0=>.k (!r0)))
def zDk (a:yC) (b:yC):=(zZJ a b).fin default
def zD2:=zh zWv λx=>((zDk x.1 x.2.1).1,zYA (zDk x.1 x.2.1).2)
theorem zQ5:SdP 18 zD2:=
 sT (cx':=zWP) (zi ⟨zco,zpe,zoY,trivial⟩) call18 func18 (lOK aN)
def zdB (F:Term->Bool×Bool):Ab.Spec ty:=zh zTr λx=>((F x.1).1,zYA (F x.1).2)
def zcY (F:Fc->Bool×Bool):Ab.Spec ty:=zh zNU λx=>((F x.1).1,zYA (F x.1).2)
def zuo:AL base (yC×Unit×Unit):=zc (ze (vSl 28)) (zc (ze (vFn 141 zbT)) zo)
def zdC (F:yC->Bool×Int):Ab.Spec ty:=zh zuo λx=>((F x.1).1,zTh (F x.1).2)
def zdc (F:yC->Bool×Bool):Ab.Spec ty:=zh zuo λx=>((F x.1).1,zYA (F x.1).2)
def zuX:AL base (yD×Unit×Unit):=zc (ze (vSl 69)) (zc (ze (vFn 142 zbT)) zo)
def zdM (F:yD->Bool×Int):Ab.Spec ty:=zh zuX λx=>((F x.1).1,zTh (F x.1).2)
def zdk (F:yD->Bool×Bool):Ab.Spec ty:=zh zuX λx=>((F x.1).1,zYA (F x.1).2)
def zNk (zbc:yC->Bool×Bool) (zt:Term->Bool×Bool):=zbl base 6 [(59,(zdc zbc)),(141,(zdB zt))]
def zP7 (zbc:yC->Bool×Bool) (zt:Term->Bool×Bool) (a:yC):Wy0 (Bool):=.bn (zbc a) λr0=>.k (!r0)
def zDK (zbc:yC->Bool×Bool) (zt:Term->Bool×Bool) (a:yC):=(zP7 zbc zt a).fin default
theorem zI5 (zbc:yC->Bool×Bool) (zt:Term->Bool×Bool) (zqm:SdP 59 (zdc zbc)) (zgc:SdP 141 (zdB zt)):SdP 73 (zh3 (zDK zbc zt)):=
 sT (cx':=(zNk zbc zt)) (zi ⟨zqm,zgc,trivial⟩) call73 func73 (lOK aN)
def zIH (zbg:yD->Bool×Bool) (zl:Fc->Bool×Bool):=zbl base 6 [(49,(zdk zbg)),(142,(zcY zl))]
def zJ7 (zbg:yD->Bool×Bool) (zl:Fc->Bool×Bool) (t:Term):Wy0 (Bool):=.bn (zbg t.Fs) λr0=>.k r0
def zA0 (zbg:yD->Bool×Bool) (zl:Fc->Bool×Bool) (t:Term):=(zJ7 zbg zl t).fin default
theorem zFV (zbg:yD->Bool×Bool) (zl:Fc->Bool×Bool) (zqT:SdP 49 (zdk zbg)) (ze7:SdP 142 (zcY zl)):SdP 141 (zdB (zA0 zbg zl)):=
 sT (cx':=(zIH zbg zl)) (zi ⟨zqT,ze7,trivial⟩) call141 func141 (lOK aN)
def zFU (zdP:yC->Bool×Bool):=zbl base 22 [(73,(zh3 zdP))]
def zGt (zdP:yC->Bool×Bool) (f:Fc):Wy0 (Bool):=.i (f.At.Kind != 0) (.i (f.At.Kind != 2) (.k true) (.i (decide ((0:Int)<=(0:Int))&&decide (0<Int.ofNat f.At.Ag.length)) (.bn (zdP (f.At.Ag.getD (Int.toNat 0) default)) λr0=>.k (!r0)) .d)) (.k false)
def zwq (zdP:yC->Bool×Bool) (f:Fc):=(zGt zdP f).fin default
theorem zDp (zdP:yC->Bool×Bool) (zPI:SdP 73 (zh3 zdP)):SdP 142 (zcY (zwq zdP)):=
 sT (cx':=(zFU zdP)) (zi ⟨zPI,trivial⟩) call142 func142 (lOK aN)
def zp0 (zbq:yD->Bool×Int) (zl:Fc->Bool×Bool):=zbl base 9 [(103,(zdM zbq)),(142,(zcY zl))]
def zqK (zbq:yD->Bool×Int) (zl:Fc->Bool×Bool) (s:yD):Wy0 (Bool):=.bn (zbq s) λr0=>.k (decide (r0≥0))
def ziw (zbq:yD->Bool×Int) (zl:Fc->Bool×Bool) (s:yD):=(zqK zbq zl s).fin default
theorem zog (zbq:yD->Bool×Int) (zl:Fc->Bool×Bool) (zs6:SdP 103 (zdM zbq)) (ze7:SdP 142 (zcY zl)):SdP 49 (zdk (ziw zbq zl)):=
 sT (cx':=(zp0 zbq zl)) (zi ⟨zs6,ze7,trivial⟩) call49 func49 (lOK aN)
def zpr (zbp:yC->Bool×Int) (zt:Term->Bool×Bool):=zbl base 9 [(113,(zdC zbp)),(141,(zdB zt))]
def zpR (zbp:yC->Bool×Int) (zt:Term->Bool×Bool) (s:yC):Wy0 (Bool):=.bn (zbp s) λr0=>.k (decide (r0≥0))
def zh0 (zbp:yC->Bool×Int) (zt:Term->Bool×Bool) (s:yC):=(zpR zbp zt s).fin default
theorem zn2 (zbp:yC->Bool×Int) (zt:Term->Bool×Bool) (zso:SdP 113 (zdC zbp)) (zgc:SdP 141 (zdB zt)):SdP 59 (zdc (zh0 zbp zt)):=
 sT (cx':=(zpr zbp zt)) (zi ⟨zso,zgc,trivial⟩) call59 func59 (lOK aN)
abbrev zet:=yD×Unit×Int×Int×Unit
def zsJ (zl:Fc->Bool×Bool) (s:yD) (t7:Int) (t8:Int):Wy zet Unit (Int⊕Unit):=.i (decide (t8<t7)) (.i (decide (0<=t8)&&decide (t8<Int.ofNat s.length)) (.bn (zl (FO.mk (At.mk (s.getD t8.toNat default).At.Kind (s.getD t8.toNat default).At.Row (s.getD t8.toNat default).At.Ag (s.getD t8.toNat default).At.Func (s.getD t8.toNat default).At.Items (s.getD t8.toNat default).At.Op (s.getD t8.toNat default).At.Bd) (s.getD t8.toNat default).Exp)) λr0=>.i (r0) (.k (.inl t8)) (.h (s,(),t7,(IntKind.i64.wrap (t8+1)),()) ())) .d) (.k (.inr ()))
def ziv (zl:Fc->Bool×Bool) (x:zet) (y:Unit):=zsJ zl x.1 x.2.2.1 x.2.2.2.1
def zsA (zl:Fc->Bool×Bool) (n:Nat) (s:yD) (t7:Int) (t8:Int):=zy (ziv zl) (.inl default) n (s,(),t7,t8,()) ()
def zsB:LL ty zet:=za (lSl 69) (za (lFn 142 (zk)) (za zj (za zj zk)))
def zrv (x:zet) (y:Unit):Nat:=(x.1.length+Int.toNat x.2.2.1+Int.toNat x.2.2.2.1+1000)
def ziB (zl:Fc->Bool×Bool):=zbY base 19 [(142,(zcY zl))] [] [(2,(kpL [0,1,7,8]))] [(2,1,[]),(2,0,(kpL [4]))] [(2,spW zsB zbcZ (ziv zl) (.inl default) zs0 zrv)] []
theorem zrZ (zl:Fc->Bool×Bool):zA (ziB zl) (lp (body f103) 0):=zp (id:=2) (hl:=rfl)
def ztB (zl:Fc->Bool×Bool) (s:yD):Wy0 (Int):=.bn (zsA zl (s.length+(Int.ofNat s.length).toNat +Int.toNat 0+1000) s (Int.ofNat s.length) 0) λr2=>.i (isL r2) (.k (getL r2)) (.k (-1:Int))
def zj1 (zl:Fc->Bool×Bool) (s:yD):=(ztB zl s).fin default
theorem zqn (zl:Fc->Bool×Bool) (ze7:SdP 142 (zcY zl)):SdP 103 (zdM (zj1 zl)):=
 sT (cx':=(ziB zl)) (zi ⟨ze7,trivial⟩) call103 func103 (lOK (aC (zrZ zl) aN))
abbrev zeh:=yC×Unit×Int×Int×Unit
def zrN (zt:Term->Bool×Bool) (s:yC) (t7:Int) (t8:Int):Wy zeh Unit (Int⊕Unit):=.i (decide (t8<t7)) (.i (decide (0<=t8)&&decide (t8<Int.ofNat s.length)) (.bn (zt (s.getD t8.toNat default)) λr0=>.i (r0) (.k (.inl t8)) (.h (s,(),t7,(IntKind.i64.wrap (t8+1)),()) ())) .d) (.k (.inr ()))
def zh7 (zt:Term->Bool×Bool) (x:zeh) (y:Unit):=zrN zt x.1 x.2.2.1 x.2.2.2.1
def zrr (zt:Term->Bool×Bool) (n:Nat) (s:yC) (t7:Int) (t8:Int):=zy (zh7 zt) (.inl default) n (s,(),t7,t8,()) ()
def zrK:LL ty zeh:=za (lSl 28) (za (lFn 141 (zk)) (za zj (za zj zk)))
def zqV (x:zeh) (y:Unit):Nat:=(x.1.length+Int.toNat x.2.2.1+Int.toNat x.2.2.2.1+1000)
def zih (zt:Term->Bool×Bool):=zbY base 19 [(141,(zdB zt))] [] [(2,(kpL [0,1,7,8]))] [(2,1,[]),(2,0,(kpL [4]))] [(2,spW zrK zbcZ (zh7 zt) (.inl default) zs0 zqV)] []
theorem zqW (zt:Term->Bool×Bool):zA (zih zt) (lp (body f113) 0):=zp (id:=2) (hl:=rfl)
def zsy (zt:Term->Bool×Bool) (s:yC):Wy0 (Int):=.bn (zrr zt (s.length+(Int.ofNat s.length).toNat +Int.toNat 0+1000) s (Int.ofNat s.length) 0) λr2=>.i (isL r2) (.k (getL r2)) (.k (-1:Int))
def zjK (zt:Term->Bool×Bool) (s:yC):=(zsy zt s).fin default
theorem zpA (zt:Term->Bool×Bool) (zgc:SdP 141 (zdB zt)):SdP 113 (zdC (zjK zt)):=
 sT (cx':=(zih zt)) (zi ⟨zgc,trivial⟩) call113 func113 (lOK (aC (zqW zt) aN))
def zc4:Nat->(yC->Bool×Bool)×(Term->Bool×Bool)×(Fc->Bool×Bool)×(yC->Bool×Int)×(yC->Bool×Bool)×(yD->Bool×Int)×(yD->Bool×Bool)
 | 0=>(λ_=>(false,default),λ_=>(false,default),λ_=>(false,default),λ_=>(false,default),λ_=>(false,default),λ_=>(false,default),λ_=>(false,default))
 | n+1=>(zDK ((zc4 n).2.2.2.2.1) ((zc4 n).2.1),zA0 ((zc4 n).2.2.2.2.2.2) ((zc4 n).2.2.1),zwq ((zc4 n).1),zjK ((zc4 n).2.1),zh0 ((zc4 n).2.2.2.1) ((zc4 n).2.1),zj1 ((zc4 n).2.2.1),ziw ((zc4 n).2.2.2.2.2.1) ((zc4 n).2.2.1))
def zEb (n:Nat):yC->Bool×Bool:=(zc4 n).1
def zNp (n:Nat):Term->Bool×Bool:=(zc4 n).2.1
def zI8 (n:Nat):Fc->Bool×Bool:=(zc4 n).2.2.1
def ztS (n:Nat):yC->Bool×Int:=(zc4 n).2.2.2.1
def zrD (n:Nat):yC->Bool×Bool:=(zc4 n).2.2.2.2.1
def zva (n:Nat):yD->Bool×Int:=(zc4 n).2.2.2.2.2.1
def zsu (n:Nat):yD->Bool×Bool:=(zc4 n).2.2.2.2.2.2
theorem zRk:∀ n,SdP 73 (zh3 (zEb n))/\SdP 141 (zdB (zNp n))/\SdP 142 (zcY (zI8 n))/\SdP 113 (zdC (ztS n))/\SdP 59 (zdc (zrD n))/\SdP 103 (zdM (zva n))/\SdP 49 (zdk (zsu n))
 | 0=>⟨z8 call73 (λ_=>rfl),z8 call141 (λ_=>rfl),z8 call142 (λ_=>rfl),z8 call113 (λ_=>rfl),z8 call59 (λ_=>rfl),z8 call103 (λ_=>rfl),z8 call49 (λ_=>rfl)⟩
 | n+1=>by
  have ih:=zRk n;exact ⟨zI5 _ _ (ih.2.2.2.2.1) (ih.2.1),zFV _ _ (ih.2.2.2.2.2.2) (ih.2.2.1),zDp _ (ih.1),zpA _ (ih.2.1),zn2 _ _ (ih.2.2.2.1) (ih.2.1),zqn _ (ih.2.2.1),zog _ _ (ih.2.2.2.2.2.1) (ih.2.2.1)⟩
def zG5:yC->Bool×Bool:=zEb 1000
def zAW:Ab.Spec ty:=zh3 zG5
theorem zMm:SdP 73 zAW:=(zRk 1000).1
def zOn (r:yB):ARes ty:=⟨[.own 43 r],[]⟩
def zj0 (F:yC->Bool×yB):Ab.Spec ty:=zh z2g λx=>((F x.1).1,zOn (F x.1).2)
end Go.Proofs.YtljlfiomikifjaaGreatDoor
end
